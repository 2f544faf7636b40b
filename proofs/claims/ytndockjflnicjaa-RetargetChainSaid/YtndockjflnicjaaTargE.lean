/- target.Work, of any bits. -/
import Derived.Test.YtndockjflnicjaaTargD
namespace Go.Proofs.Ytndockjflnicjaa
open Go.RowKit
set_option linter.unusedVariables false
def workR (b : Nat) : Nat := if (expR b).2 = 0 then (T - 1 - (expR b).1) / ((expR b).1 + 1) + 1 else 0
theorem expV_top (e m : Nat) (hm : m < 8388608) : expV e m + 1 ≠ T := by
  have hT : T = 256 * (T / 256) := by decide
  have hbig : 8388609 < T := by decide
  unfold expV
  split
  · have := Nat.div_le_self m (2 ^ (8 * (3 - e)))
    omega
  · by_cases h3 : e = 3
    · subst h3
      rw [show 8 * (3 - 3) = 0 from rfl, Nat.pow_zero]
      omega
    · have e2 : (2 : Nat) ^ (8 * (e - 3)) = 256 * 2 ^ (8 * (e - 4)) := by
        rw [show (256 : Nat) = 2 ^ 8 from rfl, ← Nat.pow_add]; congr 1; omega
      rw [e2, show m * (256 * 2 ^ (8 * (e - 4))) = 256 * (m * 2 ^ (8 * (e - 4))) by rw [Nat.mul_left_comm]]
      generalize m * 2 ^ (8 * (e - 4)) = k
      omega
theorem expR_good (b t : Nat) (h : expR b = (t, 0)) : 0 < t ∧ t + 1 < T := by
  unfold expR at h
  split at h
  · injection h with _ h2; cases h2
  · split at h
    · injection h with _ h2; cases h2
    · rename_i h1 h2
      injection h with h3 _
      have := expV_top (b / 16777216) (b % 8388608) (Nat.mod_lt _ (by omega))
      omega
end Go.Proofs.Ytndockjflnicjaa
