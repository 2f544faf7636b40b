/- What math/bits' Len64 and Mul64 come to (by the library's own text, walked). -/
import Derived.Test.YtfebknplkbeblaaProg
import Derived.Test.YtfebknplkbeblaaBase
import Derived.Lib.Strings
import Derived.Lib.Slices
import Derived.Lib.Small
import Derived.Lib.Walk
import Derived.Lib.BitFns
import Derived.Lib.Mul64
import Derived.Laws.Bits64b
namespace Go.Proofs.Ytfebknplkbeblaa
open Go.RowKit
set_option linter.unusedVariables false

/-- How many digits of two n has. -/
def bl (n : Nat) : Nat := if n = 0 then 0 else n.log2 + 1
theorem bl_half (n : Nat) (h : n ≠ 0) : bl n = 1 + bl (n / 2) := by
  unfold bl
  rw [if_neg h]
  by_cases h2 : n / 2 = 0
  · have : n = 1 := by omega
    subst this
    rfl
  · rw [if_neg h2, Nat.log2_def, if_pos (by omega)]
    omega
theorem bl_lib (n : Nat) : n < 2 ^ 64 → Lib.bitLen n = bl n := by
  induction n using Nat.strongRecOn with
  | _ n ih =>
    intro h
    by_cases h0 : n = 0
    · subst h0; rfl
    · rw [Lib.bitLen_half n h0 h, bl_half n h0, ih (n / 2) (by omega) (by omega)]
theorem bl_lt (n k : Nat) : bl n ≤ k ↔ n < 2 ^ k := by
  unfold bl
  split
  · rename_i h; subst h; simp [Nat.two_pow_pos]
  · rename_i h; rw [Nat.succ_le_iff, Nat.log2_lt h]

theorem len8tab_at' : ∀ i : Fin 256, (Lib.len8tab[i.val]'(by rw [Lib.len8tab_size]; exact i.isLt)).toNat = Lib.bitLen i.val := by decide +kernel
theorem len8tab_at (i : Nat) (h : i < Lib.len8tab.size) : (Lib.len8tab[i]'h).toNat = Lib.bitLen i := len8tab_at' ⟨i, by rw [← Lib.len8tab_size]; exact h⟩
theorem wl (c n : Nat) (h1 : c ≤ 56) (hn : n ≤ 8) : RowKit.wrap64 ((c : Int) + RowKit.wrap64 (n : Int)) = ((c + n : Nat) : Int) := by
  unfold RowKit.wrap64
  omega
theorem wl0 (n : Nat) (hn : n ≤ 8) : RowKit.wrap64 (RowKit.wrap64 (n : Int)) = (n : Int) := by
  unfold RowKit.wrap64
  omega


end Go.Proofs.Ytfebknplkbeblaa
