/- A number as bytes. -/
import Derived.Test.YtndockjflnicjaaU256c
import Derived.Test.YtndockjflnicjaaRows8
namespace Go.Proofs.Ytndockjflnicjaa
open Go.RowKit
set_option linter.unusedVariables false

/-- m as L bytes, the highest first. -/
def byB (m L : Nat) : List UInt8 := (List.range L).map fun i => UInt8.ofNat (m / 256 ^ (L - 1 - i) % 256)
/-- The last k of a row, zeros before. -/
def lastB (l : List UInt8) (k : Nat) : Array Value := ((List.range l.length).map fun j => if l.length ≤ j + k then Value.int .u8 (l.getD j 0).toNat else Value.int .u8 0).toArray
theorem lastB_at (l : List UInt8) (k j : Nat) (h : j < l.length) : ∃ v, (lastB l k)[j]? = some v := by
  unfold lastB
  simp [h]
theorem lastB_set (l : List UInt8) (k j : Nat) (h : j + k + 1 = l.length) : (lastB l k).setIfInBounds j (.int .u8 (l.getD j 0).toNat) = lastB l (k + 1) := by
  unfold lastB
  apply Array.ext
  · simp
  · intro i h1 h2
    simp only [List.setIfInBounds_toArray, List.getElem_toArray, List.getElem_set, List.getElem_map, List.getElem_range]
    by_cases e : j = i
    · subst e; rw [if_pos rfl, if_pos (by omega)]
    · rw [if_neg e]
      by_cases h3 : l.length ≤ i + k
      · rw [if_pos h3, if_pos (by omega)]
      · rw [if_neg h3, if_neg (by omega)]
theorem lastB_zero (l : List UInt8) : lastB l 0 = Array.replicate l.length (.int .u8 0) := by
  unfold lastB
  apply Array.ext
  · simp
  · intro i h1 h2
    have : i < l.length := by simpa using h1
    simp; omega
theorem lastB_full (l : List UInt8) (k : Nat) (h : l.length = k) : lastB l k = u8cells l := by
  unfold lastB u8cells
  apply Array.ext
  · simp
  · intro i h1 h2
    have h3 : i < l.length := by simpa using h1
    simp [h3, ← h]
theorem lastB_size (l : List UInt8) (k : Nat) : (lastB l k).size = l.length := by simp [lastB]
theorem lim_byte (m i : Nat) (hi : i < 32) : lim m (i / 8) / 2 ^ (8 * (i % 8)) % 256 = m / 256 ^ i % 256 := by
  have e3 : (256 : Nat) ^ i = W64 ^ (i / 8) * 2 ^ (8 * (i % 8)) := by
    have h16 : (256 : Nat) = 2 ^ 8 := rfl
    have hW : W64 = 2 ^ 64 := rfl
    rw [h16, hW, ← Nat.pow_mul, ← Nat.pow_mul, ← Nat.pow_add]
    congr 1
    omega
  rw [e3, ← Nat.div_div_eq_div_mul]
  unfold lim
  generalize m / W64 ^ (i / 8) = q
  have hW : W64 = 2 ^ (8 * (i % 8)) * (256 * 2 ^ (56 - 8 * (i % 8))) := by
    have h16 : (256 : Nat) = 2 ^ 8 := rfl
    rw [h16, ← Nat.pow_add, ← Nat.pow_add, show 8 * (i % 8) + (8 + (56 - 8 * (i % 8))) = 64 by omega]
    rfl
  rw [hW, Nat.mod_mul_right_div_self, Nat.mod_mul_right_mod]
theorem byB_length (m L : Nat) : (byB m L).length = L := by simp [byB]
theorem byB_at (m L j : Nat) (h : j < L) : (byB m L).getD j 0 = UInt8.ofNat (m / 256 ^ (L - 1 - j) % 256) := by simp [byB, h]

theorem byteOf (m i : Nat) (hm : m < T) (hi : i < 32) : ∃ d : Nat, ((lim m (i / 8) : Nat) / 2 ^ (8 * (i % 8)) % 256 : Int) = (d : Int) ∧ d < 256 ∧ d = m / 256 ^ i % 256 := by
  refine ⟨m / 256 ^ i % 256, ?_, by omega, rfl⟩
  have e1 : ((lim m (i / 8) : Nat) / 2 ^ (8 * (i % 8)) : Int) = ((lim m (i / 8) / 2 ^ (8 * (i % 8)) : Nat) : Int) := by push_cast; rfl
  rw [e1, ← lim_byte m i hi]
  generalize lim m (i / 8) / 2 ^ (8 * (i % 8)) = q
  omega

end Go.Proofs.Ytndockjflnicjaa
