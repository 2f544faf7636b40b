/- What u256's texts and bytes come to. -/
import Derived.Test.YtndockjflnicjaaU256b
import Derived.Laws.BytesArg
namespace Go.Proofs.Ytndockjflnicjaa
open Go.RowKit
set_option linter.unusedVariables false

/-- The small hexadecimal digit of d. -/
def hx (d : Nat) : UInt8 := if d < 10 then UInt8.ofNat (48 + d) else UInt8.ofNat (87 + d)
/-- L hexadecimal digits of m, the highest first. -/
def hexB (m L : Nat) : List UInt8 := (List.range L).map fun i => hx (m / 16 ^ (L - 1 - i) % 16)
def hexLen (m : Nat) : Nat := if m = 0 then 1 else (bl m + 3) / 4
def bstr (l : List UInt8) : ByteArray := ⟨l.toArray⟩
def u8cells (l : List UInt8) : Array Value := (l.map fun c => Value.int .u8 c.toNat).toArray
/-- The first k of a row, zeros behind. -/
def partB (l : List UInt8) (k : Nat) : Array Value := ((List.range l.length).map fun j => if j < k then Value.int .u8 (l.getD j 0).toNat else Value.int .u8 0).toArray

theorem hx_at (d : Nat) (hd : d < 16) (h) : (⟨#[48, 49, 50, 51, 52, 53, 54, 55, 56, 57, 97, 98, 99, 100, 101, 102]⟩ : ByteArray)[d]'h = hx d := by
  have all : ∀ d : Fin 16, (⟨#[48, 49, 50, 51, 52, 53, 54, 55, 56, 57, 97, 98, 99, 100, 101, 102]⟩ : ByteArray)[d.val]'(by have := d.isLt; exact this) = hx d.val := by decide +kernel
  exact all ⟨d, hd⟩
theorem hexDigit (m p : Nat) (hm : m < T) (hp : p < 64) : ∃ d : Nat, bits .and .u64 ((lim m (p / 16) : Nat) / 2 ^ (4 * (p % 16)) : Int) 15 = (d : Int) ∧ (d : Int) < 16 ∧ d = m / 16 ^ p % 16 := by
  refine ⟨m / 16 ^ p % 16, ?_, by omega, rfl⟩
  have hl := lim_lt m (p / 16)
  have e1 : ((lim m (p / 16) : Nat) / 2 ^ (4 * (p % 16)) : Int) = ((lim m (p / 16) / 2 ^ (4 * (p % 16)) : Nat) : Int) := by push_cast; rfl
  have hle : lim m (p / 16) / 2 ^ (4 * (p % 16)) ≤ lim m (p / 16) := Nat.div_le_self _ _
  rw [e1]
  have e2 := u64_and_nat (lim m (p / 16) / 2 ^ (4 * (p % 16))) 15 (by unfold W64 at hl; omega) (by omega)
  rw [show ((15 : Nat) : Int) = 15 from rfl] at e2
  rw [e2, nat_mask4]
  congr 1
  have e3 : (16 : Nat) ^ p = W64 ^ (p / 16) * 2 ^ (4 * (p % 16)) := by
    have h16 : (16 : Nat) = 2 ^ 4 := rfl
    have hW : W64 = 2 ^ 64 := rfl
    rw [h16, hW, ← Nat.pow_mul, ← Nat.pow_mul, ← Nat.pow_add]
    congr 1
    omega
  rw [e3, ← Nat.div_div_eq_div_mul]
  unfold lim
  generalize m / W64 ^ (p / 16) = q
  have hW : W64 = 2 ^ (4 * (p % 16)) * (16 * 2 ^ (60 - 4 * (p % 16))) := by
    have h16 : (16 : Nat) = 2 ^ 4 := rfl
    rw [h16, ← Nat.pow_add, ← Nat.pow_add, show 4 * (p % 16) + (4 + (60 - 4 * (p % 16))) = 64 by omega]
    rfl
  rw [hW, Nat.mod_mul_right_div_self, Nat.mod_mul_right_mod]
theorem partB_at (l : List UInt8) (k j : Nat) (h : j < l.length) : ∃ v, (partB l k)[j]? = some v := by
  unfold partB
  simp [h]
theorem partB_set (l : List UInt8) (k : Nat) (h : k < l.length) : (partB l k).setIfInBounds k (.int .u8 (l.getD k 0).toNat) = partB l (k + 1) := by
  unfold partB
  apply Array.ext
  · simp
  · intro i h1 h2
    simp only [List.setIfInBounds_toArray, List.getElem_toArray, List.getElem_set, List.getElem_map, List.getElem_range]
    by_cases e : k = i
    · subst e; simp
    · rw [if_neg e]
      by_cases h3 : i < k
      · rw [if_pos h3, if_pos (by omega)]
      · rw [if_neg h3, if_neg (by omega)]
theorem partB_zero (l : List UInt8) : partB l 0 = Array.replicate l.length (.int .u8 0) := by
  unfold partB
  apply Array.ext
  · simp
  · intro i h1 h2
    simp
theorem madeCells_one (z : Value) (n : Nat) : madeCells #[z] n = Array.replicate n z := by
  apply Array.ext'
  rw [toList_madeCells_one, Array.toList_replicate]
theorem partB_full (l : List UInt8) (k : Nat) (h : l.length = k) : partB l k = u8cells l := by
  unfold partB u8cells
  apply Array.ext
  · simp
  · intro i h1 h2
    have h3 : i < l.length := by simpa using h1
    simp [h3, ← h]
theorem strOf_u8 (l : List UInt8) : strOfNums (l.map fun c => (c.toNat : Int)) = bstr l := by
  unfold strOfNums bstr
  congr 1
  simp [Function.comp_def]

end Go.Proofs.Ytndockjflnicjaa
