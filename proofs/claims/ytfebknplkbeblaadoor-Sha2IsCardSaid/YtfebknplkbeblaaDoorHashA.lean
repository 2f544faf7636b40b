/- What a hash is as a number and as bytes. -/
import Derived.Test.YtfebknplkbeblaaDoorU256d
namespace Go.Proofs.YtfebknplkbeblaaDoor
open Go.RowKit
set_option linter.unusedVariables false

/-- The number of the first k bytes, the lowest first. -/
def leN (l : List UInt8) : Nat → Nat
  | 0 => 0
  | k + 1 => leN l k + (l.getD k 0).toNat * 256 ^ k
theorem leN_0 (l : List UInt8) : leN l 0 = 0 := rfl
theorem leN_succ (l : List UInt8) (k : Nat) : leN l (k + 1) = leN l k + (l.getD k 0).toNat * 256 ^ k := rfl
theorem leN_lt (l : List UInt8) (k : Nat) : leN l k < 256 ^ k := by
  induction k with
  | zero => simp [leN]
  | succ k ih =>
    have h := (l.getD k 0).toNat_lt
    have e : 256 ^ (k + 1) = 256 ^ k + 255 * 256 ^ k := by rw [Nat.pow_succ]; omega
    have hm : (l.getD k 0).toNat * 256 ^ k ≤ 255 * 256 ^ k := Nat.mul_le_mul_right _ (by omega)
    unfold leN
    omega
theorem leN_T (l : List UInt8) (k : Nat) (h : k ≤ 32) : leN l k < T := by
  have h1 := leN_lt l k
  have h2 : 256 ^ k ≤ 256 ^ 32 := Nat.pow_le_pow_right (by decide) h
  have h3 : (256 : Nat) ^ 32 = T := by decide
  omega
/-- m as 32 bytes, the lowest first. -/
def leB (m : Nat) : List UInt8 := (List.range 32).map fun i => UInt8.ofNat (m / 256 ^ i % 256)
theorem leB_length (m : Nat) : (leB m).length = 32 := by simp [leB]
theorem leN_byte (l : List UInt8) (k i : Nat) (h : i < k) : leN l k / 256 ^ i % 256 = (l.getD i 0).toNat := by
  induction k with
  | zero => omega
  | succ k ih =>
    unfold leN
    by_cases e : i = k
    · subst e
      have h1 := leN_lt l i
      have h2 := (l.getD i 0).toNat_lt
      rw [Nat.add_mul_div_right _ _ (Nat.pow_pos (by decide)), Nat.div_eq_of_lt h1, Nat.zero_add, Nat.mod_eq_of_lt h2]
    · rw [← ih (by omega)]
      have e2 : (l.getD k 0).toNat * 256 ^ k = ((l.getD k 0).toNat * 256 ^ (k - i - 1) * 256) * 256 ^ i := by
        rw [Nat.mul_assoc, Nat.mul_assoc, ← Nat.pow_succ', ← Nat.pow_add]
        congr 2
        omega
      rw [e2, Nat.add_mul_div_right _ _ (Nat.pow_pos (by decide)), Nat.add_mul_mod_self_right]
theorem leB_leN (l : List UInt8) (h : l.length = 32) : leB (leN l 32) = l := by
  unfold leB
  apply List.ext_getElem
  · simp [h]
  · intro i h1 h2
    simp only [List.getElem_map, List.getElem_range]
    rw [leN_byte l 32 i (by omega)]
    simp [List.getD, h2]
theorem leN_zero (l : List UInt8) (k : Nat) : leN l k = 0 ↔ ∀ i, i < k → l.getD i 0 = 0 := by
  induction k with
  | zero => simp [leN]
  | succ k ih =>
    unfold leN
    constructor
    · intro h i hi
      have h1 : leN l k = 0 := by omega
      have h2 : (l.getD k 0).toNat * 256 ^ k = 0 := by omega
      by_cases e : i = k
      · subst e
        have h3 := (Nat.mul_eq_zero.1 h2).resolve_right (by have := Nat.pow_pos (n := i) (show 0 < 256 by decide); omega)
        exact UInt8.toNat_inj.1 (by simpa using h3)
      · exact ih.1 h1 i (by omega)
    · intro h
      rw [ih.2 fun i hi => h i (by omega), h k (by omega)]
      simp
theorem lim_leN_other (l : List UInt8) (k j : Nat) (hj : j ≠ k / 8) (hk : k < 32) : lim (leN l (k + 1)) j = lim (leN l k) j := by
  have h1 := leN_lt l k
  have h0 := leN_lt l (k + 1)
  have hW : W64 = 256 ^ 8 := by decide
  unfold lim
  rw [hW, ← Nat.pow_mul]
  by_cases hlt : k / 8 < j
  · have e0 : 256 ^ (k + 1) ≤ 256 ^ (8 * j) := Nat.pow_le_pow_right (by decide) (by omega)
    have e1 : 256 ^ k ≤ 256 ^ (8 * j) := Nat.pow_le_pow_right (by decide) (by omega)
    rw [Nat.div_eq_of_lt (by omega), Nat.div_eq_of_lt (by omega)]
  · rw [leN_succ]
    have e2 : (l.getD k 0).toNat * 256 ^ k = ((l.getD k 0).toNat * 256 ^ (k - 8 * j - 8) * 256 ^ 8) * 256 ^ (8 * j) := by
      rw [Nat.mul_assoc, Nat.mul_assoc, ← Nat.pow_add, ← Nat.pow_add]
      congr 2
      omega
    rw [e2, Nat.add_mul_div_right _ _ (Nat.pow_pos (by decide)), Nat.add_mul_mod_self_right]
theorem lim_leN_at (l : List UInt8) (k : Nat) (hk : k < 32) : lim (leN l (k + 1)) (k / 8) = lim (leN l k) (k / 8) + (l.getD k 0).toNat * 2 ^ (8 * (k % 8)) ∧ lim (leN l k) (k / 8) < 2 ^ (8 * (k % 8)) := by
  have h1 := leN_lt l k
  have hW : W64 = 256 ^ 8 := by decide
  have hp : (2 : Nat) ^ (8 * (k % 8)) = 256 ^ (k % 8) := by rw [Nat.pow_mul]
  have hs : (256 : Nat) ^ k = 256 ^ (k % 8) * 256 ^ (8 * (k / 8)) := by rw [← Nat.pow_add]; congr 1; omega
  have hb := (l.getD k 0).toNat_lt
  have hq : leN l k / 256 ^ (8 * (k / 8)) < 256 ^ (k % 8) := Nat.div_lt_of_lt_mul (by rw [Nat.mul_comm, ← hs]; exact h1)
  have hle : (256 : Nat) ^ (k % 8) ≤ 256 ^ 7 := Nat.pow_le_pow_right (by decide) (by omega)
  unfold lim
  rw [hW, ← Nat.pow_mul, hp]
  rw [leN_succ, hs, ← Nat.mul_assoc, Nat.add_mul_div_right _ _ (Nat.pow_pos (by decide))]
  have hm : (l.getD k 0).toNat * 256 ^ (k % 8) ≤ 255 * 256 ^ (k % 8) := Nat.mul_le_mul_right _ (by omega)
  generalize leN l k / 256 ^ (8 * (k / 8)) = a at *
  generalize 256 ^ (k % 8) = c at *
  generalize (l.getD k 0).toNat * c = d at *
  have e7 : (256 : Nat) ^ 7 = 72057594037927936 := by decide
  have e8 : (256 : Nat) ^ 8 = 18446744073709551616 := by decide
  rw [e7] at hle
  rw [e8, Nat.mod_eq_of_lt (by omega), Nat.mod_eq_of_lt (by omega)]
  exact ⟨rfl, hq⟩
end Go.Proofs.YtfebknplkbeblaaDoor
