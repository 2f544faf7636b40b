/- What u256's moves come to. -/
import Derived.Test.YtfebknplkbeblaaDoorU256e
namespace Go.Proofs.YtfebknplkbeblaaDoor
open Go.RowKit
set_option linter.unusedVariables false

/-- A part of m moved down. -/
theorem lim_shr (m n i : Nat) (hm : m < T) (hi : i < 4) : lim (m / 2 ^ n) i = (if i + n / 64 < 4 then lim m (i + n / 64) / 2 ^ (n % 64) else 0) + (if i + n / 64 < 3 then lim m (i + n / 64 + 1) * 2 ^ (64 - n % 64) % W64 else 0) := by
  have hW : W64 = 2 ^ 64 := rfl
  have e0 : m / 2 ^ n / W64 ^ i = m / W64 ^ (i + n / 64) / 2 ^ (n % 64) := by
    rw [Nat.div_div_eq_div_mul, Nat.div_div_eq_div_mul, hW, ← Nat.pow_mul, ← Nat.pow_mul, ← Nat.pow_add, ← Nat.pow_add]
    congr 2
    omega
  have e1 : lim (m / 2 ^ n) i = m / W64 ^ (i + n / 64) / 2 ^ (n % 64) % W64 := by unfold lim; rw [e0]
  have e2 : m / W64 ^ (i + n / 64 + 1) = m / W64 ^ (i + n / 64) / W64 := by rw [Nat.pow_succ, Nat.div_div_eq_div_mul]
  have hs : n % 64 < 64 := Nat.mod_lt _ (by decide)
  have hz : 4 ≤ i + n / 64 → m / W64 ^ (i + n / 64) = 0 := fun h => Nat.div_eq_of_lt (Nat.lt_of_lt_of_le hm (by rw [T_eq]; exact Nat.pow_le_pow_right W64_pos h))
  have hz2 : 3 ≤ i + n / 64 → m / W64 ^ (i + n / 64 + 1) = 0 := fun h => Nat.div_eq_of_lt (Nat.lt_of_lt_of_le hm (by rw [T_eq]; exact Nat.pow_le_pow_right W64_pos (by omega)))
  rw [e1]
  unfold lim
  generalize hq : m / W64 ^ (i + n / 64) = q at *
  rw [e2] at hz2 ⊢
  generalize n % 64 = s at *
  have hWs : W64 = 2 ^ s * 2 ^ (64 - s) := by rw [hW, ← Nat.pow_add]; congr 1; omega
  have hp1 : 0 < 2 ^ s := Nat.pow_pos (by decide)
  have hp2 : 0 < 2 ^ (64 - s) := Nat.pow_pos (by decide)
  -- q / 2^s mod W64, q = W64 * h + l
  have key : q / 2 ^ s % W64 = q % W64 / 2 ^ s + q / W64 % W64 * 2 ^ (64 - s) % W64 := by
    have h1 : q / 2 ^ s = q % W64 / 2 ^ s + q / W64 * 2 ^ (64 - s) := by
      have h := Nat.div_add_mod q W64
      conv => lhs; rw [← h, hWs, Nat.mul_assoc, Nat.add_comm, Nat.add_mul_div_left _ _ hp1]
      rw [Nat.mul_comm (2 ^ (64 - s)), ← hWs]
    have h2 : q % W64 / 2 ^ s < 2 ^ (64 - s) := by
      rw [Nat.div_lt_iff_lt_mul hp1, Nat.mul_comm, ← hWs]
      exact Nat.mod_lt _ W64_pos
    have h3 : q / W64 % W64 * 2 ^ (64 - s) % W64 = q / W64 * 2 ^ (64 - s) % W64 := by rw [Nat.mul_mod, Nat.mod_mod, ← Nat.mul_mod]
    rw [h1, h3]
    generalize q % W64 / 2 ^ s = x at *
    generalize q / W64 = z at *
    rw [hWs]
    generalize 2 ^ (64 - s) = P at *
    generalize 2 ^ s = S at *
    rw [Nat.mul_mod_mul_right, Nat.add_mod, Nat.mul_mod_mul_right]
    have h5 : z % S < S := Nat.mod_lt _ hp1
    have h6 : (z % S + 1) * P ≤ S * P := Nat.mul_le_mul_right _ h5
    rw [Nat.add_mul] at h6
    have h7 : P ≤ S * P := Nat.le_mul_of_pos_left _ hp1
    rw [Nat.mod_eq_of_lt (show x < S * P by omega), Nat.mod_eq_of_lt (by omega)]
  rw [key]
  by_cases a : i + n / 64 < 3
  · rw [if_pos a, if_pos (by omega)]
  · rw [if_neg a, hz2 (by omega)]
    by_cases b : i + n / 64 < 4
    · rw [if_pos b]; simp
    · rw [if_neg b, hz (by omega)]; simp
theorem shr_or (m n i : Nat) (hm : m < T) (hi : i < 4) (h : i + n / 64 < 3) :
    bits .or .u64 ((lim m (i + n / 64) : Nat) / 2 ^ (n % 64) : Int) (IntKind.u64.wrap ((lim m (i + n / 64 + 1) : Nat) * 2 ^ (64 - n % 64) : Int)) = (lim (m / 2 ^ n) i : Nat) := by
  have e := lim_shr m n i hm hi
  rw [if_pos (by omega), if_pos h] at e
  rw [e]
  have l1 := lim_lt m (i + n / 64)
  have l2 := lim_lt m (i + n / 64 + 1)
  have hs : n % 64 < 64 := Nat.mod_lt _ (by decide)
  generalize lim m (i + n / 64) = a at *
  generalize lim m (i + n / 64 + 1) = b at *
  generalize n % 64 = s at *
  clear e
  have hWs : W64 = 2 ^ s * 2 ^ (64 - s) := by rw [show W64 = 2 ^ 64 from rfl, ← Nat.pow_add]; congr 1; omega
  have hp1 : 0 < 2 ^ s := Nat.pow_pos (by decide)
  have ha : a / 2 ^ s < 2 ^ (64 - s) := by
    rw [Nat.div_lt_iff_lt_mul hp1, Nat.mul_comm, ← hWs]
    exact l1
  have w1 : ((a : Nat) / 2 ^ s : Int) = ((a / 2 ^ s : Nat) : Int) := by push_cast; rfl
  have w2 : IntKind.u64.wrap ((b : Nat) * 2 ^ (64 - s) : Int) = ((b * 2 ^ (64 - s) % W64 : Nat) : Int) := by
    have e : ((b : Nat) * 2 ^ (64 - s) : Int) = ((b * 2 ^ (64 - s) : Nat) : Int) := by push_cast; rfl
    rw [e]
    generalize b * 2 ^ (64 - s) = y
    unfold W64
    simp [IntKind.wrap, IntKind.signed, IntKind.bits]
  have hb : b * 2 ^ (64 - s) % W64 = (b % 2 ^ s) * 2 ^ (64 - s) := by rw [hWs, Nat.mul_mod_mul_right]
  have hb2 : b * 2 ^ (64 - s) % W64 < W64 := Nat.mod_lt _ W64_pos
  have ha2 : a / 2 ^ s < W64 := Nat.lt_of_le_of_lt (Nat.div_le_self _ _) l1
  rw [w1, w2, u64_or_nat _ _ (by unfold W64 at ha2; omega) (by unfold W64 at hb2; unfold W64; omega)]
  congr 1
  rw [hb, Nat.or_comm, ← Nat.shiftLeft_eq, ← Nat.shiftLeft_add_eq_or_of_lt ha]
  omega

theorem lim_high (r i W : Nat) (h : r < W64 ^ W) (hi : W ≤ i) : lim r i = 0 := by
  unfold lim
  rw [Nat.div_eq_of_lt (Nat.lt_of_lt_of_le h (Nat.pow_le_pow_right W64_pos hi))]
  rfl
theorem outs_high (r k : Nat) (hk : k ≤ 4) (h : ∀ i, k ≤ i → i < 4 → lim r i = 0) : outs r k = ucells r := by
  have h0 := h 0
  have h1 := h 1
  have h2 := h 2
  have h3 := h 3
  rcases (show k = 0 ∨ k = 1 ∨ k = 2 ∨ k = 3 ∨ k = 4 from by omega) with rfl | rfl | rfl | rfl | rfl <;> simp_all [outs, ucells]
def shrN (m : Nat) (n : Int) : Nat := if n ≤ 0 then m else m / 2 ^ n.toNat

theorem set_twice (cs : Array Value) (j : Nat) (u v : Value) : (cs.setIfInBounds j u).setIfInBounds j v = cs.setIfInBounds j v := by
  apply Array.ext'
  simp
theorem uval_zero0 : uval 0 = .agg #[.int .u64 0, .int .u64 0, .int .u64 0, .int .u64 0] := rfl
end Go.Proofs.YtfebknplkbeblaaDoor
