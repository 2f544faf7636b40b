/- The document's numbers: Add, Sub, Cmp, Len, Not, Of. -/
import Derived.Test.YtndockjflnicjaaRefA
namespace Go.Proofs.Ytndockjflnicjaa
open Go.RowKit
set_option linter.unusedVariables false

theorem dig_mod (m i : Nat) (h : i < 256) : dig (m % T) i = dig m i := by
  unfold dig
  have e : m % T / 2 ^ i % 2 = m / 2 ^ i % 2 := by
    have hT : T = 2 ^ i * 2 ^ (256 - i) := by rw [← Nat.pow_add, T_pow]; congr 1; omega
    have h2 : 2 ^ (256 - i) = 2 * 2 ^ (256 - i - 1) := by rw [← Nat.pow_succ']; congr 1; omega
    rw [hT, Nat.mod_mul_right_div_self, h2, Nat.mod_mul_right_mod]
  rw [e]
theorem dig_ext (m n : Nat) (hm : m < T) (hn : n < T) (h : ∀ i, i < 256 → dig m i = dig n i) : m = n := by
  apply Nat.eq_of_testBit_eq
  intro i
  by_cases hi : i < 256
  · have := h i hi
    unfold dig at this
    have e : m / 2 ^ i % 2 = n / 2 ^ i % 2 := by omega
    simp only [Nat.testBit_eq_decide_div_mod_eq, e]
  · have hp : (2 : Nat) ^ 256 ≤ 2 ^ i := Nat.pow_le_pow_right (by decide) (by omega)
    rw [T_pow] at hm hn
    rw [Nat.testBit_lt_two_pow (by omega), Nat.testBit_lt_two_pow (by omega)]
/-- The carry out of the first k digits. -/
def cryD (m n k : Nat) : Nat := (m % 2 ^ k + n % 2 ^ k) / 2 ^ k
theorem cryD_le (m n k : Nat) : cryD m n k ≤ 1 := by
  unfold cryD
  have h1 := Nat.mod_lt m (Nat.two_pow_pos k)
  have h2 := Nat.mod_lt n (Nat.two_pow_pos k)
  have : (m % 2 ^ k + n % 2 ^ k) / 2 ^ k < 2 := by rw [Nat.div_lt_iff_lt_mul (Nat.two_pow_pos k)]; omega
  omega
theorem cryD_zero (m n : Nat) : cryD m n 0 = 0 := by simp [cryD, Nat.mod_one]
theorem cryD_step (m n k : Nat) : m / 2 ^ k % 2 + n / 2 ^ k % 2 + cryD m n k = (m + n) / 2 ^ k % 2 + 2 * cryD m n (k + 1) := by
  have hp := Nat.two_pow_pos k
  have e1 : (m + n) / 2 ^ k = m / 2 ^ k + n / 2 ^ k + cryD m n k := by
    unfold cryD
    rw [Nat.add_div hp]
    have h1 := Nat.mod_lt m hp
    have h2 := Nat.mod_lt n hp
    generalize m % 2 ^ k = a at *
    generalize n % 2 ^ k = b at *
    by_cases h : 2 ^ k ≤ a + b
    · rw [if_pos h]
      have : (a + b) / 2 ^ k = 1 := by
        rw [show a + b = (a + b - 2 ^ k) + 1 * 2 ^ k by omega, Nat.add_mul_div_right _ _ hp, Nat.div_eq_of_lt (by omega)]
      omega
    · rw [if_neg h, Nat.div_eq_of_lt (a := a + b) (by omega)]
  have e2 : cryD m n (k + 1) = (m / 2 ^ k % 2 + n / 2 ^ k % 2 + cryD m n k) / 2 := by
    unfold cryD
    rw [mod_succ m k, mod_succ n k, Nat.pow_succ]
    have : m % 2 ^ k + m / 2 ^ k % 2 * 2 ^ k + (n % 2 ^ k + n / 2 ^ k % 2 * 2 ^ k) = m % 2 ^ k + n % 2 ^ k + (m / 2 ^ k % 2 + n / 2 ^ k % 2) * 2 ^ k := by
      rw [Nat.add_mul]; omega
    rw [this, ← Nat.div_div_eq_div_mul, Nat.add_mul_div_right _ _ hp]
    congr 1
    omega
  rw [e1, e2]
  omega
/-- The borrow out of the first k digits. -/
def boD (m n k : Nat) : Nat := if m % 2 ^ k < n % 2 ^ k then 1 else 0
theorem boD_le (m n k : Nat) : boD m n k ≤ 1 := by unfold boD; split <;> omega
theorem boD_zero (m n : Nat) : boD m n 0 = 0 := by simp [boD, Nat.mod_one]
theorem sub_div (P m n t : Nat) (hp : 0 < P) (hn : n < P * (2 * t)) : (m + (P * (2 * t) - n)) / P = m / P + (2 * t - n / P) - (if m % P < n % P then 1 else 0) ∧ n / P < 2 * t := by
  have e1 := Nat.div_add_mod m P
  have e2 := Nat.div_add_mod n P
  have h1 := Nat.mod_lt m hp
  have h2 := Nat.mod_lt n hp
  have hnq : n / P < 2 * t := by rw [Nat.div_lt_iff_lt_mul hp, Nat.mul_comm]; exact hn
  generalize m / P = a at *
  generalize n / P = b at *
  generalize m % P = x at *
  generalize n % P = y at *
  refine ⟨?_, hnq⟩
  have e4 : P * (2 * t) = P * b + P * (2 * t - b) := by rw [← Nat.mul_add]; congr 1; omega
  have e5 : P * (a + (2 * t - b)) = P * a + P * (2 * t - b) := Nat.mul_add _ _ _
  have e6 : P * (a + (2 * t - b)) = (a + (2 * t - b) - 1) * P + P := by
    rw [← Nat.succ_mul, Nat.mul_comm]; congr 1; omega
  by_cases h : x < y
  · rw [if_pos h]
    have e7 : m + (P * (2 * t) - n) = (P + x - y) + (a + (2 * t - b) - 1) * P := by omega
    rw [e7, Nat.add_mul_div_right _ _ hp, Nat.div_eq_of_lt (by omega)]
    omega
  · rw [if_neg h]
    have e7 : m + (P * (2 * t) - n) = (x - y) + P * (a + (2 * t - b)) := by omega
    rw [e7, Nat.add_mul_div_left _ _ hp, Nat.div_eq_of_lt (by omega)]
    omega
theorem bo_arith (a b t x y c : Nat) (hx : a % 2 = x) (hy : b % 2 = y) (hb : b < 2 * t) (hc : c ≤ 1) : (x : Int) - y - c = ((a + (2 * t - b) - c) % 2 : Nat) - 2 * ((if x < y then 1 else if y < x then 0 else c : Nat) : Int) := by
  split
  · omega
  · split <;> omega
theorem boD_step (m n k : Nat) (hn : n < T) (hk : k < 256) : ((m / 2 ^ k % 2 : Nat) : Int) - (n / 2 ^ k % 2 : Nat) - boD m n k = ((m + (T - n)) / 2 ^ k % 2 : Nat) - 2 * (boD m n (k + 1) : Int) := by
  have hp := Nat.two_pow_pos k
  have hT : T = 2 ^ k * (2 * 2 ^ (256 - k - 1)) := by rw [← Nat.pow_succ', ← Nat.pow_add, T_pow]; congr 1; omega
  generalize 2 ^ (256 - k - 1) = t at hT
  have hn' := hn
  rw [hT] at hn'
  obtain ⟨e3, hb⟩ := sub_div (2 ^ k) m n t hp hn'
  have e4 : boD m n (k + 1) = if m / 2 ^ k % 2 < n / 2 ^ k % 2 then 1 else if n / 2 ^ k % 2 < m / 2 ^ k % 2 then 0 else boD m n k := by
    have h1 := Nat.mod_lt m hp
    have h2 := Nat.mod_lt n hp
    unfold boD
    rw [mod_succ m k, mod_succ n k]
    rcases (show m / 2 ^ k % 2 = 0 ∨ m / 2 ^ k % 2 = 1 by omega) with x | x <;> rcases (show n / 2 ^ k % 2 = 0 ∨ n / 2 ^ k % 2 = 1 by omega) with y | y <;> rw [x, y] <;> simp <;> omega
  rw [hT, e3, e4]
  exact bo_arith _ _ t _ _ _ rfl rfl hb (boD_le m n k)
theorem half_lt (m n i : Nat) (h : m / 2 ^ (i + 1) = n / 2 ^ (i + 1)) (hd : m / 2 ^ i % 2 < n / 2 ^ i % 2) : m < n := by
  rw [Nat.pow_succ, ← Nat.div_div_eq_div_mul, ← Nat.div_div_eq_div_mul] at h
  have h1 : m / 2 ^ i < n / 2 ^ i := by omega
  rcases Nat.lt_or_ge m n with h2 | h2
  · exact h2
  · have := Nat.div_le_div_right (c := 2 ^ i) h2
    omega
theorem half_eq (m n i : Nat) (h : m / 2 ^ (i + 1) = n / 2 ^ (i + 1)) (hd : m / 2 ^ i % 2 = n / 2 ^ i % 2) : m / 2 ^ i = n / 2 ^ i := by
  rw [Nat.pow_succ, ← Nat.div_div_eq_div_mul, ← Nat.div_div_eq_div_mul] at h
  omega
def mixD (f g : Nat → Int) (k i : Nat) : Int := if i < k then f i else g i
theorem mixD_set (f g : Nat → Int) (k : Nat) (h : k < 256) : (bc (mixD f g k)).setIfInBounds k (.int .i64 (f k)) = bc (mixD f g (k + 1)) := by
  rw [bc_set _ _ h]
  apply bc_ext
  intro i hi
  unfold mixD
  by_cases e : i = k
  · subst e; simp
  · simp [e]
    by_cases h1 : i < k
    · simp [h1, show i < k + 1 by omega]
    · simp [h1, show ¬ i < k + 1 by omega]
theorem mixD_full (f g : Nat → Int) : bc (mixD f g 256) = bc f := bc_ext fun i hi => by unfold mixD; rw [if_pos hi]
theorem mixD_zero (f g : Nat → Int) : bc (mixD f g 0) = bc g := bc_ext fun i _ => by unfold mixD; simp
theorem mixD_at (f g : Nat → Int) (k : Nat) : mixD f g k k = g k := by unfold mixD; simp
theorem u_one (n : Nat) : (ucells n).all (·.oneCell') = true := by simp [ucells, Value.oneCell']
end Go.Proofs.Ytndockjflnicjaa
