/- Shrunk and expanded: the plain law of TargetBack. -/
import Derived.Test.YtndockjflnicjaaTargB
namespace Go.Proofs.Ytndockjflnicjaa
set_option linter.unusedVariables false
theorem size_is (m : Nat) (h0 : m ≠ 0) : 1 ≤ (bl m + 7) / 8 ∧ 2 ^ (8 * ((bl m + 7) / 8 - 1)) ≤ m ∧ m < 2 ^ (8 * ((bl m + 7) / 8)) := by
  have h1 := bl_lt m 0
  have hb : bl m ≠ 0 := fun h => by rw [h] at h1; have := h1.1 (Nat.le_refl _); omega
  have h2 := bl_lt m (8 * ((bl m + 7) / 8 - 1))
  have h3 := bl_lt m (8 * ((bl m + 7) / 8))
  refine ⟨by omega, ?_, h3.1 (by omega)⟩
  exact Nat.le_of_not_lt fun h => by have := h2.2 h; omega
theorem size_of (y e : Nat) (he : 1 ≤ e) (h1 : 2 ^ (8 * (e - 1)) ≤ y) (h2 : y < 2 ^ (8 * e)) : (bl y + 7) / 8 = e := by
  have a := (bl_lt y (8 * e)).2 h2
  have b : ¬ bl y ≤ 8 * (e - 1) := fun h => by have := (bl_lt y (8 * (e - 1))).1 h; omega
  omega
/-- The target shrunk and expanded. -/
def backY (m : Nat) : Nat := (expR (shrR m)).1
theorem small_same (m e : Nat) (he : e < 3) (h1 : 1 ≤ e) : shrV m e = m * 2 ^ (8 * (3 - e)) := if_pos he
theorem great_div (m e : Nat) (he : ¬ e < 3) : shrV m e = m / 2 ^ (8 * (e - 3)) := if_neg he
theorem expR_of (e k y : Nat) (hk : k < 8388608) (hy : expV e k = y) (hT : y < T) (h0 : y ≠ 0) : expR (e * 16777216 + k) = (y, 0) := by
  have a1 : (e * 16777216 + k) % 8388608 = k := by omega
  have a2 : (e * 16777216 + k) / 8388608 % 2 = 0 := by omega
  have a3 : (e * 16777216 + k) / 16777216 = e := by omega
  unfold expR
  rw [a1, a2, a3, hy, if_neg (by omega), if_neg (by omega)]
theorem shrR_of (m e : Nat) (h0 : m ≠ 0) (he : (bl m + 7) / 8 = e) : shrR m = shrE e (shrV m e) := by
  unfold shrR
  rw [if_neg h0, he]
/-- What the law says of a target that is not 0. -/
def Back (m : Nat) : Prop := ∃ y, expR (shrR m) = (y, 0) ∧ y ≤ m ∧ shrR y = shrR m ∧ shrR m / 8388608 % 2 = 0 ∧ m - y ≤ m / 16384 ∧ shrR m < 4294967296
theorem back_same (m e k : Nat) (h0 : m ≠ 0) (hm : m < T) (hs : shrR m = e * 16777216 + k) (hk : k < 8388608) (he : e < 256) (hy : expV e k = m) : Back m := by
  refine ⟨m, ?_, Nat.le_refl _, rfl, ?_, by omega, ?_⟩
  · rw [hs]; exact expR_of e k m hk hy hm h0
  · rw [hs]; omega
  · rw [hs]; omega
theorem back_one (m : Nat) (h0 : m ≠ 0) (h1 : m < 256) (he : (bl m + 7) / 8 = 1) : Back m := by
  have hT : m < T := Nat.lt_trans h1 (by decide)
  have hs := shrR_of m 1 h0 he
  have hv : shrV m 1 = m * 65536 := rfl
  rw [hv] at hs
  unfold shrE at hs
  by_cases h : m * 65536 < 8388608
  · rw [if_pos h] at hs
    exact back_same m 1 (m * 65536) h0 hT hs h (by decide) (by show m * 65536 / 65536 = m; omega)
  · rw [if_neg h] at hs
    exact back_same m 2 (m * 65536 / 256) h0 hT hs (by omega) (by decide) (by show m * 65536 / 256 / 256 = m; omega)
theorem back_two (m : Nat) (h0 : m ≠ 0) (h1 : m < 65536) (he : (bl m + 7) / 8 = 2) : Back m := by
  have hT : m < T := Nat.lt_trans h1 (by decide)
  have hs := shrR_of m 2 h0 he
  have hv : shrV m 2 = m * 256 := rfl
  rw [hv] at hs
  unfold shrE at hs
  by_cases h : m * 256 < 8388608
  · rw [if_pos h] at hs
    exact back_same m 2 (m * 256) h0 hT hs h (by decide) (by show m * 256 / 256 = m; omega)
  · rw [if_neg h] at hs
    exact back_same m 3 (m * 256 / 256) h0 hT hs (by omega) (by decide) (by show m * 256 / 256 * 2 ^ 0 = m; omega)
theorem back_great (m e P : Nat) (h0 : m ≠ 0) (hm : m < T) (he3 : 3 ≤ e) (he : (bl m + 7) / 8 = e) (he32 : e ≤ 32) (hP : P = 2 ^ (8 * (e - 3))) (lo : P * 65536 ≤ m) (hi : m < P * 16777216) : Back m := by
  have hP0 : 0 < P := by rw [hP]; exact Nat.two_pow_pos _
  have hs := shrR_of m e h0 he
  have q1 : 2 ^ (8 * (e - 1)) = P * 65536 := by rw [hP, show (65536 : Nat) = 2 ^ 16 from rfl, ← Nat.pow_add]; congr 1; omega
  have q2 : 2 ^ (8 * e) = P * 16777216 := by rw [hP, show (16777216 : Nat) = 2 ^ 24 from rfl, ← Nat.pow_add]; congr 1; omega
  have hV : ∀ y, shrV y e = y / P := fun y => by rw [great_div y e (by omega), hP]
  rw [hV] at hs
  have v1 : 65536 ≤ m / P := (Nat.le_div_iff_mul_le hP0).2 (by rw [Nat.mul_comm]; exact lo)
  have v2 : m / P < 16777216 := (Nat.div_lt_iff_lt_mul hP0).2 (by rw [Nat.mul_comm]; exact hi)
  have hmod := Nat.mod_lt m hP0
  have hdm := Nat.div_add_mod m P
  obtain ⟨V, hVm⟩ : ∃ V, V = m / P := ⟨_, rfl⟩
  rw [← hVm] at hs v1 v2 hdm
  unfold shrE at hs
  by_cases h : V < 8388608
  · rw [if_pos h] at hs
    have hle : V * P ≤ m := by rw [Nat.mul_comm]; omega
    have hlow : P * 65536 ≤ V * P := by rw [Nat.mul_comm P]; exact Nat.mul_le_mul_right P v1
    have hy0 : V * P ≠ 0 := by have := Nat.mul_pos (show 0 < V by omega) hP0; omega
    have hx : expV e V = V * P := by unfold expV; rw [if_neg (by omega), hP]
    have hye : (bl (V * P) + 7) / 8 = e := size_of _ e (by omega) (by rw [q1]; exact hlow) (by rw [q2]; omega)
    refine ⟨V * P, ?_, hle, ?_, ?_, ?_, ?_⟩
    · rw [hs]; exact expR_of e V _ h hx (by omega) hy0
    · rw [shrR_of _ e hy0 hye, hV, Nat.mul_div_cancel _ hP0, hs, shrE, if_pos h]
    · rw [hs]; omega
    · have : P ≤ m / 16384 := by clear hmod hdm hm; omega
      rw [Nat.mul_comm] at hle ⊢
      omega
    · rw [hs]; omega
  · rw [if_neg h] at hs
    obtain ⟨k, hk⟩ : ∃ k, k = V / 256 := ⟨_, rfl⟩
    rw [← hk] at hs
    obtain ⟨Q, hQ⟩ : ∃ Q, Q = P * 256 := ⟨_, rfl⟩
    have hkm : k = m / Q := by rw [hk, hVm, hQ, Nat.div_div_eq_div_mul]
    have hQ0 : 0 < Q := by omega
    have hmod2 := Nat.mod_lt m hQ0
    have hdm2 := Nat.div_add_mod m Q
    rw [← hkm] at hdm2
    have k1 : 32768 ≤ k := by omega
    have k2 : k < 65536 := by omega
    have hle : k * Q ≤ m := by rw [Nat.mul_comm]; omega
    have hlow : 32768 * Q ≤ k * Q := Nat.mul_le_mul_right Q k1
    have hy0 : k * Q ≠ 0 := by have := Nat.mul_pos (show 0 < k by omega) hQ0; omega
    have hx : expV (e + 1) k = k * Q := by
      unfold expV
      rw [if_neg (by omega), hQ, hP, show (256 : Nat) = 2 ^ 8 from rfl, ← Nat.pow_add]
      congr 2
      omega
    have hye : (bl (k * Q) + 7) / 8 = e := size_of _ e (by omega) (by rw [q1]; omega) (by rw [q2]; omega)
    have hyv : k * Q / P = k * 256 := by rw [hQ, show k * (P * 256) = k * 256 * P by rw [Nat.mul_comm P, Nat.mul_assoc], Nat.mul_div_cancel _ hP0]
    refine ⟨k * Q, ?_, hle, ?_, ?_, ?_, ?_⟩
    · rw [hs]; exact expR_of (e + 1) k _ (by omega) hx (by omega) hy0
    · rw [shrR_of _ e hy0 hye, hV, hyv, hs, shrE, if_neg (by omega), Nat.mul_div_cancel _ (by decide)]
    · rw [hs]; omega
    · have : Q ≤ m / 16384 := by clear hmod hdm hm; omega
      rw [Nat.mul_comm] at hle ⊢
      omega
    · rw [hs]; omega
theorem back_any (m : Nat) (h0 : m ≠ 0) (hm : m < T) : Back m := by
  obtain ⟨h1, lo, hi⟩ := size_is m h0
  have hb := (bl_lt m 256).2 hm
  obtain ⟨e, he⟩ : ∃ e, (bl m + 7) / 8 = e := ⟨_, rfl⟩
  rw [he] at h1 lo hi
  rcases (show e = 1 ∨ e = 2 ∨ 3 ≤ e from by omega) with rfl | rfl | h3
  · exact back_one m h0 hi he
  · exact back_two m h0 hi he
  · refine back_great m e _ h0 hm h3 he (by omega) rfl ?_ ?_
    · refine Nat.le_trans (Nat.le_of_eq ?_) lo
      rw [show (65536 : Nat) = 2 ^ 16 from rfl, ← Nat.pow_add]; congr 1; omega
    · refine Nat.lt_of_lt_of_eq hi ?_
      rw [show (16777216 : Nat) = 2 ^ 24 from rfl, ← Nat.pow_add]; congr 1; omega
end Go.Proofs.Ytndockjflnicjaa
