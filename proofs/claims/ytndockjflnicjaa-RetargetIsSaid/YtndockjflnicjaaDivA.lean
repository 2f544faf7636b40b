/- Digits of a quotient, guessed by their highest parts; and math/bits' LeadingZeros64. -/
import Derived.Test.YtndockjflnicjaaBits
namespace Go.Proofs.Ytndockjflnicjaa
open Go.RowKit
set_option linter.unusedVariables false
theorem knuth_init (B y1 y0 u d : Nat) (h1 : B ≤ 2 * y1) (h0 : y0 < B) (hu : u < y1 * B + y0) (hd : d < B) :
    (u * B + d) / (y1 * B + y0) ≤ u / y1 ∧ u / y1 ≤ B + 1 := by
  have hy1 : 0 < y1 := by omega
  constructor
  · rw [Nat.le_div_iff_mul_le hy1]
    have hq := Nat.div_mul_le_self (u * B + d) (y1 * B + y0)
    generalize (u * B + d) / (y1 * B + y0) = Q at hq
    rw [Nat.mul_add, ← Nat.mul_assoc] at hq
    have : Q * y1 * B < (u + 1) * B := by rw [Nat.add_mul, Nat.one_mul]; omega
    have := Nat.lt_of_mul_lt_mul_right this
    omega
  · have : u / y1 < B + 2 := by
      apply Nat.div_lt_of_lt_mul
      rw [Nat.mul_add]
      omega
    omega
theorem knuth_lt (B y1 y0 u d : Nat) (hu : u < y1 * B + y0) (hd : d < B) : (u * B + d) / (y1 * B + y0) < B := by
  apply Nat.div_lt_of_lt_mul
  have h := Nat.mul_le_mul_right B (show u + 1 ≤ y1 * B + y0 by omega)
  rw [Nat.add_mul, Nat.one_mul] at h
  omega
theorem knuth_eq (B y1 y0 u q r : Nat) (hq : q * y1 + r = u) : q * (y1 * B + y0) + r * B = u * B + q * y0 := by
  rw [Nat.mul_add, ← Nat.mul_assoc, ← hq, Nat.add_mul]
  omega
theorem knuth_more (B y1 y0 u d q r : Nat) (hu : u < y1 * B + y0) (hd : d < B) (hQ : (u * B + d) / (y1 * B + y0) ≤ q) (hq : q * y1 + r = u) (hc : B ≤ q ∨ B * r + d < q * y0) :
    (u * B + d) / (y1 * B + y0) ≤ q - 1 ∧ (q - 1) * y1 + (r + y1) = u ∧ 1 ≤ q := by
  have hlt : (u * B + d) / (y1 * B + y0) < q := by
    rcases hc with h | h
    · have := knuth_lt B y1 y0 u d hu hd; omega
    · apply Nat.div_lt_of_lt_mul
      have := knuth_eq B y1 y0 u q r hq
      rw [Nat.mul_comm B r] at h
      rw [Nat.mul_comm (y1 * B + y0) q]
      omega
  clear hQ
  generalize (u * B + d) / (y1 * B + y0) = Q at hlt ⊢
  refine ⟨by omega, ?_, by omega⟩
  obtain ⟨k, rfl⟩ : ∃ k, q = k + 1 := ⟨q - 1, by omega⟩
  rw [Nat.add_mul, Nat.one_mul] at hq
  rw [Nat.add_sub_cancel]
  omega
theorem knuth_done (B y1 y0 u d q r : Nat) (hu : u < y1 * B + y0) (hQ : (u * B + d) / (y1 * B + y0) ≤ q) (hq : q * y1 + r = u) (hc : q * y0 ≤ B * r + d) :
    q = (u * B + d) / (y1 * B + y0) := by
  apply Nat.le_antisymm _ hQ
  rw [Nat.le_div_iff_mul_le (by omega)]
  have := knuth_eq B y1 y0 u q r hq
  rw [Nat.mul_comm B r] at hc
  omega
/-- Two digits of a quotient. -/
theorem knuth_two (B y u d1 d0 : Nat) (hy : 0 < y) :
    ((u * B + d1) * B + d0) / y = (u * B + d1) / y * B + ((u * B + d1) % y * B + d0) / y ∧ ((u * B + d1) * B + d0) % y = ((u * B + d1) % y * B + d0) % y := by
  have h := Nat.div_add_mod (u * B + d1) y
  generalize (u * B + d1) / y = q at *
  generalize (u * B + d1) % y = r at *
  have e : (u * B + d1) * B + d0 = y * (q * B) + (r * B + d0) := by
    rw [← h, Nat.add_mul, Nat.mul_assoc]; omega
  rw [e, Nat.mul_add_div hy, Nat.mul_add_mod]
  exact ⟨rfl, rfl⟩
/-- Quotient and rest of two numbers that are shifted alike. -/
theorem shift_div (m y s : Nat) : m * 2 ^ s / (y * 2 ^ s) = m / y ∧ m * 2 ^ s % (y * 2 ^ s) / 2 ^ s = m % y := by
  have hs : 0 < 2 ^ s := Nat.two_pow_pos s
  constructor
  · exact Nat.mul_div_mul_right _ _ hs
  · rw [Nat.mul_mod_mul_right, Nat.mul_div_cancel _ hs]
theorem shift_high (hi lo s : Nat) (hs : s ≤ 64) :
    (hi * 18446744073709551616 + lo) * 2 ^ s = (hi * 2 ^ s + lo / 2 ^ (64 - s)) * 18446744073709551616 + lo * 2 ^ s % 18446744073709551616 := by
  have h2 : (18446744073709551616 : Nat) = 2 ^ (64 - s) * 2 ^ s := by rw [← Nat.pow_add, show 64 - s + s = 64 by omega]
  have h3 : lo * 2 ^ s / 18446744073709551616 = lo / 2 ^ (64 - s) := by
    rw [h2]; exact Nat.mul_div_mul_right _ _ (Nat.two_pow_pos s)
  have h4 := Nat.div_add_mod (lo * 2 ^ s) 18446744073709551616
  rw [h3] at h4
  rw [Nat.add_mul, Nat.add_mul, Nat.mul_right_comm hi]
  omega
/-- One digit Q of a quotient, and the rest R behind it. -/
abbrev DigIs (Y y1 y0 u d Q R : Nat) : Prop := u < Y ∧ Y = y1 * 4294967296 + y0 ∧ 4294967296 ≤ 2 * y1 ∧ y1 < 4294967296 ∧ y0 < 4294967296 ∧ d < 4294967296 ∧ Q = (u * 4294967296 + d) / Y ∧ R = (u * 4294967296 + d) % Y
theorem dig_open {Y y1 y0 u d Q R : Nat} (h : DigIs Y y1 y0 u d Q R) : ∃ a p r : Nat, Int.tdiv (u : Int) (y1 : Int) = (a : Int) ∧ IntKind.u64.wrap (a : Int) = (a : Int) ∧ IntKind.u64.wrap ((a : Int) * (y1 : Int)) = (p : Int) ∧ IntKind.u64.wrap ((u : Int) - (p : Int)) = (r : Int) ∧ Q ≤ a ∧ a * y1 + r = u ∧ r < 4294967296 ∧ a ≤ 4294967297 := by
  obtain ⟨hu, rfl, h1, hy1, hy0, hd, rfl, _⟩ := h
  obtain ⟨k1, k2⟩ := knuth_init 4294967296 y1 y0 u d h1 hy0 hu hd
  have hm := Nat.div_add_mod u y1
  have hl := Nat.mod_lt u (show 0 < y1 by omega)
  have hc : Int.tdiv (u : Int) (y1 : Int) = ((u / y1 : Nat) : Int) := by simp [Int.tdiv]
  obtain ⟨p, hp⟩ : ∃ p, p = y1 * (u / y1) := ⟨_, rfl⟩
  rw [← hp] at hm
  refine ⟨u / y1, p, u % y1, hc, ?_, ?_, ?_, k1, by rw [Nat.mul_comm, ← hp]; exact hm, by omega, k2⟩
  · rw [IntKind.wrap_u64]; generalize u / y1 = a at *; omega
  · rw [← Int.natCast_mul, Nat.mul_comm, ← hp, IntKind.wrap_u64]
    clear k1 k2 hc
    generalize u % y1 = r at *
    omega
  · rw [IntKind.wrap_u64]
    clear k1 k2 hc
    generalize u % y1 = r at *
    omega
theorem dig_less {Y y1 y0 u d Q R : Nat} (h : DigIs Y y1 y0 u d Q R) (q r : Nat) (hq : Q ≤ q) (he : q * y1 + r = u) (hr : r < 4294967296) (hb : q ≤ 4294967297) (hc : 4294967296 ≤ q ∨ 4294967296 * r + d < q * y0) :
    ∃ k s : Nat, IntKind.u64.wrap ((q : Int) - 1) = (k : Int) ∧ IntKind.u64.wrap ((r : Int) + (y1 : Int)) = (s : Int) ∧ Q ≤ k ∧ k * y1 + s = u ∧ k ≤ 4294967297 ∧ k < q ∧ (4294967296 ≤ s → k = Q) := by
  obtain ⟨hu, rfl, h1, hy1, hy0, hd, rfl, _⟩ := h
  obtain ⟨k1, k2, k3⟩ := knuth_more 4294967296 y1 y0 u d q r hu hd hq he hc
  refine ⟨q - 1, r + y1, ?_, ?_, k1, k2, by omega, by omega, ?_⟩
  · rw [IntKind.wrap_u64]; clear k1 hq; omega
  · rw [IntKind.wrap_u64]; clear k1 hq; omega
  · intro hs
    refine knuth_done 4294967296 y1 y0 u d (q - 1) (r + y1) hu k1 k2 ?_
    have e1 : (q - 1) * y0 ≤ 4294967296 * y0 := Nat.mul_le_mul_right _ (by omega)
    clear k1 hq
    omega
theorem dig_test {Y y1 y0 u d Q R : Nat} (h : DigIs Y y1 y0 u d Q R) (q r : Nat) (hq : Q ≤ q) (he : q * y1 + r = u) (hr : r < 4294967296) (hb : q < 4294967296) :
    ∃ m n c : Nat, IntKind.u64.wrap ((q : Int) * (y0 : Int)) = (m : Int) ∧ IntKind.u64.wrap (4294967296 * (r : Int)) = (c : Int) ∧ IntKind.u64.wrap ((c : Int) + (d : Int)) = (n : Int) ∧ (n < m → 4294967296 * r + d < q * y0) ∧ (¬ n < m → q = Q) := by
  obtain ⟨hu, rfl, h1, hy1, hy0, hd, rfl, _⟩ := h
  have hm : q * y0 < 18446744073709551616 := by
    have e1 : q * y0 ≤ 4294967295 * y0 := Nat.mul_le_mul_right _ (by omega)
    omega
  refine ⟨q * y0, 4294967296 * r + d, 4294967296 * r, ?_, ?_, ?_, fun h => h, ?_⟩
  · rw [← Int.natCast_mul, IntKind.wrap_u64]
    clear hq
    generalize q * y0 = z at *
    omega
  · rw [IntKind.wrap_u64]; clear hq hm; omega
  · rw [IntKind.wrap_u64]; clear hq hm; omega
  · intro hn
    exact knuth_done 4294967296 y1 y0 u d q r hu hq he (by clear hq; omega)
theorem dig_rest {Y y1 y0 u d Q R : Nat} (h : DigIs Y y1 y0 u d Q R) (hY : Y < 18446744073709551616) :
    ∃ z1 z2 z3 : Nat, IntKind.u64.wrap ((u : Int) * 4294967296) = (z1 : Int) ∧ IntKind.u64.wrap ((z1 : Int) + (d : Int)) = (z2 : Int) ∧ IntKind.u64.wrap ((Q : Int) * (Y : Int)) = (z3 : Int) ∧ IntKind.u64.wrap ((z2 : Int) - (z3 : Int)) = (R : Int) ∧ R < Y ∧ Q < 4294967296 := by
  obtain ⟨hu, hy, h1, hy1, hy0, hd, hQ, hR⟩ := h
  have hm := Nat.div_add_mod (u * 4294967296 + d) Y
  have hl : R < Y := by rw [hR]; exact Nat.mod_lt _ (by omega)
  have hQl : Q < 4294967296 := by rw [hQ, hy]; rw [hy] at hu; exact knuth_lt 4294967296 y1 y0 u d hu hd
  rw [← hQ, ← hR] at hm
  clear hQ hR
  obtain ⟨p, hp⟩ : ∃ p, p = Y * Q := ⟨_, rfl⟩
  rw [← hp] at hm
  refine ⟨u * 4294967296 % 18446744073709551616, (u * 4294967296 + d) % 18446744073709551616, p % 18446744073709551616, ?_, ?_, ?_, ?_, hl, hQl⟩
  · rw [IntKind.wrap_u64]; clear hp hm; omega
  · rw [IntKind.wrap_u64]; clear hp hm; omega
  · rw [← Int.natCast_mul, Nat.mul_comm, ← hp, IntKind.wrap_u64]; clear hp hm; omega
  · rw [IntKind.wrap_u64]; clear hp; omega
set_option maxRecDepth 100000 in
set_option maxHeartbeats 400000 in
theorem Lead_any (n s : Nat) (w : World) (h : n < W64) (hs : bl n + s = 64) :
    Calls Try.prog 50 #[.int .u64 n] w fun e w' => e = .returned (.int .i64 s) ∧ w' = w := by
  have hr : IntKind.i64.wrap (64 - (bl n : Int)) = (s : Int) := by simp [IntKind.wrap, IntKind.signed, IntKind.bits]; omega
  have hc := fun w => Len64_any n w h
  clear h hs
  go_enter Try.func50, Try.ntmps50
  go_wp2_with fail
  refine (hc _).mono ?_
  rintro e w1 ⟨rfl, rfl⟩
  go_wp2
  go_ret
  exact ⟨by first | rfl | rw [hr] | congr 2, rfl⟩
end Go.Proofs.Ytndockjflnicjaa
