/- math/bits' Div64, for all that it takes. -/
import Derived.Test.YtndockjflnicjaaDivB
import Derived.BigQuiet
namespace Go.Proofs.Ytndockjflnicjaa
open Go.RowKit
set_option linter.unusedVariables false
set_option maxRecDepth 100000 in
set_option maxHeartbeats 1000000 in
theorem Div64_zero (lo y Q R : Nat) (h0 : ((y : Int) == 0) = false) (h1 : decide (y ≤ 0) = false) (hy : ¬ y = 0)
    (e1 : Int.tdiv (lo : Int) (y : Int) = (Q : Int)) (e2 : IntKind.u64.wrap (Q : Int) = (Q : Int)) (e3 : Int.tmod (lo : Int) (y : Int) = (R : Int)) (w : World) :
    Calls Try.prog 45 #[.int .u64 (0 : Nat), .int .u64 lo, .int .u64 y] w fun e w' => e = .returned (.tuple #[.int .u64 Q, .int .u64 R]) ∧ Below w.heap.size w w' := by
  have h1' : decide ((y : Int) ≤ 0) = false := decide_eq_false (by omega)
  have hy' : ¬ (y : Int) ≤ 0 := by omega
  go_enter Try.func45, Try.ntmps45
  go_wp2_with fail
  all_goals (go_quiet (fail))
  go_wp2
  refine bodyPost_ret (v := .tuple #[.int .u64 Q, .int .u64 R]) ?_ rfl ⟨rfl, bdN (Below.refl _ _) _⟩
  simp [results, Try.results45, go_sem]
theorem bl_shift (y : Nat) (h0 : y ≠ 0) (h : y < 18446744073709551616) : bl y ≤ 64 ∧ 9223372036854775808 ≤ y * 2 ^ (64 - bl y) ∧ y * 2 ^ (64 - bl y) < 18446744073709551616 := by
  have h1 : bl y ≤ 64 := (bl_lt y 64).2 h
  have h2 := (bl_lt y (bl y)).1 (Nat.le_refl _)
  have h3 : bl y ≠ 0 := fun e => by rw [e] at h2; omega
  have h4 : ¬ y < 2 ^ (bl y - 1) := fun k => by have := (bl_lt y (bl y - 1)).2 k; omega
  refine ⟨h1, ?_, ?_⟩
  · have : 2 ^ (bl y - 1) * 2 ^ (64 - bl y) ≤ y * 2 ^ (64 - bl y) := Nat.mul_le_mul_right _ (by omega)
    rw [← Nat.pow_add, show bl y - 1 + (64 - bl y) = 63 by omega] at this
    exact this
  · have : y * 2 ^ (64 - bl y) < 2 ^ bl y * 2 ^ (64 - bl y) := Nat.mul_lt_mul_of_pos_right h2 (Nat.two_pow_pos _)
    rw [← Nat.pow_add, show bl y + (64 - bl y) = 64 by omega] at this
    exact this
theorem u64_and32 (x : Nat) (h : x < 18446744073709551616) : bits .and .u64 (x : Int) 4294967295 = ((x % 4294967296 : Nat) : Int) := by
  have := u64_and_nat x 4294967295 h (by omega)
  rw [show (4294967295 : Nat) = 2 ^ 32 - 1 from rfl, Nat.and_two_pow_sub_one_eq_mod] at this
  exact this
theorem cast_mul_pow (x s : Nat) : (x : Int) * 2 ^ s = ((x * 2 ^ s : Nat) : Int) := by push_cast; rfl
theorem cast_div_pow (x s : Nat) : (x : Int) / 2 ^ s = ((x / 2 ^ s : Nat) : Int) := by push_cast; rfl
theorem Div64_any (hi lo y : Nat) (hhi : hi < y) (hlo : lo < W64) (hy : y < W64) (w : World) :
    Calls Try.prog 45 #[.int .u64 hi, .int .u64 lo, .int .u64 y] w fun e w' => e = .returned (.tuple #[.int .u64 ((hi * W64 + lo) / y : Nat), .int .u64 ((hi * W64 + lo) % y : Nat)]) ∧ Below w.heap.size w w' := by
  have hy64 : y < 18446744073709551616 := hy
  have hlo64 : lo < 18446744073709551616 := hlo
  have h0 : ((y : Int) == 0) = false := by simp; omega
  have h1 : decide (y ≤ hi) = false := decide_eq_false (by omega)
  rw [show W64 = 18446744073709551616 from rfl]
  by_cases hz : hi = 0
  · subst hz
    rw [Nat.zero_mul, Nat.zero_add]
    have hq : lo / y < 18446744073709551616 := Nat.lt_of_le_of_lt (Nat.div_le_self _ _) hlo64
    refine Div64_zero lo y (lo / y) (lo % y) h0 h1 (by omega) (by simp [Int.tdiv]) ?_ (by simp [Int.tmod]) w
    rw [IntKind.wrap_u64]
    generalize lo / y = q at *
    omega
  · have h2 : ((hi : Int) == 0) = false := by simp; omega
    obtain ⟨b1, b2, b3⟩ := bl_shift y (by omega) hy64
    obtain ⟨s, hs⟩ : ∃ s, s = 64 - bl y := ⟨_, rfl⟩
    rw [← hs] at b2 b3
    obtain ⟨Y, hY⟩ : ∃ Y, Y = y * 2 ^ s := ⟨_, rfl⟩
    rw [← hY] at b2 b3
    have hP : 0 < 2 ^ s := Nat.two_pow_pos s
    have hlh : lo / 2 ^ (64 - s) < 2 ^ s := by
      rw [Nat.div_lt_iff_lt_mul (Nat.two_pow_pos _), ← Nat.pow_add, show s + (64 - s) = 64 by omega]
      exact hlo64
    have hsh := shift_high hi lo s (by omega)
    have hdv := shift_div (hi * 18446744073709551616 + lo) y s
    rw [← hY] at hdv
    obtain ⟨u, hu⟩ : ∃ u, u = hi * 2 ^ s + lo / 2 ^ (64 - s) := ⟨_, rfl⟩
    obtain ⟨x, hx⟩ : ∃ x, x = lo * 2 ^ s % 18446744073709551616 := ⟨_, rfl⟩
    have hx64 : x < 18446744073709551616 := by rw [hx]; exact Nat.mod_lt _ (by decide)
    have huY : u < Y := by
      have e1 : hi * 2 ^ s + 2 ^ s ≤ y * 2 ^ s := by
        have := Nat.mul_le_mul_right (2 ^ s) (show hi + 1 ≤ y by omega)
        rw [Nat.add_mul, Nat.one_mul] at this
        exact this
      rw [hu, hY]; omega
    rw [← hu, ← hx] at hsh
    rw [hsh] at hdv
    have hd0 : x % 4294967296 < 4294967296 := Nat.mod_lt _ (by decide)
    have hd1 : x / 4294967296 < 4294967296 := by omega
    have hY0 : Y % 4294967296 < 4294967296 := Nat.mod_lt _ (by decide)
    have hYe : Y = Y / 4294967296 * 4294967296 + Y % 4294967296 := by omega
    have hk := knuth_two 4294967296 Y u (x / 4294967296) (x % 4294967296) (by omega)
    have hU : u * 18446744073709551616 + x = (u * 4294967296 + x / 4294967296) * 4294967296 + x % 4294967296 := by omega
    rw [← hU, hdv.1] at hk
    have hR1 : (u * 4294967296 + x / 4294967296) % Y < Y := Nat.mod_lt _ (by omega)
    obtain ⟨R1, eR1⟩ : ∃ R1, R1 = (u * 4294967296 + x / 4294967296) % Y := ⟨_, rfl⟩
    obtain ⟨Q1, eQ1⟩ : ∃ Q1, Q1 = (u * 4294967296 + x / 4294967296) / Y := ⟨_, rfl⟩
    rw [← eR1, ← eQ1] at hk
    rw [← eR1] at hR1
    obtain ⟨R0, eR0⟩ : ∃ R0, R0 = (R1 * 4294967296 + x % 4294967296) % Y := ⟨_, rfl⟩
    obtain ⟨Q0, eQ0⟩ : ∃ Q0, Q0 = (R1 * 4294967296 + x % 4294967296) / Y := ⟨_, rfl⟩
    rw [← eR0, ← eQ0] at hk
    have D1 : DigIs Y (Y / 4294967296) (Y % 4294967296) u (x / 4294967296) Q1 R1 := ⟨huY, hYe, by omega, by omega, hY0, hd1, eQ1, eR1⟩
    have D0 : DigIs Y (Y / 4294967296) (Y % 4294967296) R1 (x % 4294967296) Q0 R0 := ⟨hR1, hYe, by omega, by omega, hY0, hd0, eQ0, eR0⟩
    obtain ⟨_, _, _, _, _, _, _, _, q1⟩ := dig_rest D1 b3
    obtain ⟨_, _, _, _, _, _, _, _, q0⟩ := dig_rest D0 b3
    have hR : R0 / 2 ^ s = (hi * 18446744073709551616 + lo) % y := by rw [← hdv.2, hk.2]
    have hu64 : u < 18446744073709551616 := by omega
    have hhs : hi * 2 ^ s ≤ u := by rw [hu]; exact Nat.le_add_right _ _
    rw [hk.1, ← hR]
    refine Div64_core hi lo y s Y (Y / 4294967296) (Y % 4294967296) u x (hi * 2 ^ s) (lo / 2 ^ (64 - s)) (x / 4294967296) (x % 4294967296) Q1 R1 Q0 R0 (Q1 * 4294967296 + Q0) (R0 / 2 ^ s) (Q1 * 4294967296) hy (by omega) h0 h1 h2
      ?_ (by omega) (u64_and32 Y b3) ?_ (cast_div_pow _ _) ?_ ?_ (by omega) (u64_and32 x hx64) (by omega) (Lib.hid D1) (Lib.hid D0) (Lib.hid b3) ?_ ?_ (cast_div_pow _ _) w
    · rw [cast_mul_pow, ← hY, IntKind.wrap_u64]; clear hk hdv; omega
    · rw [cast_mul_pow, IntKind.wrap_u64]
      have : hi * 2 ^ s < 18446744073709551616 := by omega
      generalize hi * 2 ^ s = z at this ⊢
      omega
    · rw [u64_or_nat _ _ (by omega) (Nat.lt_of_le_of_lt (Nat.div_le_self _ _) hlo64), hu, ← Nat.shiftLeft_eq, ← Nat.shiftLeft_add_eq_or_of_lt hlh]
    · rw [cast_mul_pow, hx, IntKind.wrap_u64]
      generalize lo * 2 ^ s = z
      omega
    · rw [IntKind.wrap_u64]; clear hk hdv; omega
    · rw [IntKind.wrap_u64]; clear hk hdv; omega
end Go.Proofs.Ytndockjflnicjaa
