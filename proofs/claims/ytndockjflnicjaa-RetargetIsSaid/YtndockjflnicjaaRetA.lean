/- retarget's between, within, Clamp and First. -/
import Derived.Test.YtndockjflnicjaaProg
import Derived.Test.YtndockjflnicjaaBase
import Derived.Laws.Small
namespace Go.Proofs.Ytndockjflnicjaa
open Go.RowKit
set_option linter.unusedVariables false
/-- n, but lo at least and hi at most. -/
def betw (n lo hi : Int) : Int := if hi < (if lo > n then lo else n) then hi else (if lo > n then lo else n)
set_option maxRecDepth 100000 in
set_option maxHeartbeats 400000 in
theorem Between_any (n lo hi : Int) (w : World) : Calls Try.prog 29 #[.int .i64 n, .int .i64 lo, .int .i64 hi] w fun e w' => e = .returned (.int .i64 (betw n lo hi)) ∧ Below w.heap.size w w' := by
  unfold betw
  go_enter Try.func29, Try.ntmps29
  go_wp2
  all_goals (go_ret; exact ⟨rfl, Below.refl _ _⟩)
set_option maxRecDepth 100000 in
set_option maxHeartbeats 400000 in
theorem Within_any (n lo hi : Int) (b : Bool) (hb : (n == betw n lo hi) = b) (w : World) : Calls Try.prog 28 #[.int .i64 n, .int .i64 lo, .int .i64 hi] w fun e w' => e = .returned (.bool b) ∧ Below w.heap.size w w' := by
  go_enter Try.func28, Try.ntmps28
  go_wp2_with fail
  refine (Between_any n lo hi _).mono ?_
  rintro e w1 ⟨rfl, hb1⟩
  generalize betw n lo hi = x at *
  go_wp2
  go_ret
  exact ⟨rfl, hb1⟩
/-- A time that is not too far from what it should be. -/
def clampR (a s : Int) : Int := betw a (Int.tdiv (betw s 4 1099511627776) 4) (4 * betw s 4 1099511627776)
theorem betw_le (n lo hi : Int) (h : lo ≤ hi) : lo ≤ betw n lo hi ∧ betw n lo hi ≤ hi := by
  unfold betw
  split <;> split <;> omega
set_option maxRecDepth 100000 in
set_option maxHeartbeats 400000 in
theorem Clamp_any (a s : Int) (w : World) : Calls Try.prog 13 #[.int .i64 a, .int .i64 s] w fun e w' => e = .returned (.int .i64 (clampR a s)) ∧ Below w.heap.size w w' := by
  obtain ⟨h1, h2⟩ := betw_le s 4 1099511627776 (by decide)
  have c1 := fun w => Between_any s 4 1099511627776 w
  unfold clampR
  generalize betw s 4 1099511627776 = S at *
  obtain ⟨N, rfl⟩ : ∃ N : Nat, S = N := ⟨S.toNat, by omega⟩
  have e1 : Int.tdiv (N : Int) 4 = (N : Int) / 4 := rfl
  have e2 : IntKind.i64.wrap (4 * (N : Int)) = 4 * (N : Int) := by simp [IntKind.wrap, IntKind.signed, IntKind.bits]; omega
  have e3 : IntKind.i64.wrap ((N : Int) / 4) = (N : Int) / 4 := by simp [IntKind.wrap, IntKind.signed, IntKind.bits]; omega
  have c2 := fun w => Between_any a ((N : Int) / 4) (4 * (N : Int)) w
  rw [e1]
  generalize betw a ((N : Int) / 4) (4 * (N : Int)) = x at *
  clear h1 h2
  go_enter Try.func13, Try.ntmps13
  go_wp2_with fail
  refine (c1 _).mono ?_
  rintro e w1 ⟨rfl, hb1⟩
  clear c1
  go_wp2_with fail
  refine (c2 _).mono ?_
  rintro e w2 ⟨rfl, hb2⟩
  go_wp2
  go_ret
  exact ⟨rfl, bt hb1 hb2⟩
/-- The height where a time begins. -/
def firstR (h i : Int) : Int := if h ≤ betw i 1 1048576 then 0 else h - betw i 1 1048576
set_option maxRecDepth 100000 in
set_option maxHeartbeats 400000 in
theorem First_any (h i : Int) (hw : (Lit.int .i64 h).wf = true) (w : World) : Calls Try.prog 14 #[.int .i64 h, .int .i64 i] w fun e w' => e = .returned (.int .i64 (firstR h i)) ∧ Below w.heap.size w w' := by
  simp [Lit.wf, IntKind.min, IntKind.max, IntKind.signed, IntKind.bits] at hw
  obtain ⟨h1, h2⟩ := betw_le i 1 1048576 (by decide)
  have c1 := fun w => Between_any i 1 1048576 w
  unfold firstR
  generalize betw i 1 1048576 = S at *
  by_cases hc : h ≤ S
  · have hd : decide (h ≤ S) = true := decide_eq_true hc
    rw [if_pos hc]
    clear h1 h2 hw
    go_enter Try.func14, Try.ntmps14
    go_wp2_with fail
    refine (c1 _).mono ?_
    rintro e w1 ⟨rfl, hb1⟩
    go_wp2
    go_ret
    exact ⟨rfl, hb1⟩
  · have hd : decide (h ≤ S) = false := decide_eq_false hc
    have hx : IntKind.i64.wrap (h - S) = h - S := by simp [IntKind.wrap, IntKind.signed, IntKind.bits]; omega
    rw [if_neg hc]
    clear h1 h2 hw
    go_enter Try.func14, Try.ntmps14
    go_wp2_with fail
    refine (c1 _).mono ?_
    rintro e w1 ⟨rfl, hb1⟩
    go_wp2
    go_ret
    exact ⟨rfl, hb1⟩
end Go.Proofs.Ytndockjflnicjaa
