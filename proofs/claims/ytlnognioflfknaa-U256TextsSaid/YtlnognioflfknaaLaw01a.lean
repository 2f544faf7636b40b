/- The example that stands ahead of the statements on numbers. -/
import Derived.Test.YtlnognioflfknaaU256c
namespace Go.Proofs.Ytlnognioflfknaa
open Go.RowKit
set_option linter.unusedVariables false

theorem uval_zero : uval 0 = .agg #[.int .u64 0, .int .u64 0, .int .u64 0, .int .u64 0] := rfl
theorem Not_zero (w : World) : Calls Try.prog 14 #[.agg #[.int .u64 0, .int .u64 0, .int .u64 0, .int .u64 0]] w fun e w' => e = .returned (uval (T - 1)) ∧ Below w.heap.size w w' := by
  have := Not_any 0 (T - 1) w (by decide)
  rw [uval_zero] at this
  exact this
theorem Len_is (m : Nat) (k : Int) (hm : m < T) (h : (bl m : Int) = k) (w : World) : Calls Try.prog 22 #[uval m] w fun e w' => e = .returned (.int .i64 k) ∧ Below w.heap.size w w' := h ▸ Len_any m w hm
theorem Hex_is (m : Nat) (s : ByteArray) (hm : m < T) (h : bstr (hexB m (hexLen m)) = s) (w : World) : Calls Try.prog 33 #[uval m] w fun e w' => e = .returned (.string s) ∧ Below w.heap.size w w' := h ▸ Hex_any m w hm
theorem Of_is (n : Nat) (k : Int) (h : k = n) (hn : n < W64) (w : World) : Calls Try.prog 25 #[.int .u64 k] w fun e w' => e = .returned (uval n) ∧ Below w.heap.size w w' := by subst h; exact Of_any n w hn

set_option maxHeartbeats 400000 in
theorem Awake01 (w : World) : Calls Try.prog 10 #[] w fun e w' => e = .returned (.bool true) ∧ Below w.heap.size w w' := by
  have q := eqU0 0 true (by decide) (by decide)
  go_enter Try.func10, Try.ntmps10
  go_wp2_with fail
  refine (Not_zero _).mono ?_
  rintro e w1 ⟨rfl, hb1⟩
  go_wp2_with fail
  refine (Of_is 1 _ rfl (by decide) _).mono ?_
  rintro e w2 ⟨rfl, hb2⟩
  go_wp2_with fail
  refine (Add_any (T - 1) 1 0 true _ (by decide)).mono ?_
  rintro e w3 ⟨rfl, hb3⟩
  simp only [uval]
  go_wp2_with fail
  refine (Of_is 5 _ rfl (by decide) _).mono ?_
  rintro e w4 ⟨rfl, hb4⟩
  go_wp2_with fail
  refine (Len_is 5 3 (by decide) (by decide) _).mono ?_
  rintro e w5 ⟨rfl, hb5⟩
  go_wp2_with fail
  refine (Of_is 255 _ rfl (by decide) _).mono ?_
  rintro e w6 ⟨rfl, hb6⟩
  go_wp2_with fail
  refine (Hex_is 255 ⟨#[102, 102]⟩ (by decide) (by decide +kernel) _).mono ?_
  rintro e w7 ⟨rfl, hb7⟩
  go_wp2
  go_ret
  exact ⟨rfl, bt (bt (bt (bt (ba (bt (bt hb1 hb2) hb3) _) hb4) hb5) hb6) hb7⟩
end Go.Proofs.Ytlnognioflfknaa
