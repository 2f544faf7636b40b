/- RetargetClamp: its walk. -/
import Derived.Test.YtndockjflnicjaaRetE
import Derived.Test.YtndockjflnicjaaGuardB
namespace Go.Proofs.Ytndockjflnicjaa
open Go.RowKit
set_option linter.unusedVariables false
set_option maxRecDepth 100000 in
set_option maxHeartbeats 8000000 in
theorem RClamp_core (a b sp h i m S q r x y f M d : Int) (p1 q1 p3 p4 r34 q5 p6 p7 r67 p8 r678 q9 : Bool) (HC : Hid ((∀ w, Calls Try.prog 13 #[.int .i64 x, .int .i64 sp] w fun e w' => e = .returned (.int .i64 x) ∧ Below w.heap.size w w') ∧ (∀ w, Calls Try.prog 13 #[.int .i64 a, .int .i64 sp] w fun e w' => e = .returned (.int .i64 x) ∧ Below w.heap.size w w') ∧ (∀ w, Calls Try.prog 13 #[.int .i64 b, .int .i64 sp] w fun e w' => e = .returned (.int .i64 y) ∧ Below w.heap.size w w') ∧ (∀ w, Calls Try.prog 14 #[.int .i64 h, .int .i64 i] w fun e w' => e = .returned (.int .i64 f) ∧ Below w.heap.size w w')))
    (e1 : min sp 1099511627776 = m) (e2 : max 4 m = S) (HE : Hid (IntKind.i64.wrap (Int.tdiv S 4) = q ∧ IntKind.i64.wrap (4 * S) = r ∧ max 0 h = M ∧ IntKind.i64.wrap (h - i) = d))
    (HG : Hid (decide (q ≤ x) = true ∧ decide (x ≤ r) = true ∧ decide (0 ≤ f) = true ∧ decide (f ≤ M) = true))
    (HP : Hid (decide (b < a) = p1 ∧ decide (x ≤ y) = q1 ∧ (p1 || q1) = true ∧ decide (a < q) = p3 ∧ decide (r < a) = p4 ∧ (p3 || p4) = r34 ∧ (x == a) = q5 ∧ (r34 || q5) = true ∧
      decide (i < 1) = p6 ∧ decide (1048576 < i) = p7 ∧ (p6 || p7) = r67 ∧ decide (h < i) = p8 ∧ (r67 || p8) = r678 ∧ (f == d) = q9 ∧ (r678 || q9) = true)) (w : World) :
    Calls Try.prog 4 #[.int .i64 a, .int .i64 b, .int .i64 sp, .int .i64 h, .int .i64 i] w fun e w' => e = .returned (.bool true) ∧ Below w.heap.size w w' := by
  go_enter Try.func4, Try.ntmps4
  go_wp2_with fail
  refine (Awake13 _).mono ?_
  rintro e w1 ⟨rfl, bb⟩
  go_wp2_with fail
  refine (HC.out.2.1 _).mono ?_
  rintro e w2 ⟨rfl, hb⟩
  replace bb := bt bb hb
  clear hb e1 e2
  go_wp2_with fail
  refine (HC.out.2.2.1 _).mono ?_
  rintro e w3 ⟨rfl, hb⟩
  replace bb := bt bb hb
  clear hb
  go_wp2_with fail
  refine (HC.out.2.2.2 _).mono ?_
  rintro e w4 ⟨rfl, hb⟩
  replace bb := bt bb hb
  clear hb
  go_upto_region 6 with fail
  refine wp_region_q [some 29, some 30, some 31, some 32, some 33, some 34, some 35, some 36, some 37, some 38, some 39, some 40, some 41, some 42, some 43, some 44, some 45, some 46, some 47, some 48, some 49, some 50, some 51, some 52, some 53, some 54, some 55, some 56, some 57, some 58, some 59, some 60, some 61, some 62, some 63, some 64, some 65, some 66, some 67, some 68, some 69, some 70, some 71, some 72, some 73, some 74, some 75, some 76, some 77, some 78, some 79, some 80, some 81, some 82, some 83, some 84, some 85, some 86, some 87, some 88, some 89, some 90, some 91, some 92, some 93, some 94, some 95, some 96, some 97, some 98, some 99, some 100, some 101, some 102, some 103, some 104, some 105, some 10] (FL [
      EqV (.bool true),
      EqV (.bool true),
      EqV (.int .i64 x),
      EqV (.int .i64 sp),
      EqV (.int .i64 x),
      EqV (.int .i64 x),
      EqV (.bool true),
      EqV (.bool true),
      EqV (.bool true),
      EqV (.int .i64 x),
      EqV (.int .i64 S),
      EqV (.int .i64 q),
      EqV (.bool true),
      EqV (.bool true),
      EqV (.bool true),
      EqV (.int .i64 x),
      EqV (.int .i64 S),
      EqV (.int .i64 r),
      EqV (.bool true),
      EqV (.bool true),
      EqV (.bool true),
      EqV (.int .i64 a),
      EqV (.int .i64 b),
      EqV (.bool p1),
      EqV (.bool p1),
      IfV (p1 == false) (.int .i64 x),
      IfV (p1 == false) (.int .i64 y),
      IfV (p1 == false) (.bool q1),
      EqV (.bool true),
      EqV (.bool true),
      EqV (.bool true),
      EqV (.int .i64 a),
      EqV (.int .i64 S),
      EqV (.int .i64 q),
      EqV (.bool p3),
      EqV (.bool p3),
      IfV (p3 == false) (.int .i64 a),
      IfV (p3 == false) (.int .i64 S),
      IfV (p3 == false) (.int .i64 r),
      IfV (p3 == false) (.bool p4),
      EqV (.bool r34),
      EqV (.bool r34),
      IfV (r34 == false) (.int .i64 x),
      IfV (r34 == false) (.int .i64 a),
      IfV (r34 == false) (.bool q5),
      EqV (.bool true),
      EqV (.bool true),
      EqV (.bool true),
      EqV (.int .i64 f),
      EqV (.bool true),
      EqV (.bool true),
      EqV (.bool true),
      EqV (.int .i64 f),
      EqV (.int .i64 h),
      EqV (.int .i64 M),
      EqV (.bool true),
      EqV (.bool true),
      EqV (.bool true),
      EqV (.int .i64 i),
      EqV (.bool p6),
      EqV (.bool p6),
      IfV (p6 == false) (.int .i64 i),
      IfV (p6 == false) (.bool p7),
      EqV (.bool r67),
      EqV (.bool r67),
      IfV (r67 == false) (.int .i64 h),
      IfV (r67 == false) (.int .i64 i),
      IfV (r67 == false) (.bool p8),
      EqV (.bool r678),
      EqV (.bool r678),
      IfV (r678 == false) (.int .i64 f),
      IfV (r678 == false) (.int .i64 h),
      IfV (r678 == false) (.int .i64 i),
      IfV (r678 == false) (.int .i64 (d)),
      IfV (r678 == false) (.bool q9),
      EqV (.bool true),
      EqV (.bool true),
      EqV (.bool true)
    ]) (FL_keeps ⟨keeps_eq _, keeps_eq _, keeps_eq _, keeps_eq _, keeps_eq _, keeps_eq _, keeps_eq _, keeps_eq _, keeps_eq _, keeps_eq _, keeps_eq _, keeps_eq _, keeps_eq _, keeps_eq _, keeps_eq _, keeps_eq _, keeps_eq _, keeps_eq _, keeps_eq _, keeps_eq _, keeps_eq _, keeps_eq _, keeps_eq _, keeps_eq _, keeps_eq _, keeps_if _ _, keeps_if _ _, keeps_if _ _, keeps_eq _, keeps_eq _, keeps_eq _, keeps_eq _, keeps_eq _, keeps_eq _, keeps_eq _, keeps_eq _, keeps_if _ _, keeps_if _ _, keeps_if _ _, keeps_if _ _, keeps_eq _, keeps_eq _, keeps_if _ _, keeps_if _ _, keeps_if _ _, keeps_eq _, keeps_eq _, keeps_eq _, keeps_eq _, keeps_eq _, keeps_eq _, keeps_eq _, keeps_eq _, keeps_eq _, keeps_eq _, keeps_eq _, keeps_eq _, keeps_eq _, keeps_eq _, keeps_eq _, keeps_eq _, keeps_if _ _, keeps_if _ _, keeps_eq _, keeps_eq _, keeps_if _ _, keeps_if _ _, keeps_if _ _, keeps_eq _, keeps_eq _, keeps_if _ _, keeps_if _ _, keeps_if _ _, keeps_if _ _, keeps_if _ _, keeps_eq _, keeps_eq _, keeps_eq _, trivial⟩) rfl rfl rfl rfl ⟨
    q_of (.inr ⟨gk0 rfl, fun A w' γ hb hF hs => g_eq (op_move (.tmp 11) (.inl rfl) ((hs.2 11 rfl).trans rfl))⟩),
    q_of (.inr ⟨gk0 rfl, fun A w' γ hb hF hs => g_eq (op_move (.tmp 29) (.inl rfl) ((hs.1 0 rfl 29 rfl).trans (hF 0 rfl)))⟩),
    q_of (.inr ⟨gkT 1 true rfl rfl 30 rfl (fun _ _ h => h), fun A w' γ hb hF hs => g_eq (op_move (.tmp 13) (.inl rfl) ((hs.2 13 rfl).trans rfl))⟩),
    q_of (.inr ⟨gkT 1 true rfl rfl 30 rfl (fun _ _ h => h), fun A w' γ hb hF hs => g_eq (op_move (.tmp 2) (.inl rfl) ((hs.2 2 rfl).trans rfl))⟩),
    q_of (.inr ⟨gkT 1 true rfl rfl 30 rfl (fun _ _ h => h), fun A w' γ hb hF hs => g_eq (op_call 13 #[.int .i64 x, .int .i64 sp] (exec_call _ 13 #[.int .i64 x, .int .i64 sp] rfl rfl (oargs2 ((hs.1 2 rfl 31 rfl).trans (hF 2 rfl)) ((hs.1 3 rfl 32 rfl).trans (hF 3 rfl))) Try.func13 rfl rfl) (HC.out.1 _))⟩),
    q_of (.inr ⟨gkT 1 true rfl rfl 30 rfl (fun _ _ h => h), fun A w' γ hb hF hs => g_eq (op_move (.tmp 13) (.inl rfl) ((hs.2 13 rfl).trans rfl))⟩),
    q_of (.inr ⟨gkT 1 true rfl rfl 30 rfl (fun _ _ h => h), fun A w' γ hb hF hs => g_eq (op_eq_int 3 _ (.tmp 33) (.tmp 34) .i64 (x) (x) true rfl ((hs.1 4 rfl 33 rfl).trans (hF 4 rfl)) ((hs.1 5 rfl 34 rfl).trans (hF 5 rfl)) (by simp))⟩),
    q_of (.inr ⟨gk0 rfl, fun A w' γ hb hF hs => g_eq (op_pick (.tmp 30) (.tmp 35) (.const (.bool false)) true rfl ((hs.1 1 rfl 30 rfl).trans (hF 1 rfl)) ((hs.1 6 rfl 35 rfl).trans (hF 6 rfl)))⟩),
    q_of (.inr ⟨gk0 rfl, fun A w' γ hb hF hs => g_eq (op_move (.tmp 36) (.inl rfl) ((hs.1 7 rfl 36 rfl).trans (hF 7 rfl)))⟩),
    q_of (.inr ⟨gkT 8 true rfl rfl 37 rfl (fun _ _ h => h), fun A w' γ hb hF hs => g_eq (op_move (.tmp 13) (.inl rfl) ((hs.2 13 rfl).trans rfl))⟩),
    q_of (.inr ⟨gkT 8 true rfl rfl 37 rfl (fun _ _ h => h), fun A w' γ hb hF hs => g_eq (op_move (.tmp 12) (.inl rfl) ((hs.2 12 rfl).trans rfl))⟩),
    q_of (.inr ⟨gkT 8 true rfl rfl 37 rfl (fun _ _ h => h), fun A w' γ hb hF hs => g_eq (op_quo 3 _ (.tmp 39) (.const (.int .i64 4)) .i64 S 4 q rfl ((hs.1 10 rfl 39 rfl).trans (hF 10 rfl)) rfl (by decide) HE.out.1)⟩),
    q_of (.inr ⟨gkT 8 true rfl rfl 37 rfl (fun _ _ h => h), fun A w' γ hb hF hs => g_eq (op_geq 3 _ (.tmp 38) (.tmp 40) .i64 (x) (q) true rfl ((hs.1 9 rfl 38 rfl).trans (hF 9 rfl)) ((hs.1 11 rfl 40 rfl).trans (hF 11 rfl)) (HG.out.1))⟩),
    q_of (.inr ⟨gk0 rfl, fun A w' γ hb hF hs => g_eq (op_pick (.tmp 37) (.tmp 41) (.const (.bool false)) true rfl ((hs.1 8 rfl 37 rfl).trans (hF 8 rfl)) ((hs.1 12 rfl 41 rfl).trans (hF 12 rfl)))⟩),
    q_of (.inr ⟨gk0 rfl, fun A w' γ hb hF hs => g_eq (op_move (.tmp 42) (.inl rfl) ((hs.1 13 rfl 42 rfl).trans (hF 13 rfl)))⟩),
    q_of (.inr ⟨gkT 14 true rfl rfl 43 rfl (fun _ _ h => h), fun A w' γ hb hF hs => g_eq (op_move (.tmp 13) (.inl rfl) ((hs.2 13 rfl).trans rfl))⟩),
    q_of (.inr ⟨gkT 14 true rfl rfl 43 rfl (fun _ _ h => h), fun A w' γ hb hF hs => g_eq (op_move (.tmp 12) (.inl rfl) ((hs.2 12 rfl).trans rfl))⟩),
    q_of (.inr ⟨gkT 14 true rfl rfl 43 rfl (fun _ _ h => h), fun A w' γ hb hF hs => g_eq (op_mul 3 _ (.const (.int .i64 4)) (.tmp 45) .i64 4 S r rfl rfl ((hs.1 16 rfl 45 rfl).trans (hF 16 rfl)) HE.out.2.1)⟩),
    q_of (.inr ⟨gkT 14 true rfl rfl 43 rfl (fun _ _ h => h), fun A w' γ hb hF hs => g_eq (op_leq 3 _ (.tmp 44) (.tmp 46) .i64 (x) (r) true rfl ((hs.1 15 rfl 44 rfl).trans (hF 15 rfl)) ((hs.1 17 rfl 46 rfl).trans (hF 17 rfl)) (HG.out.2.1))⟩),
    q_of (.inr ⟨gk0 rfl, fun A w' γ hb hF hs => g_eq (op_pick (.tmp 43) (.tmp 47) (.const (.bool false)) true rfl ((hs.1 14 rfl 43 rfl).trans (hF 14 rfl)) ((hs.1 18 rfl 47 rfl).trans (hF 18 rfl)))⟩),
    q_of (.inr ⟨gk0 rfl, fun A w' γ hb hF hs => g_eq (op_move (.tmp 48) (.inl rfl) ((hs.1 19 rfl 48 rfl).trans (hF 19 rfl)))⟩),
    q_of (.inr ⟨gkT 20 true rfl rfl 49 rfl (fun _ _ h => h), fun A w' γ hb hF hs => g_eq (op_move (.tmp 0) (.inl rfl) ((hs.2 0 rfl).trans rfl))⟩),
    q_of (.inr ⟨gkT 20 true rfl rfl 49 rfl (fun _ _ h => h), fun A w' γ hb hF hs => g_eq (op_move (.tmp 1) (.inl rfl) ((hs.2 1 rfl).trans rfl))⟩),
    q_of (.inr ⟨gkT 20 true rfl rfl 49 rfl (fun _ _ h => h), fun A w' γ hb hF hs => g_eq (op_gtr 3 _ (.tmp 50) (.tmp 51) .i64 (a) (b) p1 rfl ((hs.1 21 rfl 50 rfl).trans (hF 21 rfl)) ((hs.1 22 rfl 51 rfl).trans (hF 22 rfl)) (HP.out.1))⟩),
    q_of (.inr ⟨gkT 20 true rfl rfl 49 rfl (fun _ _ h => h), fun A w' γ hb hF hs => g_eq (op_move (.tmp 52) (.inl rfl) ((hs.1 23 rfl 52 rfl).trans (hF 23 rfl)))⟩),
    q_if 24 false p1 rfl rfl 53 rfl (fun _ _ h => h) (fun h0 w hh => by rw [h0] at hh; cases hh) (fun hw A w' γ hb hF hs => g_if (g_eq (op_move (.tmp 13) (.inl rfl) ((hs.2 13 rfl).trans rfl)))),
    q_if 24 false p1 rfl rfl 53 rfl (fun _ _ h => h) (fun h0 w hh => by rw [h0] at hh; cases hh) (fun hw A w' γ hb hF hs => g_if (g_eq (op_move (.tmp 14) (.inl rfl) ((hs.2 14 rfl).trans rfl)))),
    q_if 24 false p1 rfl rfl 53 rfl (fun _ _ h => h) (fun h0 w hh => by rw [h0] at hh; cases hh) (fun hw A w' γ hb hF hs => g_if (g_eq (op_leq 3 _ (.tmp 54) (.tmp 55) .i64 (x) (y) q1 rfl ((hs.1 25 rfl 54 rfl).trans (hF 25 rfl hw)) ((hs.1 26 rfl 55 rfl).trans (hF 26 rfl hw)) (HP.out.2.1)))),
    q_of (.inr ⟨gkT 20 true rfl rfl 49 rfl (fun _ _ h => h), fun A w' γ hb hF hs => g_eq (op_pick_or (.tmp 53) (.tmp 56) (p1) (q1) (true) rfl ((hs.1 24 rfl 53 rfl).trans (hF 24 rfl)) (fun hw => ((hs.1 27 rfl 56 rfl).trans (hF 27 rfl hw))) (HP.out.2.2.1))⟩),
    q_of (.inr ⟨gk0 rfl, fun A w' γ hb hF hs => g_eq (op_pick (.tmp 49) (.tmp 57) (.const (.bool false)) true rfl ((hs.1 20 rfl 49 rfl).trans (hF 20 rfl)) ((hs.1 28 rfl 57 rfl).trans (hF 28 rfl)))⟩),
    q_of (.inr ⟨gk0 rfl, fun A w' γ hb hF hs => g_eq (op_move (.tmp 58) (.inl rfl) ((hs.1 29 rfl 58 rfl).trans (hF 29 rfl)))⟩),
    q_of (.inr ⟨gkT 30 true rfl rfl 59 rfl (fun _ _ h => h), fun A w' γ hb hF hs => g_eq (op_move (.tmp 0) (.inl rfl) ((hs.2 0 rfl).trans rfl))⟩),
    q_of (.inr ⟨gkT 30 true rfl rfl 59 rfl (fun _ _ h => h), fun A w' γ hb hF hs => g_eq (op_move (.tmp 12) (.inl rfl) ((hs.2 12 rfl).trans rfl))⟩),
    q_of (.inr ⟨gkT 30 true rfl rfl 59 rfl (fun _ _ h => h), fun A w' γ hb hF hs => g_eq (op_quo 3 _ (.tmp 61) (.const (.int .i64 4)) .i64 S 4 q rfl ((hs.1 32 rfl 61 rfl).trans (hF 32 rfl)) rfl (by decide) HE.out.1)⟩),
    q_of (.inr ⟨gkT 30 true rfl rfl 59 rfl (fun _ _ h => h), fun A w' γ hb hF hs => g_eq (op_lss 3 _ (.tmp 60) (.tmp 62) .i64 (a) (q) p3 rfl ((hs.1 31 rfl 60 rfl).trans (hF 31 rfl)) ((hs.1 33 rfl 62 rfl).trans (hF 33 rfl)) (HP.out.2.2.2.1))⟩),
    q_of (.inr ⟨gkT 30 true rfl rfl 59 rfl (fun _ _ h => h), fun A w' γ hb hF hs => g_eq (op_move (.tmp 63) (.inl rfl) ((hs.1 34 rfl 63 rfl).trans (hF 34 rfl)))⟩),
    q_if 35 false p3 rfl rfl 64 rfl (fun _ _ h => h) (fun h0 w hh => by rw [h0] at hh; cases hh) (fun hw A w' γ hb hF hs => g_if (g_eq (op_move (.tmp 0) (.inl rfl) ((hs.2 0 rfl).trans rfl)))),
    q_if 35 false p3 rfl rfl 64 rfl (fun _ _ h => h) (fun h0 w hh => by rw [h0] at hh; cases hh) (fun hw A w' γ hb hF hs => g_if (g_eq (op_move (.tmp 12) (.inl rfl) ((hs.2 12 rfl).trans rfl)))),
    q_if 35 false p3 rfl rfl 64 rfl (fun _ _ h => h) (fun h0 w hh => by rw [h0] at hh; cases hh) (fun hw A w' γ hb hF hs => g_if (g_eq (op_mul 3 _ (.const (.int .i64 4)) (.tmp 66) .i64 4 S r rfl rfl ((hs.1 37 rfl 66 rfl).trans (hF 37 rfl hw)) HE.out.2.1))),
    q_if 35 false p3 rfl rfl 64 rfl (fun _ _ h => h) (fun h0 w hh => by rw [h0] at hh; cases hh) (fun hw A w' γ hb hF hs => g_if (g_eq (op_gtr 3 _ (.tmp 65) (.tmp 67) .i64 (a) (r) p4 rfl ((hs.1 36 rfl 65 rfl).trans (hF 36 rfl hw)) ((hs.1 38 rfl 67 rfl).trans (hF 38 rfl hw)) (HP.out.2.2.2.2.1)))),
    q_of (.inr ⟨gkT 30 true rfl rfl 59 rfl (fun _ _ h => h), fun A w' γ hb hF hs => g_eq (op_pick_or (.tmp 64) (.tmp 68) (p3) (p4) (r34) rfl ((hs.1 35 rfl 64 rfl).trans (hF 35 rfl)) (fun hw => ((hs.1 39 rfl 68 rfl).trans (hF 39 rfl hw))) (HP.out.2.2.2.2.2.1))⟩),
    q_of (.inr ⟨gkT 30 true rfl rfl 59 rfl (fun _ _ h => h), fun A w' γ hb hF hs => g_eq (op_move (.tmp 69) (.inl rfl) ((hs.1 40 rfl 69 rfl).trans (hF 40 rfl)))⟩),
    q_if 41 false r34 rfl rfl 70 rfl (fun _ _ h => h) (fun h0 w hh => by rw [h0] at hh; cases hh) (fun hw A w' γ hb hF hs => g_if (g_eq (op_move (.tmp 13) (.inl rfl) ((hs.2 13 rfl).trans rfl)))),
    q_if 41 false r34 rfl rfl 70 rfl (fun _ _ h => h) (fun h0 w hh => by rw [h0] at hh; cases hh) (fun hw A w' γ hb hF hs => g_if (g_eq (op_move (.tmp 0) (.inl rfl) ((hs.2 0 rfl).trans rfl)))),
    q_if 41 false r34 rfl rfl 70 rfl (fun _ _ h => h) (fun h0 w hh => by rw [h0] at hh; cases hh) (fun hw A w' γ hb hF hs => g_if (g_eq (op_eq_int 3 _ (.tmp 71) (.tmp 72) .i64 (x) (a) q5 rfl ((hs.1 42 rfl 71 rfl).trans (hF 42 rfl hw)) ((hs.1 43 rfl 72 rfl).trans (hF 43 rfl hw)) (HP.out.2.2.2.2.2.2.1)))),
    q_of (.inr ⟨gkT 30 true rfl rfl 59 rfl (fun _ _ h => h), fun A w' γ hb hF hs => g_eq (op_pick_or (.tmp 70) (.tmp 73) (r34) (q5) (true) rfl ((hs.1 41 rfl 70 rfl).trans (hF 41 rfl)) (fun hw => ((hs.1 44 rfl 73 rfl).trans (hF 44 rfl hw))) (HP.out.2.2.2.2.2.2.2.1))⟩),
    q_of (.inr ⟨gk0 rfl, fun A w' γ hb hF hs => g_eq (op_pick (.tmp 59) (.tmp 74) (.const (.bool false)) true rfl ((hs.1 30 rfl 59 rfl).trans (hF 30 rfl)) ((hs.1 45 rfl 74 rfl).trans (hF 45 rfl)))⟩),
    q_of (.inr ⟨gk0 rfl, fun A w' γ hb hF hs => g_eq (op_move (.tmp 75) (.inl rfl) ((hs.1 46 rfl 75 rfl).trans (hF 46 rfl)))⟩),
    q_of (.inr ⟨gkT 47 true rfl rfl 76 rfl (fun _ _ h => h), fun A w' γ hb hF hs => g_eq (op_move (.tmp 15) (.inl rfl) ((hs.2 15 rfl).trans rfl))⟩),
    q_of (.inr ⟨gkT 47 true rfl rfl 76 rfl (fun _ _ h => h), fun A w' γ hb hF hs => g_eq (op_geq 3 _ (.tmp 77) (.const (.int .i64 0)) .i64 (f) (0) true rfl ((hs.1 48 rfl 77 rfl).trans (hF 48 rfl)) rfl (HG.out.2.2.1))⟩),
    q_of (.inr ⟨gk0 rfl, fun A w' γ hb hF hs => g_eq (op_pick (.tmp 76) (.tmp 78) (.const (.bool false)) true rfl ((hs.1 47 rfl 76 rfl).trans (hF 47 rfl)) ((hs.1 49 rfl 78 rfl).trans (hF 49 rfl)))⟩),
    q_of (.inr ⟨gk0 rfl, fun A w' γ hb hF hs => g_eq (op_move (.tmp 79) (.inl rfl) ((hs.1 50 rfl 79 rfl).trans (hF 50 rfl)))⟩),
    q_of (.inr ⟨gkT 51 true rfl rfl 80 rfl (fun _ _ h => h), fun A w' γ hb hF hs => g_eq (op_move (.tmp 15) (.inl rfl) ((hs.2 15 rfl).trans rfl))⟩),
    q_of (.inr ⟨gkT 51 true rfl rfl 80 rfl (fun _ _ h => h), fun A w' γ hb hF hs => g_eq (op_move (.tmp 3) (.inl rfl) ((hs.2 3 rfl).trans rfl))⟩),
    q_of (.inr ⟨gkT 51 true rfl rfl 80 rfl (fun _ _ h => h), fun A w' γ hb hF hs => g_eq (op_max (.const (.int .i64 0)) (.tmp 82) .i64 0 h M 3 rfl rfl ((hs.1 53 rfl 82 rfl).trans (hF 53 rfl)) HE.out.2.2.1)⟩),
    q_of (.inr ⟨gkT 51 true rfl rfl 80 rfl (fun _ _ h => h), fun A w' γ hb hF hs => g_eq (op_leq 3 _ (.tmp 81) (.tmp 83) .i64 (f) (M) true rfl ((hs.1 52 rfl 81 rfl).trans (hF 52 rfl)) ((hs.1 54 rfl 83 rfl).trans (hF 54 rfl)) (HG.out.2.2.2))⟩),
    q_of (.inr ⟨gk0 rfl, fun A w' γ hb hF hs => g_eq (op_pick (.tmp 80) (.tmp 84) (.const (.bool false)) true rfl ((hs.1 51 rfl 80 rfl).trans (hF 51 rfl)) ((hs.1 55 rfl 84 rfl).trans (hF 55 rfl)))⟩),
    q_of (.inr ⟨gk0 rfl, fun A w' γ hb hF hs => g_eq (op_move (.tmp 85) (.inl rfl) ((hs.1 56 rfl 85 rfl).trans (hF 56 rfl)))⟩),
    q_of (.inr ⟨gkT 57 true rfl rfl 86 rfl (fun _ _ h => h), fun A w' γ hb hF hs => g_eq (op_move (.tmp 4) (.inl rfl) ((hs.2 4 rfl).trans rfl))⟩),
    q_of (.inr ⟨gkT 57 true rfl rfl 86 rfl (fun _ _ h => h), fun A w' γ hb hF hs => g_eq (op_lss 3 _ (.tmp 87) (.const (.int .i64 1)) .i64 (i) (1) p6 rfl ((hs.1 58 rfl 87 rfl).trans (hF 58 rfl)) rfl (HP.out.2.2.2.2.2.2.2.2.1))⟩),
    q_of (.inr ⟨gkT 57 true rfl rfl 86 rfl (fun _ _ h => h), fun A w' γ hb hF hs => g_eq (op_move (.tmp 88) (.inl rfl) ((hs.1 59 rfl 88 rfl).trans (hF 59 rfl)))⟩),
    q_if 60 false p6 rfl rfl 89 rfl (fun _ _ h => h) (fun h0 w hh => by rw [h0] at hh; cases hh) (fun hw A w' γ hb hF hs => g_if (g_eq (op_move (.tmp 4) (.inl rfl) ((hs.2 4 rfl).trans rfl)))),
    q_if 60 false p6 rfl rfl 89 rfl (fun _ _ h => h) (fun h0 w hh => by rw [h0] at hh; cases hh) (fun hw A w' γ hb hF hs => g_if (g_eq (op_gtr 3 _ (.tmp 90) (.const (.int .i64 1048576)) .i64 (i) (1048576) p7 rfl ((hs.1 61 rfl 90 rfl).trans (hF 61 rfl hw)) rfl (HP.out.2.2.2.2.2.2.2.2.2.1)))),
    q_of (.inr ⟨gkT 57 true rfl rfl 86 rfl (fun _ _ h => h), fun A w' γ hb hF hs => g_eq (op_pick_or (.tmp 89) (.tmp 91) (p6) (p7) (r67) rfl ((hs.1 60 rfl 89 rfl).trans (hF 60 rfl)) (fun hw => ((hs.1 62 rfl 91 rfl).trans (hF 62 rfl hw))) (HP.out.2.2.2.2.2.2.2.2.2.2.1))⟩),
    q_of (.inr ⟨gkT 57 true rfl rfl 86 rfl (fun _ _ h => h), fun A w' γ hb hF hs => g_eq (op_move (.tmp 92) (.inl rfl) ((hs.1 63 rfl 92 rfl).trans (hF 63 rfl)))⟩),
    q_if 64 false r67 rfl rfl 93 rfl (fun _ _ h => h) (fun h0 w hh => by rw [h0] at hh; cases hh) (fun hw A w' γ hb hF hs => g_if (g_eq (op_move (.tmp 3) (.inl rfl) ((hs.2 3 rfl).trans rfl)))),
    q_if 64 false r67 rfl rfl 93 rfl (fun _ _ h => h) (fun h0 w hh => by rw [h0] at hh; cases hh) (fun hw A w' γ hb hF hs => g_if (g_eq (op_move (.tmp 4) (.inl rfl) ((hs.2 4 rfl).trans rfl)))),
    q_if 64 false r67 rfl rfl 93 rfl (fun _ _ h => h) (fun h0 w hh => by rw [h0] at hh; cases hh) (fun hw A w' γ hb hF hs => g_if (g_eq (op_lss 3 _ (.tmp 94) (.tmp 95) .i64 (h) (i) p8 rfl ((hs.1 65 rfl 94 rfl).trans (hF 65 rfl hw)) ((hs.1 66 rfl 95 rfl).trans (hF 66 rfl hw)) (HP.out.2.2.2.2.2.2.2.2.2.2.2.1)))),
    q_of (.inr ⟨gkT 57 true rfl rfl 86 rfl (fun _ _ h => h), fun A w' γ hb hF hs => g_eq (op_pick_or (.tmp 93) (.tmp 96) (r67) (p8) (r678) rfl ((hs.1 64 rfl 93 rfl).trans (hF 64 rfl)) (fun hw => ((hs.1 67 rfl 96 rfl).trans (hF 67 rfl hw))) (HP.out.2.2.2.2.2.2.2.2.2.2.2.2.1))⟩),
    q_of (.inr ⟨gkT 57 true rfl rfl 86 rfl (fun _ _ h => h), fun A w' γ hb hF hs => g_eq (op_move (.tmp 97) (.inl rfl) ((hs.1 68 rfl 97 rfl).trans (hF 68 rfl)))⟩),
    q_if 69 false r678 rfl rfl 98 rfl (fun _ _ h => h) (fun h0 w hh => by rw [h0] at hh; cases hh) (fun hw A w' γ hb hF hs => g_if (g_eq (op_move (.tmp 15) (.inl rfl) ((hs.2 15 rfl).trans rfl)))),
    q_if 69 false r678 rfl rfl 98 rfl (fun _ _ h => h) (fun h0 w hh => by rw [h0] at hh; cases hh) (fun hw A w' γ hb hF hs => g_if (g_eq (op_move (.tmp 3) (.inl rfl) ((hs.2 3 rfl).trans rfl)))),
    q_if 69 false r678 rfl rfl 98 rfl (fun _ _ h => h) (fun h0 w hh => by rw [h0] at hh; cases hh) (fun hw A w' γ hb hF hs => g_if (g_eq (op_move (.tmp 4) (.inl rfl) ((hs.2 4 rfl).trans rfl)))),
    q_if 69 false r678 rfl rfl 98 rfl (fun _ _ h => h) (fun h0 w hh => by rw [h0] at hh; cases hh) (fun hw A w' γ hb hF hs => g_if (g_eq (op_sub 3 _ (.tmp 100) (.tmp 101) .i64 (h) (i) (d) rfl ((hs.1 71 rfl 100 rfl).trans (hF 71 rfl hw)) ((hs.1 72 rfl 101 rfl).trans (hF 72 rfl hw)) (HE.out.2.2.2)))),
    q_if 69 false r678 rfl rfl 98 rfl (fun _ _ h => h) (fun h0 w hh => by rw [h0] at hh; cases hh) (fun hw A w' γ hb hF hs => g_if (g_eq (op_eq_int 3 _ (.tmp 99) (.tmp 102) .i64 (f) ((d)) q9 rfl ((hs.1 70 rfl 99 rfl).trans (hF 70 rfl hw)) ((hs.1 73 rfl 102 rfl).trans (hF 73 rfl hw)) (HP.out.2.2.2.2.2.2.2.2.2.2.2.2.2.1)))),
    q_of (.inr ⟨gkT 57 true rfl rfl 86 rfl (fun _ _ h => h), fun A w' γ hb hF hs => g_eq (op_pick_or (.tmp 98) (.tmp 103) (r678) (q9) (true) rfl ((hs.1 69 rfl 98 rfl).trans (hF 69 rfl)) (fun hw => ((hs.1 74 rfl 103 rfl).trans (hF 74 rfl hw))) (HP.out.2.2.2.2.2.2.2.2.2.2.2.2.2.2))⟩),
    q_of (.inr ⟨gk0 rfl, fun A w' γ hb hF hs => g_eq (op_pick (.tmp 86) (.tmp 104) (.const (.bool false)) true rfl ((hs.1 57 rfl 86 rfl).trans (hF 57 rfl)) ((hs.1 75 rfl 104 rfl).trans (hF 75 rfl)))⟩),
    q_of (.inr ⟨gk0 rfl, fun A w' γ hb hF hs => g_eq (op_move (.tmp 105) (.inr rfl) ((hs.1 76 rfl 105 rfl).trans (hF 76 rfl)))⟩),
    trivial⟩ ?_
  intro γ w' hb hF
  have bz := bt bb hb
  have ez : γ 77 = .bool true := hF 77 (by decide)
  simp only [Fr, if_true, Act.put, List.setIfInBounds_toArray, List.set_cons_zero, List.set_cons_succ]
  rw [ez]
  clear ez hF
  go_wp2
  go_ret
  exact ⟨rfl, bz⟩
theorem i64_wf {k : Int} (h : (Lit.int .i64 k).wf = true) : -9223372036854775808 ≤ k ∧ k ≤ 9223372036854775807 := by
  simp [Lit.wf, IntKind.min, IntKind.max, IntKind.signed, IntKind.bits] at h
  omega
theorem betw_val (x lo hi : Int) (h : lo ≤ hi) : (x < lo ∧ betw x lo hi = lo) ∨ (lo ≤ x ∧ x ≤ hi ∧ betw x lo hi = x) ∨ (hi < x ∧ betw x lo hi = hi) := by
  unfold betw
  split <;> split <;> omega
theorem RClamp_walk (a : Int) (ha : (Lit.int .i64 a).wf = true) (b : Int) (hb : (Lit.int .i64 b).wf = true) (sp : Int) (hsp : (Lit.int .i64 sp).wf = true) (h : Int) (hh : (Lit.int .i64 h).wf = true) (i : Int) (hi : (Lit.int .i64 i).wf = true) (w : World) :
    Calls Try.prog 4 #[.int .i64 a, .int .i64 b, .int .i64 sp, .int .i64 h, .int .i64 i] w fun e w' => e = .returned (.bool true) ∧ Below w.heap.size w w' := by
  have wh := i64_wf hh
  have wi := i64_wf hi
  obtain ⟨S, hS⟩ : ∃ S, S = betw sp 4 1099511627776 := ⟨_, rfl⟩
  have vS := betw_val sp 4 1099511627776 (by decide)
  rw [← hS] at vS
  have lS : 4 ≤ S ∧ S ≤ 1099511627776 := by omega
  have hq : Int.tdiv S 4 = S / 4 := by obtain ⟨N, rfl⟩ : ∃ N : Nat, S = N := ⟨S.toNat, by omega⟩; rfl
  have ec : ∀ z, clampR z sp = betw z (S / 4) (4 * S) := fun z => by unfold clampR; rw [← hS, hq]
  obtain ⟨x, hx⟩ : ∃ x, x = clampR a sp := ⟨_, rfl⟩
  obtain ⟨y, hy⟩ : ∃ y, y = clampR b sp := ⟨_, rfl⟩
  have vx := betw_val a (S / 4) (4 * S) (by omega)
  have vy := betw_val b (S / 4) (4 * S) (by omega)
  have vxx := betw_val x (S / 4) (4 * S) (by omega)
  rw [← ec, ← hx] at vx
  rw [← ec, ← hy] at vy
  rw [← ec] at vxx
  have hxx : clampR x sp = x := by omega
  have ca := fun w => Clamp_any a sp w
  have cb := fun w => Clamp_any b sp w
  have cx := fun w => Clamp_any x sp w
  rw [← hx] at ca
  rw [← hy] at cb
  rw [hxx] at cx
  have cf := fun w => First_any h i hh w
  obtain ⟨f, hf⟩ : ∃ f, f = firstR h i := ⟨_, rfl⟩
  rw [← hf] at cf
  have vi := betw_val i 1 1048576 (by decide)
  unfold firstR at hf
  generalize betw i 1 1048576 = I at *
  have vf : (h ≤ I ∧ f = 0) ∨ (I < h ∧ f = h - I) := by
    split at hf <;> omega
  clear hf hS hx hy ec
  refine RClamp_core a b sp h i (min sp 1099511627776) S (S / 4) (4 * S) x y f (max 0 h) (IntKind.i64.wrap (h - i)) _ _ _ _ _ _ _ _ _ _ _ _ ⟨cx, ca, cb, cf⟩ rfl (by omega) ⟨?_, ?_, rfl, rfl⟩ ⟨decide_eq_true (by omega), decide_eq_true (by omega), decide_eq_true (by omega), decide_eq_true (by omega)⟩ ⟨rfl, rfl, ?_, rfl, rfl, rfl, rfl, ?_, rfl, rfl, rfl, rfl, rfl, rfl, ?_⟩ w
  · rw [hq]; simp [IntKind.wrap, IntKind.signed, IntKind.bits]; omega
  · simp [IntKind.wrap, IntKind.signed, IntKind.bits]; omega
  · simp only [Bool.or_eq_true, decide_eq_true_eq]; omega
  · simp only [Bool.or_eq_true, decide_eq_true_eq, beq_iff_eq]; omega
  · simp only [Bool.or_eq_true, decide_eq_true_eq, beq_iff_eq]
    by_cases k : i < 1
    · exact .inl (.inl (.inl k))
    · by_cases k' : 1048576 < i
      · exact .inl (.inl (.inr k'))
      · by_cases k'' : h < i
        · exact .inl (.inr k'')
        · right
          have e : IntKind.i64.wrap (h - i) = h - i := by simp [IntKind.wrap, IntKind.signed, IntKind.bits]; omega
          rw [e]
          omega
end Go.Proofs.Ytndockjflnicjaa
