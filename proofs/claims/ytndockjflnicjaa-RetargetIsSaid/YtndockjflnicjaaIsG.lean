/- RetargetIs: its walk. -/
import Derived.Test.YtndockjflnicjaaIsF
namespace Go.Proofs.Ytndockjflnicjaa
open Go.RowKit
set_option linter.unusedVariables false
set_option maxRecDepth 100000 in
set_option maxHeartbeats 8000000 in
theorem RIs_core (lim fi x z n c : Nat) (iv sp fu ix op ht act cl fr : Int) (av ca : Option Addr) (cn cc : Nat) (s : Bool) (hv : Array Value) (w : World) (iP : (Try.prog.info? 25).map (·.size) = some (pcells lim iv sp fu ix op ca cn cc).size) (iH : (Try.prog.info? 29).map (·.size) = some hv.size)
    (HN : Hid ((∀ w, Calls Try.prog 11 #[.agg (pcells lim iv sp fu ix op ca cn cc)] w fun e w' => e = .returned (.bool s) ∧ Below w.heap.size w w') ∧ (∀ w, Calls Try.prog 17 #[.agg (pcells lim iv sp fu ix op ca cn cc)] w fun e w' => e = .returned (.bool s) ∧ Below w.heap.size w w') ∧ (∀ w, Calls Try.prog 9 #[.agg (pcells lim iv sp fu ix op ca cn cc), .int .i64 ht, .agg hv, .int .u32 fi] w fun e w' => e = .returned (.int .u32 x) ∧ Below w.heap.size w w') ∧ (∀ w, Calls Try.prog 18 #[.agg (pcells lim iv sp fu ix op ca cn cc), .int .i64 ht, .agg hv, .int .u32 fi] w fun e w' => e = .returned (.int .u32 x) ∧ Below w.heap.size w w') ∧
      (∀ w, Calls Try.prog 13 #[.int .i64 act, .int .i64 sp] w fun e w' => e = .returned (.int .i64 cl) ∧ Below w.heap.size w w') ∧ (∀ w, Calls Try.prog 21 #[.int .i64 act, .int .i64 sp] w fun e w' => e = .returned (.int .i64 cl) ∧ Below w.heap.size w w') ∧ (∀ w, Calls Try.prog 14 #[.int .i64 ht, .int .i64 iv] w fun e w' => e = .returned (.int .i64 fr) ∧ Below w.heap.size w w') ∧ (∀ w, Calls Try.prog 22 #[.int .i64 ht, .int .i64 iv] w fun e w' => e = .returned (.int .i64 fr) ∧ Below w.heap.size w w')))
    (HM : Hid (n ≤ 100 → ∀ w', Below w.heap.size w w' → (Calls Try.prog 19 #[.agg (pcells lim iv sp fu ix op ca cn cc), .slice av n c] w' fun e w'' => e = .returned (.int .u32 z) ∧ Below w'.heap.size w' w'') ∧ (Calls Try.prog 20 #[.agg (pcells lim iv sp fu ix op ca cn cc), .slice av n c] w' fun e w'' => e = .returned (.int .u32 z) ∧ Below w'.heap.size w' w''))) :
    Calls Try.prog 6 #[.agg (pcells lim iv sp fu ix op ca cn cc), .int .i64 ht, .agg hv, .int .u32 fi, .slice av n c, .int .i64 act] w fun e w' => e = .returned (.bool true) ∧ Below w.heap.size w w' := by
  go_enter Try.func6, Try.ntmps6
  go_wp2_with fail
  refine (Awake13 _).mono ?_
  rintro q w1 ⟨rfl, hb1⟩
  have q_p := ((Blk.newAt w 25 (pcells lim iv sp fu ix op ca cn cc) rfl).alloc (.cells hv 29)).calls hb1
  have q_h := (Blk.newAt (w.alloc (.cells (pcells lim iv sp fu ix op ca cn cc) 25)) 29 hv (by simp : w.heap.size + 1 = _)).calls hb1
  have bb := bt (ba (ba (Below.refl w.heap.size w) _) _) hb1
  have l_p := q_p.lt
  have l_h := q_h.lt
  clear hb1
  have p6 := blk_get q_p 6 _ rfl
  by_cases h1 : 100 < n
  · have h1' : decide ((100 : Int) < (n : Int)) = true := decide_eq_true (by omega)
    go_wp2
    go_ret
    exact ⟨rfl, bb⟩
  · have h1' : decide ((100 : Int) < (n : Int)) = false := decide_eq_false (by omega)
    by_cases h2 : 200 < cn
    · have h2' : decide ((200 : Int) < (cn : Int)) = true := decide_eq_true (by omega)
      go_wp2
      go_ret
      exact ⟨rfl, bb⟩
    · have h2' : decide ((200 : Int) < (cn : Int)) = false := decide_eq_false (by omega)
      go_wp2_with fail
      clear h1' h2' p6
      refine wp_region_g [some 25, some 26, some 27, some 28, some 29, some 30, some 31, some 32, some 33, some 34, some 35, some 36, some 37, some 38, some 39, some 40, some 41, some 42, some 43, some 44, some 45, some 46, some 47, some 48, some 49, some 50, some 51, some 52, some 53, some 54, some 55, some 56, some 57, some 58, some 59, some 60, some 61, some 62, some 63, some 64, some 65, some 66, some 67, some 68, some 69, some 70, some 71, some 72, some 73, some 74, some 75, some 76, some 12] (FL [
          EqV (.bool true),
          EqV (.bool true),
          EqV (.agg (pcells lim iv sp fu ix op ca cn cc)),
          EqV (.bool s),
          EqV (.agg (pcells lim iv sp fu ix op ca cn cc)),
          EqV (.bool s),
          EqV (.bool true),
          EqV (.bool true),
          EqV (.bool true),
          EqV (.agg (pcells lim iv sp fu ix op ca cn cc)),
          EqV (.int .i64 ht),
          EqV (.agg hv),
          EqV (.int .u32 fi),
          EqV (.int .u32 x),
          EqV (.agg (pcells lim iv sp fu ix op ca cn cc)),
          EqV (.int .i64 ht),
          EqV (.agg hv),
          EqV (.int .u32 fi),
          EqV (.int .u32 x),
          EqV (.bool true),
          EqV (.bool true),
          EqV (.bool true),
          EqV (.agg (pcells lim iv sp fu ix op ca cn cc)),
          EqV (.slice av n c),
          EqV (.int .u32 z),
          EqV (.agg (pcells lim iv sp fu ix op ca cn cc)),
          EqV (.slice av n c),
          EqV (.int .u32 z),
          EqV (.bool true),
          EqV (.bool true),
          EqV (.bool true),
          EqV (.int .i64 act),
          EqV (.pointer (some ⟨w.heap.size, 2, none⟩)),
          EqV (.int .i64 sp),
          EqV (.int .i64 cl),
          EqV (.int .i64 act),
          EqV (.pointer (some ⟨w.heap.size, 2, none⟩)),
          EqV (.int .i64 sp),
          EqV (.int .i64 cl),
          EqV (.bool true),
          EqV (.bool true),
          EqV (.bool true),
          EqV (.int .i64 ht),
          EqV (.pointer (some ⟨w.heap.size, 1, none⟩)),
          EqV (.int .i64 iv),
          EqV (.int .i64 fr),
          EqV (.int .i64 ht),
          EqV (.pointer (some ⟨w.heap.size, 1, none⟩)),
          EqV (.int .i64 iv),
          EqV (.int .i64 fr),
          EqV (.bool true),
          EqV (.bool true),
          EqV (.bool true)
        ]) (FL_keeps ⟨keeps_eq _, keeps_eq _, keeps_eq _, keeps_eq _, keeps_eq _, keeps_eq _, keeps_eq _, keeps_eq _, keeps_eq _, keeps_eq _, keeps_eq _, keeps_eq _, keeps_eq _, keeps_eq _, keeps_eq _, keeps_eq _, keeps_eq _, keeps_eq _, keeps_eq _, keeps_eq _, keeps_eq _, keeps_eq _, keeps_eq _, keeps_eq _, keeps_eq _, keeps_eq _, keeps_eq _, keeps_eq _, keeps_eq _, keeps_eq _, keeps_eq _, keeps_eq _, keeps_eq _, keeps_eq _, keeps_eq _, keeps_eq _, keeps_eq _, keeps_eq _, keeps_eq _, keeps_eq _, keeps_eq _, keeps_eq _, keeps_eq _, keeps_eq _, keeps_eq _, keeps_eq _, keeps_eq _, keeps_eq _, keeps_eq _, keeps_eq _, keeps_eq _, keeps_eq _, keeps_eq _, trivial⟩) (by kernel_rfl) rfl rfl rfl rfl ⟨
        .inr ⟨gk0 rfl, fun A w' γ hb hF hs => g_eq (op_move (.tmp 13) (.inl rfl) ((hs.2 13 rfl).trans rfl))⟩,
        .inr ⟨gk0 rfl, fun A w' γ hb hF hs => g_eq (op_move (.tmp 25) (.inl rfl) ((hs.1 0 rfl 25 rfl).trans (hF 0 rfl)))⟩,
        .inr ⟨gkT 1 true rfl rfl 26 rfl (fun _ _ h => h), fun A w' γ hb hF hs => g_eq (op_load_st 25 (.tmp 6) rfl ((hs.2 6 rfl).trans rfl) (q_p.below hb l_p) Try.underlying25 (iP))⟩,
        .inr ⟨gkT 1 true rfl rfl 26 rfl (fun _ _ h => h), fun A w' γ hb hF hs => g_eq (op_call 11 #[.agg (pcells lim iv sp fu ix op ca cn cc)] (exec_call _ 11 #[.agg (pcells lim iv sp fu ix op ca cn cc)] rfl rfl (oargs1 ((hs.1 2 rfl 27 rfl).trans (hF 2 rfl))) Try.func11 rfl rfl) (HN.out.1 _))⟩,
        .inr ⟨gkT 1 true rfl rfl 26 rfl (fun _ _ h => h), fun A w' γ hb hF hs => g_eq (op_load_st 25 (.tmp 6) rfl ((hs.2 6 rfl).trans rfl) (q_p.below hb l_p) Try.underlying25 (iP))⟩,
        .inr ⟨gkT 1 true rfl rfl 26 rfl (fun _ _ h => h), fun A w' γ hb hF hs => g_eq (op_call 17 #[.agg (pcells lim iv sp fu ix op ca cn cc)] (exec_call _ 17 #[.agg (pcells lim iv sp fu ix op ca cn cc)] rfl rfl (oargs1 ((hs.1 4 rfl 29 rfl).trans (hF 4 rfl))) Try.func17 rfl rfl) (HN.out.2.1 _))⟩,
        .inr ⟨gkT 1 true rfl rfl 26 rfl (fun _ _ h => h), fun A w' γ hb hF hs => g_eq (op_eq_bool 4 _ (.tmp 28) (.tmp 30) (s) (s) true rfl ((hs.1 3 rfl 28 rfl).trans (hF 3 rfl)) ((hs.1 5 rfl 30 rfl).trans (hF 5 rfl)) Try.underlying4 (by cases s <;> rfl))⟩,
        .inr ⟨gk0 rfl, fun A w' γ hb hF hs => g_eq (op_pick (.tmp 26) (.tmp 31) (.const (.bool false)) true rfl ((hs.1 1 rfl 26 rfl).trans (hF 1 rfl)) ((hs.1 6 rfl 31 rfl).trans (hF 6 rfl)))⟩,
        .inr ⟨gk0 rfl, fun A w' γ hb hF hs => g_eq (op_move (.tmp 32) (.inl rfl) ((hs.1 7 rfl 32 rfl).trans (hF 7 rfl)))⟩,
        .inr ⟨gkT 8 true rfl rfl 33 rfl (fun _ _ h => h), fun A w' γ hb hF hs => g_eq (op_load_st 25 (.tmp 6) rfl ((hs.2 6 rfl).trans rfl) (q_p.below hb l_p) Try.underlying25 (iP))⟩,
        .inr ⟨gkT 8 true rfl rfl 33 rfl (fun _ _ h => h), fun A w' γ hb hF hs => g_eq (op_move (.tmp 1) (.inl rfl) ((hs.2 1 rfl).trans rfl))⟩,
        .inr ⟨gkT 8 true rfl rfl 33 rfl (fun _ _ h => h), fun A w' γ hb hF hs => g_eq (op_load_st 29 (.tmp 8) rfl ((hs.2 8 rfl).trans rfl) (q_h.below hb l_h) Try.underlying29 (iH))⟩,
        .inr ⟨gkT 8 true rfl rfl 33 rfl (fun _ _ h => h), fun A w' γ hb hF hs => g_eq (op_move (.tmp 3) (.inl rfl) ((hs.2 3 rfl).trans rfl))⟩,
        .inr ⟨gkT 8 true rfl rfl 33 rfl (fun _ _ h => h), fun A w' γ hb hF hs => g_eq (op_call 9 #[.agg (pcells lim iv sp fu ix op ca cn cc), .int .i64 ht, .agg hv, .int .u32 fi] (exec_call _ 9 #[.agg (pcells lim iv sp fu ix op ca cn cc), .int .i64 ht, .agg hv, .int .u32 fi] rfl rfl (oargs4 ((hs.1 9 rfl 34 rfl).trans (hF 9 rfl)) ((hs.1 10 rfl 35 rfl).trans (hF 10 rfl)) ((hs.1 11 rfl 36 rfl).trans (hF 11 rfl)) ((hs.1 12 rfl 37 rfl).trans (hF 12 rfl))) Try.func9 rfl rfl) (HN.out.2.2.1 _))⟩,
        .inr ⟨gkT 8 true rfl rfl 33 rfl (fun _ _ h => h), fun A w' γ hb hF hs => g_eq (op_load_st 25 (.tmp 6) rfl ((hs.2 6 rfl).trans rfl) (q_p.below hb l_p) Try.underlying25 (iP))⟩,
        .inr ⟨gkT 8 true rfl rfl 33 rfl (fun _ _ h => h), fun A w' γ hb hF hs => g_eq (op_move (.tmp 1) (.inl rfl) ((hs.2 1 rfl).trans rfl))⟩,
        .inr ⟨gkT 8 true rfl rfl 33 rfl (fun _ _ h => h), fun A w' γ hb hF hs => g_eq (op_load_st 29 (.tmp 8) rfl ((hs.2 8 rfl).trans rfl) (q_h.below hb l_h) Try.underlying29 (iH))⟩,
        .inr ⟨gkT 8 true rfl rfl 33 rfl (fun _ _ h => h), fun A w' γ hb hF hs => g_eq (op_move (.tmp 3) (.inl rfl) ((hs.2 3 rfl).trans rfl))⟩,
        .inr ⟨gkT 8 true rfl rfl 33 rfl (fun _ _ h => h), fun A w' γ hb hF hs => g_eq (op_call 18 #[.agg (pcells lim iv sp fu ix op ca cn cc), .int .i64 ht, .agg hv, .int .u32 fi] (exec_call _ 18 #[.agg (pcells lim iv sp fu ix op ca cn cc), .int .i64 ht, .agg hv, .int .u32 fi] rfl rfl (oargs4 ((hs.1 14 rfl 39 rfl).trans (hF 14 rfl)) ((hs.1 15 rfl 40 rfl).trans (hF 15 rfl)) ((hs.1 16 rfl 41 rfl).trans (hF 16 rfl)) ((hs.1 17 rfl 42 rfl).trans (hF 17 rfl))) Try.func18 rfl rfl) (HN.out.2.2.2.1 _))⟩,
        .inr ⟨gkT 8 true rfl rfl 33 rfl (fun _ _ h => h), fun A w' γ hb hF hs => g_eq (op_eq_int 22 _ (.tmp 38) (.tmp 43) .u32 (x) (x) true rfl ((hs.1 13 rfl 38 rfl).trans (hF 13 rfl)) ((hs.1 18 rfl 43 rfl).trans (hF 18 rfl)) (by simp))⟩,
        .inr ⟨gk0 rfl, fun A w' γ hb hF hs => g_eq (op_pick (.tmp 33) (.tmp 44) (.const (.bool false)) true rfl ((hs.1 8 rfl 33 rfl).trans (hF 8 rfl)) ((hs.1 19 rfl 44 rfl).trans (hF 19 rfl)))⟩,
        .inr ⟨gk0 rfl, fun A w' γ hb hF hs => g_eq (op_move (.tmp 45) (.inl rfl) ((hs.1 20 rfl 45 rfl).trans (hF 20 rfl)))⟩,
        .inr ⟨gkT 21 true rfl rfl 46 rfl (fun _ _ h => h), fun A w' γ hb hF hs => g_eq (op_load_st 25 (.tmp 6) rfl ((hs.2 6 rfl).trans rfl) (q_p.below hb l_p) Try.underlying25 (iP))⟩,
        .inr ⟨gkT 21 true rfl rfl 46 rfl (fun _ _ h => h), fun A w' γ hb hF hs => g_eq (op_move (.tmp 4) (.inl rfl) ((hs.2 4 rfl).trans rfl))⟩,
        .inr ⟨gkT 21 true rfl rfl 46 rfl (fun _ _ h => h), fun A w' γ hb hF hs => g_eq (op_call 19 #[.agg (pcells lim iv sp fu ix op ca cn cc), .slice av n c] (exec_call _ 19 #[.agg (pcells lim iv sp fu ix op ca cn cc), .slice av n c] rfl rfl (oargs2 ((hs.1 22 rfl 47 rfl).trans (hF 22 rfl)) ((hs.1 23 rfl 48 rfl).trans (hF 23 rfl))) Try.func19 rfl rfl) ((HM.out (by omega) w' (bb.trans (hb.mono bb.size))).1))⟩,
        .inr ⟨gkT 21 true rfl rfl 46 rfl (fun _ _ h => h), fun A w' γ hb hF hs => g_eq (op_load_st 25 (.tmp 6) rfl ((hs.2 6 rfl).trans rfl) (q_p.below hb l_p) Try.underlying25 (iP))⟩,
        .inr ⟨gkT 21 true rfl rfl 46 rfl (fun _ _ h => h), fun A w' γ hb hF hs => g_eq (op_move (.tmp 4) (.inl rfl) ((hs.2 4 rfl).trans rfl))⟩,
        .inr ⟨gkT 21 true rfl rfl 46 rfl (fun _ _ h => h), fun A w' γ hb hF hs => g_eq (op_call 20 #[.agg (pcells lim iv sp fu ix op ca cn cc), .slice av n c] (exec_call _ 20 #[.agg (pcells lim iv sp fu ix op ca cn cc), .slice av n c] rfl rfl (oargs2 ((hs.1 25 rfl 50 rfl).trans (hF 25 rfl)) ((hs.1 26 rfl 51 rfl).trans (hF 26 rfl))) Try.func20 rfl rfl) ((HM.out (by omega) w' (bb.trans (hb.mono bb.size))).2))⟩,
        .inr ⟨gkT 21 true rfl rfl 46 rfl (fun _ _ h => h), fun A w' γ hb hF hs => g_eq (op_eq_int 22 _ (.tmp 49) (.tmp 52) .u32 (z) (z) true rfl ((hs.1 24 rfl 49 rfl).trans (hF 24 rfl)) ((hs.1 27 rfl 52 rfl).trans (hF 27 rfl)) (by simp))⟩,
        .inr ⟨gk0 rfl, fun A w' γ hb hF hs => g_eq (op_pick (.tmp 46) (.tmp 53) (.const (.bool false)) true rfl ((hs.1 21 rfl 46 rfl).trans (hF 21 rfl)) ((hs.1 28 rfl 53 rfl).trans (hF 28 rfl)))⟩,
        .inr ⟨gk0 rfl, fun A w' γ hb hF hs => g_eq (op_move (.tmp 54) (.inl rfl) ((hs.1 29 rfl 54 rfl).trans (hF 29 rfl)))⟩,
        .inr ⟨gkT 30 true rfl rfl 55 rfl (fun _ _ h => h), fun A w' γ hb hF hs => g_eq (op_move (.tmp 5) (.inl rfl) ((hs.2 5 rfl).trans rfl))⟩,
        .inr ⟨gkT 30 true rfl rfl 55 rfl (fun _ _ h => h), fun A w' γ hb hF hs => g_eq (op_fld 25 (.tmp 6) 2 2 rfl w.heap.size ((hs.2 6 rfl).trans rfl) fun _ _ => by kernel_rfl)⟩,
        .inr ⟨gkT 30 true rfl rfl 55 rfl (fun _ _ h => h), fun A w' γ hb hF hs => g_eq (op_cel 3 (.tmp 57) rfl _ ((hs.1 32 rfl 57 rfl).trans (hF 32 rfl)) _ (blk_get (q_p.below hb l_p) 2 _ rfl) _ Try.underlying3 rfl)⟩,
        .inr ⟨gkT 30 true rfl rfl 55 rfl (fun _ _ h => h), fun A w' γ hb hF hs => g_eq (op_call 13 #[.int .i64 act, .int .i64 sp] (exec_call _ 13 #[.int .i64 act, .int .i64 sp] rfl rfl (oargs2 ((hs.1 31 rfl 56 rfl).trans (hF 31 rfl)) ((hs.1 33 rfl 58 rfl).trans (hF 33 rfl))) Try.func13 rfl rfl) (HN.out.2.2.2.2.1 _))⟩,
        .inr ⟨gkT 30 true rfl rfl 55 rfl (fun _ _ h => h), fun A w' γ hb hF hs => g_eq (op_move (.tmp 5) (.inl rfl) ((hs.2 5 rfl).trans rfl))⟩,
        .inr ⟨gkT 30 true rfl rfl 55 rfl (fun _ _ h => h), fun A w' γ hb hF hs => g_eq (op_fld 25 (.tmp 6) 2 2 rfl w.heap.size ((hs.2 6 rfl).trans rfl) fun _ _ => by kernel_rfl)⟩,
        .inr ⟨gkT 30 true rfl rfl 55 rfl (fun _ _ h => h), fun A w' γ hb hF hs => g_eq (op_cel 3 (.tmp 61) rfl _ ((hs.1 36 rfl 61 rfl).trans (hF 36 rfl)) _ (blk_get (q_p.below hb l_p) 2 _ rfl) _ Try.underlying3 rfl)⟩,
        .inr ⟨gkT 30 true rfl rfl 55 rfl (fun _ _ h => h), fun A w' γ hb hF hs => g_eq (op_call 21 #[.int .i64 act, .int .i64 sp] (exec_call _ 21 #[.int .i64 act, .int .i64 sp] rfl rfl (oargs2 ((hs.1 35 rfl 60 rfl).trans (hF 35 rfl)) ((hs.1 37 rfl 62 rfl).trans (hF 37 rfl))) Try.func21 rfl rfl) (HN.out.2.2.2.2.2.1 _))⟩,
        .inr ⟨gkT 30 true rfl rfl 55 rfl (fun _ _ h => h), fun A w' γ hb hF hs => g_eq (op_eq_int 3 _ (.tmp 59) (.tmp 63) .i64 (cl) (cl) true rfl ((hs.1 34 rfl 59 rfl).trans (hF 34 rfl)) ((hs.1 38 rfl 63 rfl).trans (hF 38 rfl)) (by simp))⟩,
        .inr ⟨gk0 rfl, fun A w' γ hb hF hs => g_eq (op_pick (.tmp 55) (.tmp 64) (.const (.bool false)) true rfl ((hs.1 30 rfl 55 rfl).trans (hF 30 rfl)) ((hs.1 39 rfl 64 rfl).trans (hF 39 rfl)))⟩,
        .inr ⟨gk0 rfl, fun A w' γ hb hF hs => g_eq (op_move (.tmp 65) (.inl rfl) ((hs.1 40 rfl 65 rfl).trans (hF 40 rfl)))⟩,
        .inr ⟨gkT 41 true rfl rfl 66 rfl (fun _ _ h => h), fun A w' γ hb hF hs => g_eq (op_move (.tmp 1) (.inl rfl) ((hs.2 1 rfl).trans rfl))⟩,
        .inr ⟨gkT 41 true rfl rfl 66 rfl (fun _ _ h => h), fun A w' γ hb hF hs => g_eq (op_fld 25 (.tmp 6) 1 1 rfl w.heap.size ((hs.2 6 rfl).trans rfl) fun _ _ => by kernel_rfl)⟩,
        .inr ⟨gkT 41 true rfl rfl 66 rfl (fun _ _ h => h), fun A w' γ hb hF hs => g_eq (op_cel 3 (.tmp 68) rfl _ ((hs.1 43 rfl 68 rfl).trans (hF 43 rfl)) _ (blk_get (q_p.below hb l_p) 1 _ rfl) _ Try.underlying3 rfl)⟩,
        .inr ⟨gkT 41 true rfl rfl 66 rfl (fun _ _ h => h), fun A w' γ hb hF hs => g_eq (op_call 14 #[.int .i64 ht, .int .i64 iv] (exec_call _ 14 #[.int .i64 ht, .int .i64 iv] rfl rfl (oargs2 ((hs.1 42 rfl 67 rfl).trans (hF 42 rfl)) ((hs.1 44 rfl 69 rfl).trans (hF 44 rfl))) Try.func14 rfl rfl) (HN.out.2.2.2.2.2.2.1 _))⟩,
        .inr ⟨gkT 41 true rfl rfl 66 rfl (fun _ _ h => h), fun A w' γ hb hF hs => g_eq (op_move (.tmp 1) (.inl rfl) ((hs.2 1 rfl).trans rfl))⟩,
        .inr ⟨gkT 41 true rfl rfl 66 rfl (fun _ _ h => h), fun A w' γ hb hF hs => g_eq (op_fld 25 (.tmp 6) 1 1 rfl w.heap.size ((hs.2 6 rfl).trans rfl) fun _ _ => by kernel_rfl)⟩,
        .inr ⟨gkT 41 true rfl rfl 66 rfl (fun _ _ h => h), fun A w' γ hb hF hs => g_eq (op_cel 3 (.tmp 72) rfl _ ((hs.1 47 rfl 72 rfl).trans (hF 47 rfl)) _ (blk_get (q_p.below hb l_p) 1 _ rfl) _ Try.underlying3 rfl)⟩,
        .inr ⟨gkT 41 true rfl rfl 66 rfl (fun _ _ h => h), fun A w' γ hb hF hs => g_eq (op_call 22 #[.int .i64 ht, .int .i64 iv] (exec_call _ 22 #[.int .i64 ht, .int .i64 iv] rfl rfl (oargs2 ((hs.1 46 rfl 71 rfl).trans (hF 46 rfl)) ((hs.1 48 rfl 73 rfl).trans (hF 48 rfl))) Try.func22 rfl rfl) (HN.out.2.2.2.2.2.2.2 _))⟩,
        .inr ⟨gkT 41 true rfl rfl 66 rfl (fun _ _ h => h), fun A w' γ hb hF hs => g_eq (op_eq_int 3 _ (.tmp 70) (.tmp 74) .i64 (fr) (fr) true rfl ((hs.1 45 rfl 70 rfl).trans (hF 45 rfl)) ((hs.1 49 rfl 74 rfl).trans (hF 49 rfl)) (by simp))⟩,
        .inr ⟨gk0 rfl, fun A w' γ hb hF hs => g_eq (op_pick (.tmp 66) (.tmp 75) (.const (.bool false)) true rfl ((hs.1 41 rfl 66 rfl).trans (hF 41 rfl)) ((hs.1 50 rfl 75 rfl).trans (hF 50 rfl)))⟩,
        .inr ⟨gk0 rfl, fun A w' γ hb hF hs => g_eq (op_move (.tmp 76) (.inr rfl) ((hs.1 51 rfl 76 rfl).trans (hF 51 rfl)))⟩,
        trivial⟩ ?_
      intro γ w' hb hF
      have bz := bb.trans (hb.mono bb.size)
      have ez : γ 52 = .bool true := hF 52 (by decide)
      simp only [Fr, if_true, Act.put, List.setIfInBounds_toArray, List.set_cons_zero, List.set_cons_succ]
      rw [ez]
      clear ez hF
      go_wp2
      go_ret
      exact ⟨rfl, bz⟩
theorem RIs_walk (lim : Nat) (iv sp fu ix op : Int) (ca : Option Addr) (cn cc : Nat) (hl : lim < 4294967296) (hiv : (Lit.int .i64 iv).wf = true) (ht : Int) (hht : (Lit.int .i64 ht).wf = true) (hv : Array Value) (ti bi0 : Nat) (v65 : hv[65]? = some (.int .u32 ti)) (v66 : hv[66]? = some (.int .u32 bi0)) (hti : ti < 4294967296) (hbi0 : bi0 < 4294967296) (hsz : hv.size = 68) (fi : Int) (hfi : (Lit.int .u32 fi).wf = true)
    (av : Option Addr) (n c : Nat) (l : List (List Value)) (hn : l.length = n) (hok : ∀ (i : Nat) (r : List Value), l[i]? = some r → HdOk r) (act : Int) (hact : (Lit.int .i64 act).wf = true) (w : World) (hr : RdH w av l) :
    Calls Try.prog 6 #[.agg (pcells lim iv sp fu ix op ca cn cc), .int .i64 ht, .agg hv, .int .u32 fi, .slice av n c, .int .i64 act] w fun e w' => e = .returned (.bool true) ∧ Below w.heap.size w w' := by
  obtain ⟨fi, rfl, kf⟩ := u32_natW hfi
  have iP : (Try.prog.info? 25).map (·.size) = some (pcells lim iv sp fu ix op ca cn cc).size := by kernel_rfl
  have n1 := fun w => Sane_any lim iv sp fu ix op ca cn cc hl _ rfl w
  have n2 := fun w => RSane_any lim iv sp fu ix op ca cn cc hl _ rfl w
  have n3 := fun w => Next_any lim bi0 ti fi iv sp fu ix op ht ca cn cc hv v65 v66 hl hbi0 hti kf _ rfl w
  have n4 := fun w => RNext_any lim bi0 ti fi iv sp fu ix op ht ca cn cc hv v65 v66 hl hbi0 hti kf _ rfl w
  have n5 := fun w => Clamp_any act sp w
  have n6 := fun w => RClamp_any act sp w
  have n7 := fun w => First_any ht iv hht w
  have n8 := fun w => RFirst_any ht iv hht w
  have key : ∃ z : Nat, n ≤ 100 → ∀ w', Below w.heap.size w w' → (Calls Try.prog 19 #[.agg (pcells lim iv sp fu ix op ca cn cc), .slice av n c] w' fun e w'' => e = .returned (.int .u32 z) ∧ Below w'.heap.size w' w'') ∧ (Calls Try.prog 20 #[.agg (pcells lim iv sp fu ix op ca cn cc), .slice av n c] w' fun e w'' => e = .returned (.int .u32 z) ∧ Below w'.heap.size w' w'') := by
    by_cases h0 : n = 0
    · subst h0
      exact ⟨lim, fun _ w' _ => ⟨Chain_zero lim c iv sp fu ix op av ca cn cc w', RChain_zero lim c iv sp fu ix op av ca cn cc w'⟩⟩
    · rcases hr with h | ⟨b, o, rfl, hb, hrr⟩
      · rw [h] at hn; exact absurd hn.symm h0
      · obtain ⟨f1, f2⟩ := first_lt n iv (by omega)
        obtain ⟨f, hf⟩ : ∃ f : Nat, firstR n iv = (f : Int) := ⟨(firstR n iv).toNat, by omega⟩
        have hfl : f < l.length := by omega
        have hkl : n - 1 < l.length := by omega
        have grf := List.getElem?_eq_getElem hfl
        have grl := List.getElem?_eq_getElem hkl
        generalize l[f] = rf at grf
        generalize l[n - 1] = rl at grl
        have rgf := hrr f rf grf
        have rgl := hrr (n - 1) rl grl
        obtain ⟨lf, onef, tf, bf, htf, hbf, g65, g66⟩ := hok f rf grf
        obtain ⟨ll, onel, tl, bi, htl, hbi, q65, q66⟩ := hok (n - 1) rl grl
        obtain ⟨x, hx⟩ : ∃ x, nextR lim iv sp fu ix op cn n tl bi tf = x := ⟨_, rfl⟩
        refine ⟨x, fun hle w' hbw => ?_⟩
        have hwr : IntKind.i64.wrap ((n : Int) - 1) = ((n - 1 : Nat) : Int) := by simp [IntKind.wrap, IntKind.signed, IntKind.bits]; omega
        have hnw : (Lit.int .i64 (n : Int)).wf = true := by simp [Lit.wf, IntKind.min, IntKind.max, IntKind.signed, IntKind.bits]; omega
        constructor
        · refine Chain_core lim 0 x tf (n - 1) f b o (o + f * 68) (o + (n - 1) * 68) n c iv sp fu ix op ca cn cc rf rl (by simp; omega) w' iP (by rw [List.size_toArray, lf]; kernel_rfl) (by rw [ll]; kernel_rfl) (by rw [lf]; kernel_rfl)
            ⟨rangeAt_below rgf hbw hb, rangeAt_below rgl hbw hb, Nat.lt_of_lt_of_le hb hbw.size⟩ ⟨by rw [List.getElem?_toArray]; exact g65, ?_, by have h : rf.toArray.size = 68 := (by simpa using lf); rw [h]; rfl⟩ (Lib.hid fun w => idx_hdr b o n c f (by omega) w) ⟨hwr, fun w => idx_hdr b o n c (n - 1) (by omega) w⟩ (Lib.hid fun w => ?_) (Lib.hid fun w => ?_)
          · rw [List.all_toArray, List.all_eq_true]
            intro v hv
            exact onef v hv
          · have h := First_any n iv hnw w
            rw [hf] at h
            exact h
          · exact Next_any lim bi tl tf iv sp fu ix op n ca cn cc rl.toArray (by rw [List.getElem?_toArray]; exact q65) (by rw [List.getElem?_toArray]; exact q66) hl hbi htl htf x hx w
        · refine RefChain_core lim x tf (n - 1) f b o (o + f * 68) (o + (n - 1) * 68) n c iv sp fu ix op ca cn cc rf rl (by simp; omega) w' iP (by rw [ll]; kernel_rfl)
            ⟨rangeAt_below rgf hbw hb, rangeAt_below rgl hbw hb, Nat.lt_of_lt_of_le hb hbw.size⟩ (Lib.hid g65) ⟨hwr, fun w => idx_hdr b o n c (n - 1) (by omega) w, fun w => idx_hdr b o n c f (by omega) w⟩ (Lib.hid fun w => ?_) (Lib.hid fun w => ?_)
          · have h := RFirst_any n iv hnw w
            rw [hf] at h
            exact h
          · exact RNext_any lim bi tl tf iv sp fu ix op n ca cn cc rl.toArray (by rw [List.getElem?_toArray]; exact q65) (by rw [List.getElem?_toArray]; exact q66) hl hbi htl htf x hx w
  obtain ⟨z, hz⟩ := key
  exact RIs_core lim fi _ z n c iv sp fu ix op ht act _ _ av ca cn cc _ hv w iP (by rw [hsz]; kernel_rfl) ⟨n1, n2, n3, n4, n5, n6, n7, n8⟩ (Lib.hid hz)
end Go.Proofs.Ytndockjflnicjaa
