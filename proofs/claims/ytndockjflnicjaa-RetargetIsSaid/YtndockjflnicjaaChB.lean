/- RetargetChain: its walk. -/
import Derived.Test.YtndockjflnicjaaChA
namespace Go.Proofs.Ytndockjflnicjaa
open Go.RowKit
set_option linter.unusedVariables false
theorem mfld3 (g f : Nat) (w : World) : (Instr.fieldAt 29 (.pointer (some ⟨g, f, none⟩)) 3).run Try.prog w = .ok (.pointer (some ⟨g, f + 65, none⟩)) w := by
  simp [Instr.fieldAt, go_sem, run_underlying Try.underlying29, Addr.add]
theorem mfld4 (g f : Nat) (w : World) : (Instr.fieldAt 29 (.pointer (some ⟨g, f, none⟩)) 4).run Try.prog w = .ok (.pointer (some ⟨g, f + 66, none⟩)) w := by
  simp [Instr.fieldAt, go_sem, run_underlying Try.underlying29, Addr.add]
set_option maxRecDepth 100000 in
set_option maxHeartbeats 8000000 in
theorem RChain_core (lim x bi tl t2 k1 k2 b o o2 o3 n c k d : Nat) (iv sp fu ix op m y : Int) (av ca : Option Addr) (cn cc : Nat) (s : Bool) (w : World) (iP : (Try.prog.info? 25).map (·.size) = some (pcells lim iv sp fu ix op ca cn cc).size)
    (HS : Hid ((∀ w, Calls Try.prog 11 #[.agg (pcells lim iv sp fu ix op ca cn cc)] w fun e w' => e = .returned (.bool s) ∧ Below w.heap.size w w') ∧ (s = true → n ≤ 100 → ∀ w', Below w.heap.size w w' → Calls Try.prog 19 #[.agg (pcells lim iv sp fu ix op ca cn cc), .slice av n c] w' fun e w'' => e = .returned (.int .u32 x) ∧ Below w'.heap.size w' w'')))
    (HX : Hid ((s = true → n = 0 → x = lim) ∧ (s = true → n ≠ 0 → ¬ iv = 0 ∧ av = some ⟨b, o, none⟩ ∧ b < w.heap.size ∧ IntKind.i64.wrap ((n : Int) - 1) = (k1 : Int) ∧ (∀ w, (Instr.indexAt 47 (.slice (some ⟨b, o, none⟩) n c) (.int .i64 k1)).run Try.prog w = .ok (.pointer (some ⟨b, o2, none⟩)) w) ∧
      w.cell? ⟨b, o2 + 65, none⟩ = some (.int .u32 tl) ∧ w.cell? ⟨b, o2 + 66, none⟩ = some (.int .u32 bi) ∧ (m = 0 → Int.tmod n iv = 0 ∧
        (∀ w, (convert 22 3 (.int .u32 tl)).run Try.prog w = .ok (.int .i64 tl) w) ∧ IntKind.i64.wrap ((n : Int) - iv) = (k2 : Int) ∧ (∀ w, (Instr.indexAt 47 (.slice (some ⟨b, o, none⟩) n c) (.int .i64 k2)).run Try.prog w = .ok (.pointer (some ⟨b, o3, none⟩)) w) ∧ w.cell? ⟨b, o3 + 65, none⟩ = some (.int .u32 t2) ∧
        (∀ w, (convert 22 3 (.int .u32 t2)).run Try.prog w = .ok (.int .i64 t2) w) ∧ IntKind.i64.wrap ((tl : Int) - (t2 : Int)) = y ∧ (∀ w, Calls Try.prog 13 #[.int .i64 y, .int .i64 sp] w fun e w' => e = .returned (.int .i64 k) ∧ Below w.heap.size w w') ∧
        (∀ w, (convert 3 32 (.int .i64 k)).run Try.prog w = .ok (.int .u64 k) w) ∧ (∀ w, (convert 3 32 (.int .i64 sp)).run Try.prog w = .ok (.int .u64 d) w) ∧ (∀ w, Calls Try.prog 23 #[.int .u32 bi, .int .u64 k, .int .u64 d, .int .u32 lim] w fun e w' => e = .returned (.int .u32 x) ∧ Below w.heap.size w w') ∧ True))))
    (HM : Hid (s = true → n ≠ 0 → m ≠ 0 → Int.tmod n iv = m ∧ x = bi)) :
    Calls Try.prog 7 #[.agg (pcells lim iv sp fu ix op ca cn cc), .slice av n c] w fun e w' => e = .returned (.bool true) ∧ Below w.heap.size w w' := by
  go_enter Try.func7, Try.ntmps7
  go_wp2_with fail
  refine (Awake13 _).mono ?_
  rintro e w1 ⟨rfl, hb⟩
  have q_p : Blk w1 (w.heap.size) 25 (pcells lim iv sp fu ix op ca cn cc) := (Blk.newAt _ _ (pcells lim iv sp fu ix op ca cn cc) rfl).calls hb
  have bb := bt (ba (Below.refl w.heap.size w) _) hb
  replace l_p := q_p.lt
  clear hb
  have p0 := blk_get q_p 0 _ rfl; have p1 := blk_get q_p 1 _ rfl; have p2 := blk_get q_p 2 _ rfl; have p3 := blk_get q_p 3 _ rfl; have p4 := blk_get q_p 4 _ rfl; have p5 := blk_get q_p 5 _ rfl; have p6 := blk_get q_p 6 _ rfl
  by_cases hn : 100 < n
  · have hn' : decide ((100 : Int) < (n : Int)) = true := decide_eq_true (by omega)
    go_wp2
    go_ret
    exact ⟨rfl, bb⟩
  · have hn' : decide ((100 : Int) < (n : Int)) = false := decide_eq_false (by omega)
    by_cases hm : 200 < cn
    · have hm' : decide ((200 : Int) < (cn : Int)) = true := decide_eq_true (by omega)
      go_wp2
      go_ret
      exact ⟨rfl, bb⟩
    · have hm' : decide ((200 : Int) < (cn : Int)) = false := decide_eq_false (by omega)
      go_wp2_with fail
      refine (HS.out.1 _).mono ?_
      rintro e w2 ⟨rfl, hb⟩
      replace q_p : Blk w2 (w.heap.size) 25 (pcells lim iv sp fu ix op ca cn cc) := q_p.calls hb
      replace bb := bt bb hb
      replace l_p := q_p.lt
      clear hb
      clear p0 p1 p2 p3 p4 p5 p6 hn' hm'
      cases s
      · skip
        go_wp2
        go_ret
        exact ⟨rfl, bb⟩
      · skip
        go_wp2_with (with_reducible refine wl_rows q_p _ _ rfl rfl rfl _ Try.underlying25 iP ?_)
        refine (HS.out.2 (by trivial) (by omega) _ (bb)).mono ?_
        rintro e w3 ⟨rfl, hb⟩
        replace q_p : Blk w3 (w.heap.size) 25 (pcells lim iv sp fu ix op ca cn cc) := q_p.calls hb
        replace bb := bt bb hb
        replace l_p := q_p.lt
        clear hb
        by_cases h0 : n = 0
        · have hx := HX.out.1 (by trivial) h0
          subst hx h0
          have p0 := blk_get q_p 0 _ rfl
          go_wp2
          go_ret
          exact ⟨rfl, bb⟩
        · have h0' : ((n : Int) == 0) = false := by simp; omega
          have hf := HX.out.2 (by trivial) h0
          obtain ⟨hi, rfl, hbs, e1, i1, c1, c2, hrest⟩ := hf
          have HH := Lib.hid (And.intro e1 (And.intro i1 (And.intro c1 (And.intro c2 (And.intro hbs hrest))))); clear e1 i1 c1 c2 hbs hrest
          have p1 := blk_get q_p 1 _ rfl
          by_cases hm0 : m = 0
          · obtain ⟨hmm, t1, t2, t3, t4, t5, t6, t7, t8, t9, t10, t11⟩ := HH.out.2.2.2.2.2 hm0
            clear hm0
            have HT := Lib.hid (And.intro t1 (And.intro t2 (And.intro t3 (And.intro t4 (And.intro t5 (And.intro t6 (And.intro t7 (And.intro t8 (And.intro t9 (And.intro t10 t11)))))))))); clear t1 t2 t3 t4 t5 t6 t7 t8 t9 t10 t11
            go_wp2_with fail
            clear p1 hmm h0'
            have l_p := q_p.lt
            refine wp_region_g [some 55, some 56, some 57, some 58, some 59, some 60, some 61, some 62, some 63, some 64, some 65, some 66, some 67, some 68, some 69, some 70, some 71, some 8] (FL [
                EqV (.slice (some ⟨b, o, none⟩) n c),
                EqV (.int .i64 n),
                EqV (.int .i64 ((k1 : Int))),
                EqV (.pointer (some ⟨b, o2, none⟩)),
                EqV (.pointer (some ⟨b, o2 + 65, none⟩)),
                EqV (.int .u32 tl),
                EqV (.int .i64 tl),
                EqV (.slice (some ⟨b, o, none⟩) n c),
                EqV (.int .i64 n),
                EqV (.pointer (some ⟨w.heap.size, 1, none⟩)),
                EqV (.int .i64 iv),
                EqV (.int .i64 ((k2 : Int))),
                EqV (.pointer (some ⟨b, o3, none⟩)),
                EqV (.pointer (some ⟨b, o3 + 65, none⟩)),
                EqV (.int .u32 t2),
                EqV (.int .i64 t2),
                EqV (.int .i64 (y)),
                EqV (.int .i64 (y))
              ]) (FL_keeps ⟨keeps_eq _, keeps_eq _, keeps_eq _, keeps_eq _, keeps_eq _, keeps_eq _, keeps_eq _, keeps_eq _, keeps_eq _, keeps_eq _, keeps_eq _, keeps_eq _, keeps_eq _, keeps_eq _, keeps_eq _, keeps_eq _, keeps_eq _, keeps_eq _, trivial⟩) (by kernel_rfl) rfl rfl rfl rfl ⟨
              .inr ⟨gk0 rfl, fun A w' γ hb hF hs => g_eq (op_move (.tmp 1) (.inl rfl) ((hs.2 1 rfl).trans rfl))⟩,
              .inr ⟨gk0 rfl, fun A w' γ hb hF hs => g_eq (op_move (.tmp 7) (.inl rfl) ((hs.2 7 rfl).trans rfl))⟩,
              .inr ⟨gk0 rfl, fun A w' γ hb hF hs => g_eq (op_sub 3 _ (.tmp 56) (.const (.int .i64 1)) .i64 (n) (1) ((k1 : Int)) rfl ((hs.1 1 rfl 56 rfl).trans (hF 1 rfl)) rfl (HH.out.1))⟩,
              .inr ⟨gk0 rfl, fun A w' γ hb hF hs => g_eq (op_idxa 47 (.tmp 55) (.tmp 57) rfl ((hs.1 0 rfl 55 rfl).trans (hF 0 rfl)) ((hs.1 2 rfl 57 rfl).trans (hF 2 rfl)) (HH.out.2.1 _))⟩,
              .inr ⟨gk0 rfl, fun A w' γ hb hF hs => g_eq (op_mfld 29 (.tmp 58) 3 65 rfl b o2 ((hs.1 3 rfl 58 rfl).trans (hF 3 rfl)) (fun _ _ _ => mfld3 _ _ _))⟩,
              .inr ⟨gk0 rfl, fun A w' γ hb hF hs => g_eq (op_cel 22 (.tmp 59) rfl _ ((hs.1 4 rfl 59 rfl).trans (hF 4 rfl)) _ ((((bb.trans (hb.mono bb.size)).cell (p := ⟨b, o2 + 65, none⟩) HH.out.2.2.2.2.1).trans HH.out.2.2.1)) _ Try.underlying22 rfl)⟩,
              .inr ⟨gk0 rfl, fun A w' γ hb hF hs => g_eq (op_cvt 22 3 (.tmp 60) rfl ((hs.1 5 rfl 60 rfl).trans (hF 5 rfl)) (HT.out.1 _))⟩,
              .inr ⟨gk0 rfl, fun A w' γ hb hF hs => g_eq (op_move (.tmp 1) (.inl rfl) ((hs.2 1 rfl).trans rfl))⟩,
              .inr ⟨gk0 rfl, fun A w' γ hb hF hs => g_eq (op_move (.tmp 7) (.inl rfl) ((hs.2 7 rfl).trans rfl))⟩,
              .inr ⟨gk0 rfl, fun A w' γ hb hF hs => g_eq (op_fld 25 (.tmp 2) 1 1 rfl w.heap.size ((hs.2 2 rfl).trans rfl) fun _ _ => by kernel_rfl)⟩,
              .inr ⟨gk0 rfl, fun A w' γ hb hF hs => g_eq (op_cel 3 (.tmp 64) rfl _ ((hs.1 9 rfl 64 rfl).trans (hF 9 rfl)) _ (blk_get (q_p.below hb l_p) 1 _ rfl) _ Try.underlying3 rfl)⟩,
              .inr ⟨gk0 rfl, fun A w' γ hb hF hs => g_eq (op_sub 3 _ (.tmp 63) (.tmp 65) .i64 (n) (iv) ((k2 : Int)) rfl ((hs.1 8 rfl 63 rfl).trans (hF 8 rfl)) ((hs.1 10 rfl 65 rfl).trans (hF 10 rfl)) (HT.out.2.1))⟩,
              .inr ⟨gk0 rfl, fun A w' γ hb hF hs => g_eq (op_idxa 47 (.tmp 62) (.tmp 66) rfl ((hs.1 7 rfl 62 rfl).trans (hF 7 rfl)) ((hs.1 11 rfl 66 rfl).trans (hF 11 rfl)) (HT.out.2.2.1 _))⟩,
              .inr ⟨gk0 rfl, fun A w' γ hb hF hs => g_eq (op_mfld 29 (.tmp 67) 3 65 rfl b o3 ((hs.1 12 rfl 67 rfl).trans (hF 12 rfl)) (fun _ _ _ => mfld3 _ _ _))⟩,
              .inr ⟨gk0 rfl, fun A w' γ hb hF hs => g_eq (op_cel 22 (.tmp 68) rfl _ ((hs.1 13 rfl 68 rfl).trans (hF 13 rfl)) _ ((((bb.trans (hb.mono bb.size)).cell (p := ⟨b, o3 + 65, none⟩) HH.out.2.2.2.2.1).trans HT.out.2.2.2.1)) _ Try.underlying22 rfl)⟩,
              .inr ⟨gk0 rfl, fun A w' γ hb hF hs => g_eq (op_cvt 22 3 (.tmp 69) rfl ((hs.1 14 rfl 69 rfl).trans (hF 14 rfl)) (HT.out.2.2.2.2.1 _))⟩,
              .inr ⟨gk0 rfl, fun A w' γ hb hF hs => g_eq (op_sub 3 _ (.tmp 61) (.tmp 70) .i64 (tl) (t2) (y) rfl ((hs.1 6 rfl 61 rfl).trans (hF 6 rfl)) ((hs.1 15 rfl 70 rfl).trans (hF 15 rfl)) (HT.out.2.2.2.2.2.1))⟩,
              .inr ⟨gk0 rfl, fun A w' γ hb hF hs => g_eq (op_move (.tmp 71) (.inr rfl) ((hs.1 16 rfl 71 rfl).trans (hF 16 rfl)))⟩,
              trivial⟩ ?_
            intro γ w8 hb8 hF
            replace q_p := q_p.below hb8 l_p
            replace bb := bb.trans (hb8.mono bb.size)
            have ez : γ 17 = .int .i64 y := hF 17 (by decide)
            simp only [Fr, if_true, Act.put, List.setIfInBounds_toArray, List.set_cons_zero, List.set_cons_succ]
            rw [ez]
            clear ez hF hb8
            generalize γ = γ0
            replace l_p := q_p.lt
            go_wp2_with fail
            refine wp_region_g [some 72, some 73, some 74, some 75, some 76, some 77, some 78, some 79, some 80, some 81, some 82, some 83, some 84, some 85, some 86, some 87, some 88, some 89, some 90, some 91, some 92, some 93, some 4] (FL [
                EqV (.bool true),
                EqV (.bool true),
                EqV (.int .u32 x),
                EqV (.slice (some ⟨b, o, none⟩) n c),
                EqV (.int .i64 n),
                EqV (.int .i64 ((k1 : Int))),
                EqV (.pointer (some ⟨b, o2, none⟩)),
                EqV (.pointer (some ⟨b, o2 + 66, none⟩)),
                EqV (.int .u32 bi),
                EqV (.int .i64 y),
                EqV (.pointer (some ⟨w.heap.size, 2, none⟩)),
                EqV (.int .i64 sp),
                EqV (.int .i64 k),
                EqV (.int .u64 k),
                EqV (.pointer (some ⟨w.heap.size, 2, none⟩)),
                EqV (.int .i64 sp),
                EqV (.int .u64 d),
                EqV (.pointer (some ⟨w.heap.size, 0, none⟩)),
                EqV (.int .u32 lim),
                EqV (.int .u32 x),
                EqV (.bool true),
                EqV (.bool true),
                EqV (.bool true)
              ]) (FL_keeps ⟨keeps_eq _, keeps_eq _, keeps_eq _, keeps_eq _, keeps_eq _, keeps_eq _, keeps_eq _, keeps_eq _, keeps_eq _, keeps_eq _, keeps_eq _, keeps_eq _, keeps_eq _, keeps_eq _, keeps_eq _, keeps_eq _, keeps_eq _, keeps_eq _, keeps_eq _, keeps_eq _, keeps_eq _, keeps_eq _, keeps_eq _, trivial⟩) (by kernel_rfl) rfl rfl rfl rfl ⟨
              .inr ⟨gk0 rfl, fun A w' γ hb hF hs => g_eq (op_move (.tmp 5) (.inl rfl) ((hs.2 5 rfl).trans rfl))⟩,
              .inr ⟨gk0 rfl, fun A w' γ hb hF hs => g_eq (op_move (.tmp 72) (.inl rfl) ((hs.1 0 rfl 72 rfl).trans (hF 0 rfl)))⟩,
              .inr ⟨gkT 1 true rfl rfl 73 rfl (fun _ _ h => h), fun A w' γ hb hF hs => g_eq (op_move (.tmp 6) (.inl rfl) ((hs.2 6 rfl).trans rfl))⟩,
              .inr ⟨gkT 1 true rfl rfl 73 rfl (fun _ _ h => h), fun A w' γ hb hF hs => g_eq (op_move (.tmp 1) (.inl rfl) ((hs.2 1 rfl).trans rfl))⟩,
              .inr ⟨gkT 1 true rfl rfl 73 rfl (fun _ _ h => h), fun A w' γ hb hF hs => g_eq (op_move (.tmp 7) (.inl rfl) ((hs.2 7 rfl).trans rfl))⟩,
              .inr ⟨gkT 1 true rfl rfl 73 rfl (fun _ _ h => h), fun A w' γ hb hF hs => g_eq (op_sub 3 _ (.tmp 76) (.const (.int .i64 1)) .i64 (n) (1) ((k1 : Int)) rfl ((hs.1 4 rfl 76 rfl).trans (hF 4 rfl)) rfl (HH.out.1))⟩,
              .inr ⟨gkT 1 true rfl rfl 73 rfl (fun _ _ h => h), fun A w' γ hb hF hs => g_eq (op_idxa 47 (.tmp 75) (.tmp 77) rfl ((hs.1 3 rfl 75 rfl).trans (hF 3 rfl)) ((hs.1 5 rfl 77 rfl).trans (hF 5 rfl)) (HH.out.2.1 _))⟩,
              .inr ⟨gkT 1 true rfl rfl 73 rfl (fun _ _ h => h), fun A w' γ hb hF hs => g_eq (op_mfld 29 (.tmp 78) 4 66 rfl b o2 ((hs.1 6 rfl 78 rfl).trans (hF 6 rfl)) (fun _ _ _ => mfld4 _ _ _))⟩,
              .inr ⟨gkT 1 true rfl rfl 73 rfl (fun _ _ h => h), fun A w' γ hb hF hs => g_eq (op_cel 22 (.tmp 79) rfl _ ((hs.1 7 rfl 79 rfl).trans (hF 7 rfl)) _ ((((bb.trans (hb.mono bb.size)).cell (p := ⟨b, o2 + 66, none⟩) HH.out.2.2.2.2.1).trans HH.out.2.2.2.1)) _ Try.underlying22 rfl)⟩,
              .inr ⟨gkT 1 true rfl rfl 73 rfl (fun _ _ h => h), fun A w' γ hb hF hs => g_eq (op_move (.tmp 8) (.inl rfl) ((hs.2 8 rfl).trans rfl))⟩,
              .inr ⟨gkT 1 true rfl rfl 73 rfl (fun _ _ h => h), fun A w' γ hb hF hs => g_eq (op_fld 25 (.tmp 2) 2 2 rfl w.heap.size ((hs.2 2 rfl).trans rfl) fun _ _ => by kernel_rfl)⟩,
              .inr ⟨gkT 1 true rfl rfl 73 rfl (fun _ _ h => h), fun A w' γ hb hF hs => g_eq (op_cel 3 (.tmp 82) rfl _ ((hs.1 10 rfl 82 rfl).trans (hF 10 rfl)) _ (blk_get (q_p.below hb l_p) 2 _ rfl) _ Try.underlying3 rfl)⟩,
              .inr ⟨gkT 1 true rfl rfl 73 rfl (fun _ _ h => h), fun A w' γ hb hF hs => g_eq (op_call 13 #[.int .i64 y, .int .i64 sp] (exec_call _ 13 #[.int .i64 y, .int .i64 sp] rfl rfl (oargs2 ((hs.1 9 rfl 81 rfl).trans (hF 9 rfl)) ((hs.1 11 rfl 83 rfl).trans (hF 11 rfl))) Try.func13 rfl rfl) (HT.out.2.2.2.2.2.2.1 _))⟩,
              .inr ⟨gkT 1 true rfl rfl 73 rfl (fun _ _ h => h), fun A w' γ hb hF hs => g_eq (op_cvt 3 32 (.tmp 84) rfl ((hs.1 12 rfl 84 rfl).trans (hF 12 rfl)) (HT.out.2.2.2.2.2.2.2.1 _))⟩,
              .inr ⟨gkT 1 true rfl rfl 73 rfl (fun _ _ h => h), fun A w' γ hb hF hs => g_eq (op_fld 25 (.tmp 2) 2 2 rfl w.heap.size ((hs.2 2 rfl).trans rfl) fun _ _ => by kernel_rfl)⟩,
              .inr ⟨gkT 1 true rfl rfl 73 rfl (fun _ _ h => h), fun A w' γ hb hF hs => g_eq (op_cel 3 (.tmp 86) rfl _ ((hs.1 14 rfl 86 rfl).trans (hF 14 rfl)) _ (blk_get (q_p.below hb l_p) 2 _ rfl) _ Try.underlying3 rfl)⟩,
              .inr ⟨gkT 1 true rfl rfl 73 rfl (fun _ _ h => h), fun A w' γ hb hF hs => g_eq (op_cvt 3 32 (.tmp 87) rfl ((hs.1 15 rfl 87 rfl).trans (hF 15 rfl)) (HT.out.2.2.2.2.2.2.2.2.1 _))⟩,
              .inr ⟨gkT 1 true rfl rfl 73 rfl (fun _ _ h => h), fun A w' γ hb hF hs => g_eq (op_fld 25 (.tmp 2) 0 0 rfl w.heap.size ((hs.2 2 rfl).trans rfl) fun _ _ => by kernel_rfl)⟩,
              .inr ⟨gkT 1 true rfl rfl 73 rfl (fun _ _ h => h), fun A w' γ hb hF hs => g_eq (op_cel 22 (.tmp 89) rfl _ ((hs.1 17 rfl 89 rfl).trans (hF 17 rfl)) _ (blk_get (q_p.below hb l_p) 0 _ rfl) _ Try.underlying22 rfl)⟩,
              .inr ⟨gkT 1 true rfl rfl 73 rfl (fun _ _ h => h), fun A w' γ hb hF hs => g_eq (op_call 23 #[.int .u32 bi, .int .u64 k, .int .u64 d, .int .u32 lim] (exec_call _ 23 #[.int .u32 bi, .int .u64 k, .int .u64 d, .int .u32 lim] rfl rfl (oargs4 ((hs.1 8 rfl 80 rfl).trans (hF 8 rfl)) ((hs.1 13 rfl 85 rfl).trans (hF 13 rfl)) ((hs.1 16 rfl 88 rfl).trans (hF 16 rfl)) ((hs.1 18 rfl 90 rfl).trans (hF 18 rfl))) Try.func23 rfl rfl) (HT.out.2.2.2.2.2.2.2.2.2.1 _))⟩,
              .inr ⟨gkT 1 true rfl rfl 73 rfl (fun _ _ h => h), fun A w' γ hb hF hs => g_eq (op_eq_int 22 _ (.tmp 74) (.tmp 91) .u32 (x) (x) true rfl ((hs.1 2 rfl 74 rfl).trans (hF 2 rfl)) ((hs.1 19 rfl 91 rfl).trans (hF 19 rfl)) (by simp))⟩,
              .inr ⟨gk0 rfl, fun A w' γ hb hF hs => g_eq (op_pick (.tmp 73) (.tmp 92) (.const (.bool false)) true rfl ((hs.1 1 rfl 73 rfl).trans (hF 1 rfl)) ((hs.1 20 rfl 92 rfl).trans (hF 20 rfl)))⟩,
              .inr ⟨gk0 rfl, fun A w' γ hb hF hs => g_eq (op_move (.tmp 93) (.inr rfl) ((hs.1 21 rfl 93 rfl).trans (hF 21 rfl)))⟩,
              trivial⟩ ?_
            intro γ w9 hb hF
            have bz := bb.trans (hb.mono bb.size)
            have ez : γ 22 = .bool true := hF 22 (by decide)
            simp only [Fr, if_true, Act.put, List.setIfInBounds_toArray, List.set_cons_zero, List.set_cons_succ]
            rw [ez]
            clear ez hF
            go_wp2
            go_ret
            exact ⟨rfl, bz⟩
          · obtain ⟨hmm, hx⟩ := HM.out (by trivial) h0 hm0
            subst hx
            have hm1 : (m != 0) = true := by simpa using hm0
            have e1 := HH.out.1; have i1 := HH.out.2.1
            have cE : w3.cell? ⟨b, o2 + 66, none⟩ = some (.int .u32 x) := (bb.cell (p := ⟨b, o2 + 66, none⟩) HH.out.2.2.2.2.1).trans HH.out.2.2.2.1
            go_wp2
            go_ret
            exact ⟨rfl, bb⟩
end Go.Proofs.Ytndockjflnicjaa
