/- TargetMeets: its walk. -/
import Derived.Test.YtlkjcijbmfgjiaaTargJ
import Derived.Test.YtlkjcijbmfgjiaaTargK
namespace Go.Proofs.Ytlkjcijbmfgjiaa
open Go.RowKit
set_option linter.unusedVariables false
set_option maxRecDepth 100000 in
set_option maxHeartbeats 8000000 in
theorem TMeets_core (k : List UInt8) (HK : Hid (k.length = 32)) (iH : (Try.prog.info? 48).map (·.size) = some (u8cells k).size) (a b c t s l n : Nat) (e f g c1 c2 c3 c4 x y : Int)
    (HS : Hid (a < 4294967296 ∧ expR a = (t, e) ∧ b < 4294967296 ∧ expR b = (s, f) ∧ c < 4294967296 ∧ expR c = (l, g)))
    (HM : Hid ((∀ w, Calls Try.prog 25 #[.agg (u8cells k), .int .u32 a, .int .u32 c] w fun e w' => e = .returned (.int .i64 x) ∧ Below w.heap.size w w') ∧ (∀ w, Calls Try.prog 25 #[.agg (u8cells k), .int .u32 b, .int .u32 c] w fun e w' => e = .returned (.int .i64 y) ∧ Below w.heap.size w w') ∧ True))
    (HC : Hid (CmpIs t l c1 ∧ CmpIs t s c2 ∧ CmpIs s l c3 ∧ CmpIs (leN k 32) t c4))
    (HG : Hid (e = 0 → g = 0 → ¬ 0 < c1 → SumIs t 1 n false ∧ t < T ∧ (∀ w, Calls Try.prog 25 #[.agg (u8cells (leB t)), .int .u32 a, .int .u32 c] w fun e w' => e = .returned (.int .i64 0) ∧ Below w.heap.size w w') ∧ n < T ∧ (∀ w, Calls Try.prog 25 #[.agg (u8cells (leB n)), .int .u32 a, .int .u32 c] w fun e w' => e = .returned (.int .i64 6) ∧ Below w.heap.size w w') ∧ (x == 0) = decide (c4 ≤ 0)))
    (HX : Hid ((e ≠ 0 → x = 7) ∧ (e = 0 → g ≠ 0 → x = 7) ∧ (e = 0 → g = 0 → 0 < c1 → x = 7) ∧ (f = 0 → c2 ≤ 0 → c3 ≤ 0 → x = 0 → y = 0))) (w : World) :
    Calls Try.prog 6 #[.agg (u8cells k), .int .u32 a, .int .u32 b, .int .u32 c] w fun e w' => e = .returned (.bool true) ∧ Below w.heap.size w w' := by
  go_enter Try.func6, Try.ntmps6
  go_wp2_with fail
  refine (Awake05 _).mono ?_
  rintro e w1 ⟨rfl, hb⟩
  have q_h : Blk w1 (w.heap.size) 48 (u8cells k) := (Blk.newAt _ _ (u8cells k) rfl).calls hb
  have bb := bt (ba (Below.refl w.heap.size w) _) hb
  replace l_h := q_h.lt
  clear hb
  go_wp2_with fail
  refine (Expand_any a t e HS.out.1 HS.out.2.1 _).mono ?_
  rintro e w2 ⟨rfl, hb⟩
  simp only [uval]
  replace q_h : Blk w2 (w.heap.size) 48 (u8cells k) := q_h.calls hb
  replace bb := bt bb hb
  replace l_h := q_h.lt
  clear hb
  go_wp2_with fail
  refine (Expand_any b s f HS.out.2.2.1 HS.out.2.2.2.1 _).mono ?_
  rintro e w3 ⟨rfl, hb⟩
  simp only [uval]
  replace q_h : Blk w3 (w.heap.size) 48 (u8cells k) := (q_h.alloc _).calls hb
  have q_t : Blk w3 (w2.heap.size) 26 (ucells t) := (Blk.newAt w2 _ (ucells t) rfl).calls hb
  replace bb := bt (ba bb _) hb
  replace l_h := q_h.lt
  replace l_t := q_t.lt
  clear hb
  go_wp2_with fail
  refine (Expand_any c l g HS.out.2.2.2.2.1 HS.out.2.2.2.2.2 _).mono ?_
  rintro e w4 ⟨rfl, hb⟩
  simp only [uval]
  replace q_h : Blk w4 (w.heap.size) 48 (u8cells k) := (q_h.alloc _).calls hb
  replace q_t : Blk w4 (w2.heap.size) 26 (ucells t) := (q_t.alloc _).calls hb
  have q_s : Blk w4 (w3.heap.size) 26 (ucells s) := (Blk.newAt w3 _ (ucells s) rfl).calls hb
  replace bb := bt (ba bb _) hb
  replace l_h := q_h.lt
  replace l_t := q_t.lt
  replace l_s := q_s.lt
  clear hb
  go_wp2_with (with_reducible refine wl_row (q_h.alloc _) _ _ rfl rfl rfl _ _ Try.underlying48 iH ?_)
  refine (HM.out.1 _).mono ?_
  rintro e w5 ⟨rfl, hb⟩
  replace q_h : Blk w5 (w.heap.size) 48 (u8cells k) := (q_h.alloc _).calls hb
  replace q_t : Blk w5 (w2.heap.size) 26 (ucells t) := (q_t.alloc _).calls hb
  replace q_s : Blk w5 (w3.heap.size) 26 (ucells s) := (q_s.alloc _).calls hb
  have q_l : Blk w5 (w4.heap.size) 26 (ucells l) := (Blk.newAt w4 _ (ucells l) rfl).calls hb
  replace bb := bt (ba bb _) hb
  replace l_h := q_h.lt
  replace l_t := q_t.lt
  replace l_s := q_s.lt
  replace l_l := q_l.lt
  clear hb
  go_wp2_with (with_reducible refine wl_row q_h _ _ rfl rfl rfl _ _ Try.underlying48 iH ?_)
  refine (HM.out.2.1 _).mono ?_
  rintro e w6 ⟨rfl, hb⟩
  replace q_h : Blk w6 (w.heap.size) 48 (u8cells k) := q_h.calls hb
  replace q_t : Blk w6 (w2.heap.size) 26 (ucells t) := q_t.calls hb
  replace q_s : Blk w6 (w3.heap.size) 26 (ucells s) := q_s.calls hb
  replace q_l : Blk w6 (w4.heap.size) 26 (ucells l) := q_l.calls hb
  replace bb := bt bb hb
  replace l_h := q_h.lt
  replace l_t := q_t.lt
  replace l_s := q_s.lt
  replace l_l := q_l.lt
  clear hb
  by_cases he : e = 0
  · subst he
    by_cases hg : g = 0
    · subst hg
      have c_t := cl4 q_t
      have c_l := cl4 q_l
      go_wp2_with fail
      refine (Cmp_any t l c1 _ HC.out.1).mono ?_
      rintro e w7 ⟨rfl, hb⟩
      clear c_t c_l
      replace q_h : Blk w7 (w.heap.size) 48 (u8cells k) := q_h.calls hb
      replace q_t : Blk w7 (w2.heap.size) 26 (ucells t) := q_t.calls hb
      replace q_s : Blk w7 (w3.heap.size) 26 (ucells s) := q_s.calls hb
      replace q_l : Blk w7 (w4.heap.size) 26 (ucells l) := q_l.calls hb
      replace bb := bt bb hb
      replace l_h := q_h.lt
      replace l_t := q_t.lt
      replace l_s := q_s.lt
      replace l_l := q_l.lt
      clear hb
      by_cases hc : 0 < c1
      · have hc' : decide ((0 : Int) < c1) = true := decide_eq_true hc
        have hx := HX.out.2.2.1 (by trivial) (by trivial) (by omega)
        subst hx
        go_wp2
        go_ret
        exact ⟨rfl, bb⟩
      · have hc' : decide ((0 : Int) < c1) = false := decide_eq_false hc
        go_wp2_with fail
        refine wp_region_new [some 63, some 64, some 65, some 62, some 66, some 67, some 18, none, some 19] [⟨6, 7, 26, zero4, ucells n⟩] (fun i => ([uval t, uval 1, .tuple #[uval n, .bool false], .tuple #[uval n, .bool false], uval n, .bool false, undef, undef, .bool false] : List Value).getD i undef) (by kernel_rfl) rfl rfl rfl rfl rfl rfl rfl ⟨
          .inr (.inr ⟨rfl, rfl, fun A w' hb hs ho => op_load _ (.tmp 10) rfl ((ho 10 rfl).trans rfl) (q_t.below hb q_t.lt) Try.underlying26 (i26 _)⟩),
          .inr (.inr ⟨rfl, rfl, fun A w' hb hs ho => op_call 21 _ (exec_call _ 21 _ rfl rfl (args1 (rfl)) Try.func21 rfl rfl) (Of_any 1 _ (by decide))⟩),
          .inr (.inr ⟨rfl, rfl, fun A w' hb hs ho => op_call 20 _ (exec_call _ 20 _ rfl rfl (args2 (hs 0 rfl rfl _ rfl) (hs 1 rfl rfl _ rfl)) Try.func20 rfl rfl) (Add_any t 1 n false _ (HG.out (by trivial) (by trivial) (by omega)).1)⟩),
          .inr (.inr ⟨rfl, rfl, fun A w' hb hs ho => op_move _ (.inl rfl) (hs 2 rfl rfl _ rfl)⟩),
          .inr (.inr ⟨rfl, rfl, fun A w' hb hs ho => op_extract _ 0 _ rfl (hs 3 rfl rfl _ rfl) rfl⟩),
          .inr (.inr ⟨rfl, rfl, fun A w' hb hs ho => op_extract _ 1 _ rfl (hs 3 rfl rfl _ rfl) rfl⟩),
          .inl ⟨_, List.mem_cons_self, rfl, fun A w => alloc_run A _ rfl w⟩,
          .inr (.inl ⟨_, List.mem_cons_self, rfl, rfl, rfl, _, _, _, 4, rfl, rfl, rfl, rfl, rfl, rfl, rfl, i26 _, rfl, uc_one _⟩),
          .inr (.inr ⟨rfl, rfl, fun A w' hb hs ho => op_move _ (.inr rfl) (hs 5 rfl rfl _ rfl)⟩),
          trivial⟩ ?_
        intro γ w8 hb hn hd
        replace q_h : Blk w8 (w.heap.size) 48 (u8cells k) := q_h.calls hb
        replace q_t : Blk w8 (w2.heap.size) 26 (ucells t) := q_t.calls hb
        replace q_s : Blk w8 (w3.heap.size) 26 (ucells s) := q_s.calls hb
        replace q_l : Blk w8 (w4.heap.size) 26 (ucells l) := q_l.calls hb
        replace bb := bt bb hb
        obtain ⟨u_n, q_n⟩ := hn _ List.mem_cons_self
        clear hn hd hb
        simp only [Fr, if_true, vN, isAl, List.any_cons, List.any_nil, Act.put, List.setIfInBounds_toArray, List.set_cons_zero, List.set_cons_succ, List.getD_cons_zero, List.getD_cons_succ]
        generalize γ 6 = g_n at *
        replace l_h := q_h.lt
        replace l_t := q_t.lt
        replace l_s := q_s.lt
        replace l_l := q_l.lt
        replace l_n := q_n.lt
        have c_t := cl4 q_t
        go_wp2_with fail
        refine (FromNumber_any t (HG.out (by trivial) (by trivial) (by omega)).2.1 _).mono ?_
        rintro e w9 ⟨rfl, hb⟩
        clear c_t
        replace q_h : Blk w9 (w.heap.size) 48 (u8cells k) := q_h.calls hb
        replace q_t : Blk w9 (w2.heap.size) 26 (ucells t) := q_t.calls hb
        replace q_s : Blk w9 (w3.heap.size) 26 (ucells s) := q_s.calls hb
        replace q_l : Blk w9 (w4.heap.size) 26 (ucells l) := q_l.calls hb
        replace q_n : Blk w9 (g_n) 26 (ucells n) := q_n.calls hb
        replace bb := bt bb hb
        replace l_h := q_h.lt
        replace l_t := q_t.lt
        replace l_s := q_s.lt
        replace l_l := q_l.lt
        replace l_n := q_n.lt
        clear hb
        go_wp2_with fail
        refine ((HG.out (by trivial) (by trivial) (by omega)).2.2.1 _).mono ?_
        rintro e w10 ⟨rfl, hb⟩
        replace q_h : Blk w10 (w.heap.size) 48 (u8cells k) := q_h.calls hb
        replace q_t : Blk w10 (w2.heap.size) 26 (ucells t) := q_t.calls hb
        replace q_s : Blk w10 (w3.heap.size) 26 (ucells s) := q_s.calls hb
        replace q_l : Blk w10 (w4.heap.size) 26 (ucells l) := q_l.calls hb
        replace q_n : Blk w10 (g_n) 26 (ucells n) := q_n.calls hb
        replace bb := bt bb hb
        replace l_h := q_h.lt
        replace l_t := q_t.lt
        replace l_s := q_s.lt
        replace l_l := q_l.lt
        replace l_n := q_n.lt
        clear hb
        have c_n := cl4 q_n
        go_wp2_with fail
        refine (FromNumber_any n (HG.out (by trivial) (by trivial) (by omega)).2.2.2.1 _).mono ?_
        rintro e w11 ⟨rfl, hb⟩
        clear c_n
        replace q_h : Blk w11 (w.heap.size) 48 (u8cells k) := q_h.calls hb
        replace q_t : Blk w11 (w2.heap.size) 26 (ucells t) := q_t.calls hb
        replace q_s : Blk w11 (w3.heap.size) 26 (ucells s) := q_s.calls hb
        replace q_l : Blk w11 (w4.heap.size) 26 (ucells l) := q_l.calls hb
        replace q_n : Blk w11 (g_n) 26 (ucells n) := q_n.calls hb
        replace bb := bt bb hb
        replace l_h := q_h.lt
        replace l_t := q_t.lt
        replace l_s := q_s.lt
        replace l_l := q_l.lt
        replace l_n := q_n.lt
        clear hb
        go_wp2_with fail
        refine ((HG.out (by trivial) (by trivial) (by omega)).2.2.2.2.1 _).mono ?_
        rintro e w12 ⟨rfl, hb⟩
        replace q_h : Blk w12 (w.heap.size) 48 (u8cells k) := q_h.calls hb
        replace q_t : Blk w12 (w2.heap.size) 26 (ucells t) := q_t.calls hb
        replace q_s : Blk w12 (w3.heap.size) 26 (ucells s) := q_s.calls hb
        replace q_l : Blk w12 (w4.heap.size) 26 (ucells l) := q_l.calls hb
        replace q_n : Blk w12 (g_n) 26 (ucells n) := q_n.calls hb
        replace bb := bt bb hb
        replace l_h := q_h.lt
        replace l_t := q_t.lt
        replace l_s := q_s.lt
        replace l_l := q_l.lt
        replace l_n := q_n.lt
        clear hb
        have hx4 := (HG.out (by trivial) (by trivial) (by omega)).2.2.2.2.2
        clear hc'
        by_cases hf : f = 0
        · subst hf
          have c_t := cl4 q_t
          have c_s := cl4 q_s
          go_wp2_with fail
          refine (Cmp_any t s c2 _ HC.out.2.1).mono ?_
          rintro e w13 ⟨rfl, hb⟩
          clear c_t c_s
          replace q_h : Blk w13 (w.heap.size) 48 (u8cells k) := q_h.calls hb
          replace q_t : Blk w13 (w2.heap.size) 26 (ucells t) := q_t.calls hb
          replace q_s : Blk w13 (w3.heap.size) 26 (ucells s) := q_s.calls hb
          replace q_l : Blk w13 (w4.heap.size) 26 (ucells l) := q_l.calls hb
          replace q_n : Blk w13 (g_n) 26 (ucells n) := q_n.calls hb
          replace bb := bt bb hb
          replace l_h := q_h.lt
          replace l_t := q_t.lt
          replace l_s := q_s.lt
          replace l_l := q_l.lt
          replace l_n := q_n.lt
          clear hb
          by_cases hd : c2 ≤ 0
          · have hd' : decide (c2 ≤ 0) = true := decide_eq_true hd
            have c_s := cl4 q_s
            have c_l := cl4 q_l
            go_wp2_with fail
            refine (Cmp_any s l c3 _ HC.out.2.2.1).mono ?_
            rintro e w14 ⟨rfl, hb⟩
            clear c_s c_l
            replace q_h : Blk w14 (w.heap.size) 48 (u8cells k) := q_h.calls hb
            replace q_t : Blk w14 (w2.heap.size) 26 (ucells t) := q_t.calls hb
            replace q_s : Blk w14 (w3.heap.size) 26 (ucells s) := q_s.calls hb
            replace q_l : Blk w14 (w4.heap.size) 26 (ucells l) := q_l.calls hb
            replace q_n : Blk w14 (g_n) 26 (ucells n) := q_n.calls hb
            replace bb := bt bb hb
            replace l_h := q_h.lt
            replace l_t := q_t.lt
            replace l_s := q_s.lt
            replace l_l := q_l.lt
            replace l_n := q_n.lt
            clear hb
            clear hd'
            by_cases hh : c3 ≤ 0
            · have hh' : decide (c3 ≤ 0) = true := decide_eq_true hh
              go_wp2_with fail
              clear hh'
              by_cases hz : c4 ≤ 0
              · have hx1 : decide (c4 ≤ 0) = true := decide_eq_true hz
                have hx0 : (x == 0) = true := by rw [← hx1]; exact hx4
                have hxz : x = 0 := by simpa using hx0
                have hyz : y = 0 := HX.out.2.2.2 (by trivial) (by omega) (by omega) (by omega)
                clear hx4
                subst hxz hyz
                try simp only [List.append_eq, List.cons_append, List.nil_append]
                refine wp_region_g [some 100, some 101, some 102, some 103, some 104, some 105, some 106, some 107, some 108, some 109, some 110, some 111, some 112, some 113, some 114, some 115, some 116, some 117, some 118, some 119, some 120, some 121, some 122, some 8] (FL [
                    EqV (.bool true),
                    EqV (.bool true),
                    EqV (.int .i64 0),
                    EqV (.bool true),
                    EqV (.agg (u8cells k)),
                    EqV (.agg (ucells (leN k 32))),
                    EqV (.agg (ucells t)),
                    EqV (.int .i64 c4),
                    EqV (.bool true),
                    EqV (.bool true),
                    EqV (.bool true),
                    EqV (.bool true),
                    EqV (.bool true),
                    EqV (.bool false),
                    EqV (.bool false),
                    EqV (.int .i64 0),
                    EqV (.bool false),
                    EqV (.bool false),
                    EqV (.bool false),
                    EqV (.int .i64 0),
                    EqV (.bool true),
                    EqV (.bool true),
                    EqV (.bool true),
                    EqV (.bool true)
                  ]) (FL_keeps ⟨keeps_eq _, keeps_eq _, keeps_eq _, keeps_eq _, keeps_eq _, keeps_eq _, keeps_eq _, keeps_eq _, keeps_eq _, keeps_eq _, keeps_eq _, keeps_eq _, keeps_eq _, keeps_eq _, keeps_eq _, keeps_eq _, keeps_eq _, keeps_eq _, keeps_eq _, keeps_eq _, keeps_eq _, keeps_eq _, keeps_eq _, keeps_eq _, trivial⟩) (by kernel_rfl) rfl rfl rfl rfl ⟨
                  .inr ⟨gk0 rfl, fun A w' γ hb hF hs => g_eq (op_move (.tmp 9) (.inl rfl) ((hs.2 9 rfl).trans rfl))⟩,
                  .inr ⟨gk0 rfl, fun A w' γ hb hF hs => g_eq (op_move (.tmp 100) (.inl rfl) ((hs.1 0 rfl 100 rfl).trans (hF 0 rfl)))⟩,
                  .inr ⟨gkT 1 true rfl rfl 101 rfl (fun _ _ h => h), fun A w' γ hb hF hs => g_eq (op_move (.tmp 16) (.inl rfl) ((hs.2 16 rfl).trans rfl))⟩,
                  .inr ⟨gkT 1 true rfl rfl 101 rfl (fun _ _ h => h), fun A w' γ hb hF hs => g_eq (op_eq_int 30 _ (.tmp 102) (.const (.int .i64 0)) .i64 (0) (0) true rfl ((hs.1 2 rfl 102 rfl).trans (hF 2 rfl)) rfl (hx0))⟩,
                  .inr ⟨gkT 1 true rfl rfl 101 rfl (fun _ _ h => h), fun A w' γ hb hF hs => g_eq (op_load 48 (.tmp 4) rfl ((hs.2 4 rfl).trans rfl) (q_h.below hb l_h) Try.underlying48 (iH))⟩,
                  .inr ⟨gkT 1 true rfl rfl 101 rfl (fun _ _ h => h), fun A w' γ hb hF hs => g_eq (op_call 27 #[.agg (u8cells k)] (exec_call _ 27 #[.agg (u8cells k)] rfl rfl (args1 ((hs.1 4 rfl 104 rfl).trans (hF 4 rfl))) Try.func27 rfl rfl) (Number_any k HK.out _))⟩,
                  .inr ⟨gkT 1 true rfl rfl 101 rfl (fun _ _ h => h), fun A w' γ hb hF hs => g_eq (op_load 26 (.tmp 10) rfl ((hs.2 10 rfl).trans rfl) (q_t.below hb l_t) Try.underlying26 (i26 _))⟩,
                  .inr ⟨gkT 1 true rfl rfl 101 rfl (fun _ _ h => h), fun A w' γ hb hF hs => g_eq (op_call 17 #[.agg (ucells (leN k 32)), .agg (ucells t)] (exec_call _ 17 #[.agg (ucells (leN k 32)), .agg (ucells t)] rfl rfl (args2 ((hs.1 5 rfl 105 rfl).trans (hF 5 rfl)) ((hs.1 6 rfl 106 rfl).trans (hF 6 rfl))) Try.func17 rfl rfl) (Cmp_any (leN k 32) t c4 _ HC.out.2.2.2))⟩,
                  .inr ⟨gkT 1 true rfl rfl 101 rfl (fun _ _ h => h), fun A w' γ hb hF hs => g_eq (op_leq 3 _ (.tmp 107) (.const (.int .i64 0)) .i64 (c4) (0) true rfl ((hs.1 7 rfl 107 rfl).trans (hF 7 rfl)) rfl (hx1))⟩,
                  .inr ⟨gkT 1 true rfl rfl 101 rfl (fun _ _ h => h), fun A w' γ hb hF hs => g_eq (op_eq_bool 4 _ (.tmp 103) (.tmp 108) (true) (true) true rfl ((hs.1 3 rfl 103 rfl).trans (hF 3 rfl)) ((hs.1 8 rfl 108 rfl).trans (hF 8 rfl)) Try.underlying4 (rfl))⟩,
                  .inr ⟨gk0 rfl, fun A w' γ hb hF hs => g_eq (op_pick (.tmp 101) (.tmp 109) (.const (.bool false)) true rfl ((hs.1 1 rfl 101 rfl).trans (hF 1 rfl)) ((hs.1 9 rfl 109 rfl).trans (hF 9 rfl)))⟩,
                  .inr ⟨gk0 rfl, fun A w' γ hb hF hs => g_eq (op_move (.tmp 110) (.inl rfl) ((hs.1 10 rfl 110 rfl).trans (hF 10 rfl)))⟩,
                  .inr ⟨gkT 11 true rfl rfl 111 rfl (fun _ _ h => h), fun A w' γ hb hF hs => g_eq (op_move (.tmp 20) (.inl rfl) ((hs.2 20 rfl).trans rfl))⟩,
                  .inr ⟨gkT 11 true rfl rfl 111 rfl (fun _ _ h => h), fun A w' γ hb hF hs => g_eq (op_not 4 (.tmp 112) true rfl ((hs.1 12 rfl 112 rfl).trans (hF 12 rfl)))⟩,
                  .inr ⟨gkT 11 true rfl rfl 111 rfl (fun _ _ h => h), fun A w' γ hb hF hs => g_eq (op_move (.tmp 113) (.inl rfl) ((hs.1 13 rfl 113 rfl).trans (hF 13 rfl)))⟩,
                  .inr ⟨gkT 14 false rfl rfl 114 rfl (fun _ _ h => h), fun A w' γ hb hF hs => g_eq (op_move (.tmp 16) (.inl rfl) ((hs.2 16 rfl).trans rfl))⟩,
                  .inr ⟨gkT 14 false rfl rfl 114 rfl (fun _ _ h => h), fun A w' γ hb hF hs => g_eq (op_neq_int 30 _ (.tmp 115) (.const (.int .i64 0)) .i64 (0) (0) false rfl ((hs.1 15 rfl 115 rfl).trans (hF 15 rfl)) rfl (rfl))⟩,
                  .inr ⟨gkT 11 true rfl rfl 111 rfl (fun _ _ h => h), fun A w' γ hb hF hs => g_eq (op_pick (.tmp 114) (.const (.bool true)) (.tmp 116) false rfl ((hs.1 14 rfl 114 rfl).trans (hF 14 rfl)) ((hs.1 16 rfl 116 rfl).trans (hF 16 rfl)))⟩,
                  .inr ⟨gkT 11 true rfl rfl 111 rfl (fun _ _ h => h), fun A w' γ hb hF hs => g_eq (op_move (.tmp 117) (.inl rfl) ((hs.1 17 rfl 117 rfl).trans (hF 17 rfl)))⟩,
                  .inr ⟨gkT 18 false rfl rfl 118 rfl (fun _ _ h => h), fun A w' γ hb hF hs => g_eq (op_move (.tmp 17) (.inl rfl) ((hs.2 17 rfl).trans rfl))⟩,
                  .inr ⟨gkT 18 false rfl rfl 118 rfl (fun _ _ h => h), fun A w' γ hb hF hs => g_eq (op_eq_int 30 _ (.tmp 119) (.const (.int .i64 0)) .i64 (0) (0) true rfl ((hs.1 19 rfl 119 rfl).trans (hF 19 rfl)) rfl (rfl))⟩,
                  .inr ⟨gkT 11 true rfl rfl 111 rfl (fun _ _ h => h), fun A w' γ hb hF hs => g_eq (op_pick (.tmp 118) (.const (.bool true)) (.tmp 120) false rfl ((hs.1 18 rfl 118 rfl).trans (hF 18 rfl)) ((hs.1 20 rfl 120 rfl).trans (hF 20 rfl)))⟩,
                  .inr ⟨gk0 rfl, fun A w' γ hb hF hs => g_eq (op_pick (.tmp 111) (.tmp 121) (.const (.bool false)) true rfl ((hs.1 11 rfl 111 rfl).trans (hF 11 rfl)) ((hs.1 21 rfl 121 rfl).trans (hF 21 rfl)))⟩,
                  .inr ⟨gk0 rfl, fun A w' γ hb hF hs => g_eq (op_move (.tmp 122) (.inr rfl) ((hs.1 22 rfl 122 rfl).trans (hF 22 rfl)))⟩,
                  trivial⟩ ?_
                intro γ w' hb hF
                have bz := bt bb hb
                have ez : γ 23 = .bool true := hF 23 (by decide)
                simp only [Fr, if_true, Act.put, List.setIfInBounds_toArray, List.set_cons_zero, List.set_cons_succ]
                rw [ez]
                clear ez hF hx0 hx1
                go_wp2
                go_ret
                exact ⟨rfl, bz⟩
              · have hx1 : decide (c4 ≤ 0) = false := decide_eq_false hz
                have hx0 : (x == 0) = false := by rw [← hx1]; exact hx4
                have hx2 : (x != 0) = true := by rw [bne, hx0]; rfl
                clear hx4
                try simp only [List.append_eq, List.cons_append, List.nil_append]
                refine wp_region_g [some 100, some 101, some 102, some 103, some 104, some 105, some 106, some 107, some 108, some 109, some 110, some 111, some 112, some 113, some 114, some 115, some 116, some 117, some 118, some 119, some 120, some 121, some 122, some 8] (FL [
                    EqV (.bool true),
                    EqV (.bool true),
                    EqV (.int .i64 x),
                    EqV (.bool false),
                    EqV (.agg (u8cells k)),
                    EqV (.agg (ucells (leN k 32))),
                    EqV (.agg (ucells t)),
                    EqV (.int .i64 c4),
                    EqV (.bool false),
                    EqV (.bool true),
                    EqV (.bool true),
                    EqV (.bool true),
                    EqV (.bool true),
                    EqV (.bool false),
                    EqV (.bool false),
                    EqV (.int .i64 x),
                    EqV (.bool true),
                    EqV (.bool true),
                    EqV (.bool true),
                    EqV (undef),
                    EqV (undef),
                    EqV (.bool true),
                    EqV (.bool true),
                    EqV (.bool true)
                  ]) (FL_keeps ⟨keeps_eq _, keeps_eq _, keeps_eq _, keeps_eq _, keeps_eq _, keeps_eq _, keeps_eq _, keeps_eq _, keeps_eq _, keeps_eq _, keeps_eq _, keeps_eq _, keeps_eq _, keeps_eq _, keeps_eq _, keeps_eq _, keeps_eq _, keeps_eq _, keeps_eq _, keeps_eq _, keeps_eq _, keeps_eq _, keeps_eq _, keeps_eq _, trivial⟩) (by kernel_rfl) rfl rfl rfl rfl ⟨
                  .inr ⟨gk0 rfl, fun A w' γ hb hF hs => g_eq (op_move (.tmp 9) (.inl rfl) ((hs.2 9 rfl).trans rfl))⟩,
                  .inr ⟨gk0 rfl, fun A w' γ hb hF hs => g_eq (op_move (.tmp 100) (.inl rfl) ((hs.1 0 rfl 100 rfl).trans (hF 0 rfl)))⟩,
                  .inr ⟨gkT 1 true rfl rfl 101 rfl (fun _ _ h => h), fun A w' γ hb hF hs => g_eq (op_move (.tmp 16) (.inl rfl) ((hs.2 16 rfl).trans rfl))⟩,
                  .inr ⟨gkT 1 true rfl rfl 101 rfl (fun _ _ h => h), fun A w' γ hb hF hs => g_eq (op_eq_int 30 _ (.tmp 102) (.const (.int .i64 0)) .i64 (x) (0) false rfl ((hs.1 2 rfl 102 rfl).trans (hF 2 rfl)) rfl (hx0))⟩,
                  .inr ⟨gkT 1 true rfl rfl 101 rfl (fun _ _ h => h), fun A w' γ hb hF hs => g_eq (op_load 48 (.tmp 4) rfl ((hs.2 4 rfl).trans rfl) (q_h.below hb l_h) Try.underlying48 (iH))⟩,
                  .inr ⟨gkT 1 true rfl rfl 101 rfl (fun _ _ h => h), fun A w' γ hb hF hs => g_eq (op_call 27 #[.agg (u8cells k)] (exec_call _ 27 #[.agg (u8cells k)] rfl rfl (args1 ((hs.1 4 rfl 104 rfl).trans (hF 4 rfl))) Try.func27 rfl rfl) (Number_any k HK.out _))⟩,
                  .inr ⟨gkT 1 true rfl rfl 101 rfl (fun _ _ h => h), fun A w' γ hb hF hs => g_eq (op_load 26 (.tmp 10) rfl ((hs.2 10 rfl).trans rfl) (q_t.below hb l_t) Try.underlying26 (i26 _))⟩,
                  .inr ⟨gkT 1 true rfl rfl 101 rfl (fun _ _ h => h), fun A w' γ hb hF hs => g_eq (op_call 17 #[.agg (ucells (leN k 32)), .agg (ucells t)] (exec_call _ 17 #[.agg (ucells (leN k 32)), .agg (ucells t)] rfl rfl (args2 ((hs.1 5 rfl 105 rfl).trans (hF 5 rfl)) ((hs.1 6 rfl 106 rfl).trans (hF 6 rfl))) Try.func17 rfl rfl) (Cmp_any (leN k 32) t c4 _ HC.out.2.2.2))⟩,
                  .inr ⟨gkT 1 true rfl rfl 101 rfl (fun _ _ h => h), fun A w' γ hb hF hs => g_eq (op_leq 3 _ (.tmp 107) (.const (.int .i64 0)) .i64 (c4) (0) false rfl ((hs.1 7 rfl 107 rfl).trans (hF 7 rfl)) rfl (hx1))⟩,
                  .inr ⟨gkT 1 true rfl rfl 101 rfl (fun _ _ h => h), fun A w' γ hb hF hs => g_eq (op_eq_bool 4 _ (.tmp 103) (.tmp 108) (false) (false) true rfl ((hs.1 3 rfl 103 rfl).trans (hF 3 rfl)) ((hs.1 8 rfl 108 rfl).trans (hF 8 rfl)) Try.underlying4 (rfl))⟩,
                  .inr ⟨gk0 rfl, fun A w' γ hb hF hs => g_eq (op_pick (.tmp 101) (.tmp 109) (.const (.bool false)) true rfl ((hs.1 1 rfl 101 rfl).trans (hF 1 rfl)) ((hs.1 9 rfl 109 rfl).trans (hF 9 rfl)))⟩,
                  .inr ⟨gk0 rfl, fun A w' γ hb hF hs => g_eq (op_move (.tmp 110) (.inl rfl) ((hs.1 10 rfl 110 rfl).trans (hF 10 rfl)))⟩,
                  .inr ⟨gkT 11 true rfl rfl 111 rfl (fun _ _ h => h), fun A w' γ hb hF hs => g_eq (op_move (.tmp 20) (.inl rfl) ((hs.2 20 rfl).trans rfl))⟩,
                  .inr ⟨gkT 11 true rfl rfl 111 rfl (fun _ _ h => h), fun A w' γ hb hF hs => g_eq (op_not 4 (.tmp 112) true rfl ((hs.1 12 rfl 112 rfl).trans (hF 12 rfl)))⟩,
                  .inr ⟨gkT 11 true rfl rfl 111 rfl (fun _ _ h => h), fun A w' γ hb hF hs => g_eq (op_move (.tmp 113) (.inl rfl) ((hs.1 13 rfl 113 rfl).trans (hF 13 rfl)))⟩,
                  .inr ⟨gkT 14 false rfl rfl 114 rfl (fun _ _ h => h), fun A w' γ hb hF hs => g_eq (op_move (.tmp 16) (.inl rfl) ((hs.2 16 rfl).trans rfl))⟩,
                  .inr ⟨gkT 14 false rfl rfl 114 rfl (fun _ _ h => h), fun A w' γ hb hF hs => g_eq (op_neq_int 30 _ (.tmp 115) (.const (.int .i64 0)) .i64 (x) (0) true rfl ((hs.1 15 rfl 115 rfl).trans (hF 15 rfl)) rfl (hx2))⟩,
                  .inr ⟨gkT 11 true rfl rfl 111 rfl (fun _ _ h => h), fun A w' γ hb hF hs => g_eq (op_pick (.tmp 114) (.const (.bool true)) (.tmp 116) false rfl ((hs.1 14 rfl 114 rfl).trans (hF 14 rfl)) ((hs.1 16 rfl 116 rfl).trans (hF 16 rfl)))⟩,
                  .inr ⟨gkT 11 true rfl rfl 111 rfl (fun _ _ h => h), fun A w' γ hb hF hs => g_eq (op_move (.tmp 117) (.inl rfl) ((hs.1 17 rfl 117 rfl).trans (hF 17 rfl)))⟩,
                  .inl ⟨gkF 18 false rfl rfl 118 rfl (fun _ _ h => h), fun _ => rfl⟩,
                  .inl ⟨gkF 18 false rfl rfl 118 rfl (fun _ _ h => h), fun _ => rfl⟩,
                  .inr ⟨gkT 11 true rfl rfl 111 rfl (fun _ _ h => h), fun A w' γ hb hF hs => g_eq (op_pick (.tmp 118) (.const (.bool true)) (.tmp 120) true rfl ((hs.1 18 rfl 118 rfl).trans (hF 18 rfl)) rfl)⟩,
                  .inr ⟨gk0 rfl, fun A w' γ hb hF hs => g_eq (op_pick (.tmp 111) (.tmp 121) (.const (.bool false)) true rfl ((hs.1 11 rfl 111 rfl).trans (hF 11 rfl)) ((hs.1 21 rfl 121 rfl).trans (hF 21 rfl)))⟩,
                  .inr ⟨gk0 rfl, fun A w' γ hb hF hs => g_eq (op_move (.tmp 122) (.inr rfl) ((hs.1 22 rfl 122 rfl).trans (hF 22 rfl)))⟩,
                  trivial⟩ ?_
                intro γ w' hb hF
                have bz := bt bb hb
                have ez : γ 23 = .bool true := hF 23 (by decide)
                simp only [Fr, if_true, Act.put, List.setIfInBounds_toArray, List.set_cons_zero, List.set_cons_succ]
                rw [ez]
                clear ez hF hx0 hx1 hx2
                go_wp2
                go_ret
                exact ⟨rfl, bz⟩
            · have hh' : decide (c3 ≤ 0) = false := decide_eq_false hh
              go_wp2_with fail
              clear hh'
              obtain ⟨bx, hx1⟩ : ∃ bx, decide (c4 ≤ 0) = bx := ⟨_, rfl⟩
              have hx0 : (x == 0) = bx := by rw [← hx1]; exact hx4
              clear hx4
              try simp only [List.append_eq, List.cons_append, List.nil_append]
              refine wp_region_g [some 100, some 101, some 102, some 103, some 104, some 105, some 106, some 107, some 108, some 109, some 110, some 111, some 112, some 113, some 114, some 115, some 116, some 117, some 118, some 119, some 120, some 121, some 122, some 8] (FL [
                  EqV (.bool true),
                  EqV (.bool true),
                  EqV (.int .i64 x),
                  EqV (.bool bx),
                  EqV (.agg (u8cells k)),
                  EqV (.agg (ucells (leN k 32))),
                  EqV (.agg (ucells t)),
                  EqV (.int .i64 c4),
                  EqV (.bool bx),
                  EqV (.bool true),
                  EqV (.bool true),
                  EqV (.bool true),
                  EqV (.bool false),
                  EqV (.bool true),
                  EqV (.bool true),
                  EqV (undef),
                  EqV (undef),
                  EqV (.bool true),
                  EqV (.bool true),
                  EqV (undef),
                  EqV (undef),
                  EqV (.bool true),
                  EqV (.bool true),
                  EqV (.bool true)
                ]) (FL_keeps ⟨keeps_eq _, keeps_eq _, keeps_eq _, keeps_eq _, keeps_eq _, keeps_eq _, keeps_eq _, keeps_eq _, keeps_eq _, keeps_eq _, keeps_eq _, keeps_eq _, keeps_eq _, keeps_eq _, keeps_eq _, keeps_eq _, keeps_eq _, keeps_eq _, keeps_eq _, keeps_eq _, keeps_eq _, keeps_eq _, keeps_eq _, keeps_eq _, trivial⟩) (by kernel_rfl) rfl rfl rfl rfl ⟨
                .inr ⟨gk0 rfl, fun A w' γ hb hF hs => g_eq (op_move (.tmp 9) (.inl rfl) ((hs.2 9 rfl).trans rfl))⟩,
                .inr ⟨gk0 rfl, fun A w' γ hb hF hs => g_eq (op_move (.tmp 100) (.inl rfl) ((hs.1 0 rfl 100 rfl).trans (hF 0 rfl)))⟩,
                .inr ⟨gkT 1 true rfl rfl 101 rfl (fun _ _ h => h), fun A w' γ hb hF hs => g_eq (op_move (.tmp 16) (.inl rfl) ((hs.2 16 rfl).trans rfl))⟩,
                .inr ⟨gkT 1 true rfl rfl 101 rfl (fun _ _ h => h), fun A w' γ hb hF hs => g_eq (op_eq_int 30 _ (.tmp 102) (.const (.int .i64 0)) .i64 (x) (0) bx rfl ((hs.1 2 rfl 102 rfl).trans (hF 2 rfl)) rfl (hx0))⟩,
                .inr ⟨gkT 1 true rfl rfl 101 rfl (fun _ _ h => h), fun A w' γ hb hF hs => g_eq (op_load 48 (.tmp 4) rfl ((hs.2 4 rfl).trans rfl) (q_h.below hb l_h) Try.underlying48 (iH))⟩,
                .inr ⟨gkT 1 true rfl rfl 101 rfl (fun _ _ h => h), fun A w' γ hb hF hs => g_eq (op_call 27 #[.agg (u8cells k)] (exec_call _ 27 #[.agg (u8cells k)] rfl rfl (args1 ((hs.1 4 rfl 104 rfl).trans (hF 4 rfl))) Try.func27 rfl rfl) (Number_any k HK.out _))⟩,
                .inr ⟨gkT 1 true rfl rfl 101 rfl (fun _ _ h => h), fun A w' γ hb hF hs => g_eq (op_load 26 (.tmp 10) rfl ((hs.2 10 rfl).trans rfl) (q_t.below hb l_t) Try.underlying26 (i26 _))⟩,
                .inr ⟨gkT 1 true rfl rfl 101 rfl (fun _ _ h => h), fun A w' γ hb hF hs => g_eq (op_call 17 #[.agg (ucells (leN k 32)), .agg (ucells t)] (exec_call _ 17 #[.agg (ucells (leN k 32)), .agg (ucells t)] rfl rfl (args2 ((hs.1 5 rfl 105 rfl).trans (hF 5 rfl)) ((hs.1 6 rfl 106 rfl).trans (hF 6 rfl))) Try.func17 rfl rfl) (Cmp_any (leN k 32) t c4 _ HC.out.2.2.2))⟩,
                .inr ⟨gkT 1 true rfl rfl 101 rfl (fun _ _ h => h), fun A w' γ hb hF hs => g_eq (op_leq 3 _ (.tmp 107) (.const (.int .i64 0)) .i64 (c4) (0) bx rfl ((hs.1 7 rfl 107 rfl).trans (hF 7 rfl)) rfl (hx1))⟩,
                .inr ⟨gkT 1 true rfl rfl 101 rfl (fun _ _ h => h), fun A w' γ hb hF hs => g_eq (op_eq_bool 4 _ (.tmp 103) (.tmp 108) (bx) (bx) true rfl ((hs.1 3 rfl 103 rfl).trans (hF 3 rfl)) ((hs.1 8 rfl 108 rfl).trans (hF 8 rfl)) Try.underlying4 (by cases bx <;> rfl))⟩,
                .inr ⟨gk0 rfl, fun A w' γ hb hF hs => g_eq (op_pick (.tmp 101) (.tmp 109) (.const (.bool false)) true rfl ((hs.1 1 rfl 101 rfl).trans (hF 1 rfl)) ((hs.1 9 rfl 109 rfl).trans (hF 9 rfl)))⟩,
                .inr ⟨gk0 rfl, fun A w' γ hb hF hs => g_eq (op_move (.tmp 110) (.inl rfl) ((hs.1 10 rfl 110 rfl).trans (hF 10 rfl)))⟩,
                .inr ⟨gkT 11 true rfl rfl 111 rfl (fun _ _ h => h), fun A w' γ hb hF hs => g_eq (op_move (.tmp 20) (.inl rfl) ((hs.2 20 rfl).trans rfl))⟩,
                .inr ⟨gkT 11 true rfl rfl 111 rfl (fun _ _ h => h), fun A w' γ hb hF hs => g_eq (op_not 4 (.tmp 112) false rfl ((hs.1 12 rfl 112 rfl).trans (hF 12 rfl)))⟩,
                .inr ⟨gkT 11 true rfl rfl 111 rfl (fun _ _ h => h), fun A w' γ hb hF hs => g_eq (op_move (.tmp 113) (.inl rfl) ((hs.1 13 rfl 113 rfl).trans (hF 13 rfl)))⟩,
                .inl ⟨gkF 14 false rfl rfl 114 rfl (fun _ _ h => h), fun _ => rfl⟩,
                .inl ⟨gkF 14 false rfl rfl 114 rfl (fun _ _ h => h), fun _ => rfl⟩,
                .inr ⟨gkT 11 true rfl rfl 111 rfl (fun _ _ h => h), fun A w' γ hb hF hs => g_eq (op_pick (.tmp 114) (.const (.bool true)) (.tmp 116) true rfl ((hs.1 14 rfl 114 rfl).trans (hF 14 rfl)) rfl)⟩,
                .inr ⟨gkT 11 true rfl rfl 111 rfl (fun _ _ h => h), fun A w' γ hb hF hs => g_eq (op_move (.tmp 117) (.inl rfl) ((hs.1 17 rfl 117 rfl).trans (hF 17 rfl)))⟩,
                .inl ⟨gkF 18 false rfl rfl 118 rfl (fun _ _ h => h), fun _ => rfl⟩,
                .inl ⟨gkF 18 false rfl rfl 118 rfl (fun _ _ h => h), fun _ => rfl⟩,
                .inr ⟨gkT 11 true rfl rfl 111 rfl (fun _ _ h => h), fun A w' γ hb hF hs => g_eq (op_pick (.tmp 118) (.const (.bool true)) (.tmp 120) true rfl ((hs.1 18 rfl 118 rfl).trans (hF 18 rfl)) rfl)⟩,
                .inr ⟨gk0 rfl, fun A w' γ hb hF hs => g_eq (op_pick (.tmp 111) (.tmp 121) (.const (.bool false)) true rfl ((hs.1 11 rfl 111 rfl).trans (hF 11 rfl)) ((hs.1 21 rfl 121 rfl).trans (hF 21 rfl)))⟩,
                .inr ⟨gk0 rfl, fun A w' γ hb hF hs => g_eq (op_move (.tmp 122) (.inr rfl) ((hs.1 22 rfl 122 rfl).trans (hF 22 rfl)))⟩,
                trivial⟩ ?_
              intro γ w' hb hF
              have bz := bt bb hb
              have ez : γ 23 = .bool true := hF 23 (by decide)
              simp only [Fr, if_true, Act.put, List.setIfInBounds_toArray, List.set_cons_zero, List.set_cons_succ]
              rw [ez]
              clear ez hF hx0 hx1
              go_wp2
              go_ret
              exact ⟨rfl, bz⟩
          · have hd' : decide (c2 ≤ 0) = false := decide_eq_false hd
            go_wp2_with fail
            clear hd'
            obtain ⟨bx, hx1⟩ : ∃ bx, decide (c4 ≤ 0) = bx := ⟨_, rfl⟩
            have hx0 : (x == 0) = bx := by rw [← hx1]; exact hx4
            clear hx4
            try simp only [List.append_eq, List.cons_append, List.nil_append]
            refine wp_region_g [some 100, some 101, some 102, some 103, some 104, some 105, some 106, some 107, some 108, some 109, some 110, some 111, some 112, some 113, some 114, some 115, some 116, some 117, some 118, some 119, some 120, some 121, some 122, some 8] (FL [
                EqV (.bool true),
                EqV (.bool true),
                EqV (.int .i64 x),
                EqV (.bool bx),
                EqV (.agg (u8cells k)),
                EqV (.agg (ucells (leN k 32))),
                EqV (.agg (ucells t)),
                EqV (.int .i64 c4),
                EqV (.bool bx),
                EqV (.bool true),
                EqV (.bool true),
                EqV (.bool true),
                EqV (.bool false),
                EqV (.bool true),
                EqV (.bool true),
                EqV (undef),
                EqV (undef),
                EqV (.bool true),
                EqV (.bool true),
                EqV (undef),
                EqV (undef),
                EqV (.bool true),
                EqV (.bool true),
                EqV (.bool true)
              ]) (FL_keeps ⟨keeps_eq _, keeps_eq _, keeps_eq _, keeps_eq _, keeps_eq _, keeps_eq _, keeps_eq _, keeps_eq _, keeps_eq _, keeps_eq _, keeps_eq _, keeps_eq _, keeps_eq _, keeps_eq _, keeps_eq _, keeps_eq _, keeps_eq _, keeps_eq _, keeps_eq _, keeps_eq _, keeps_eq _, keeps_eq _, keeps_eq _, keeps_eq _, trivial⟩) (by kernel_rfl) rfl rfl rfl rfl ⟨
              .inr ⟨gk0 rfl, fun A w' γ hb hF hs => g_eq (op_move (.tmp 9) (.inl rfl) ((hs.2 9 rfl).trans rfl))⟩,
              .inr ⟨gk0 rfl, fun A w' γ hb hF hs => g_eq (op_move (.tmp 100) (.inl rfl) ((hs.1 0 rfl 100 rfl).trans (hF 0 rfl)))⟩,
              .inr ⟨gkT 1 true rfl rfl 101 rfl (fun _ _ h => h), fun A w' γ hb hF hs => g_eq (op_move (.tmp 16) (.inl rfl) ((hs.2 16 rfl).trans rfl))⟩,
              .inr ⟨gkT 1 true rfl rfl 101 rfl (fun _ _ h => h), fun A w' γ hb hF hs => g_eq (op_eq_int 30 _ (.tmp 102) (.const (.int .i64 0)) .i64 (x) (0) bx rfl ((hs.1 2 rfl 102 rfl).trans (hF 2 rfl)) rfl (hx0))⟩,
              .inr ⟨gkT 1 true rfl rfl 101 rfl (fun _ _ h => h), fun A w' γ hb hF hs => g_eq (op_load 48 (.tmp 4) rfl ((hs.2 4 rfl).trans rfl) (q_h.below hb l_h) Try.underlying48 (iH))⟩,
              .inr ⟨gkT 1 true rfl rfl 101 rfl (fun _ _ h => h), fun A w' γ hb hF hs => g_eq (op_call 27 #[.agg (u8cells k)] (exec_call _ 27 #[.agg (u8cells k)] rfl rfl (args1 ((hs.1 4 rfl 104 rfl).trans (hF 4 rfl))) Try.func27 rfl rfl) (Number_any k HK.out _))⟩,
              .inr ⟨gkT 1 true rfl rfl 101 rfl (fun _ _ h => h), fun A w' γ hb hF hs => g_eq (op_load 26 (.tmp 10) rfl ((hs.2 10 rfl).trans rfl) (q_t.below hb l_t) Try.underlying26 (i26 _))⟩,
              .inr ⟨gkT 1 true rfl rfl 101 rfl (fun _ _ h => h), fun A w' γ hb hF hs => g_eq (op_call 17 #[.agg (ucells (leN k 32)), .agg (ucells t)] (exec_call _ 17 #[.agg (ucells (leN k 32)), .agg (ucells t)] rfl rfl (args2 ((hs.1 5 rfl 105 rfl).trans (hF 5 rfl)) ((hs.1 6 rfl 106 rfl).trans (hF 6 rfl))) Try.func17 rfl rfl) (Cmp_any (leN k 32) t c4 _ HC.out.2.2.2))⟩,
              .inr ⟨gkT 1 true rfl rfl 101 rfl (fun _ _ h => h), fun A w' γ hb hF hs => g_eq (op_leq 3 _ (.tmp 107) (.const (.int .i64 0)) .i64 (c4) (0) bx rfl ((hs.1 7 rfl 107 rfl).trans (hF 7 rfl)) rfl (hx1))⟩,
              .inr ⟨gkT 1 true rfl rfl 101 rfl (fun _ _ h => h), fun A w' γ hb hF hs => g_eq (op_eq_bool 4 _ (.tmp 103) (.tmp 108) (bx) (bx) true rfl ((hs.1 3 rfl 103 rfl).trans (hF 3 rfl)) ((hs.1 8 rfl 108 rfl).trans (hF 8 rfl)) Try.underlying4 (by cases bx <;> rfl))⟩,
              .inr ⟨gk0 rfl, fun A w' γ hb hF hs => g_eq (op_pick (.tmp 101) (.tmp 109) (.const (.bool false)) true rfl ((hs.1 1 rfl 101 rfl).trans (hF 1 rfl)) ((hs.1 9 rfl 109 rfl).trans (hF 9 rfl)))⟩,
              .inr ⟨gk0 rfl, fun A w' γ hb hF hs => g_eq (op_move (.tmp 110) (.inl rfl) ((hs.1 10 rfl 110 rfl).trans (hF 10 rfl)))⟩,
              .inr ⟨gkT 11 true rfl rfl 111 rfl (fun _ _ h => h), fun A w' γ hb hF hs => g_eq (op_move (.tmp 20) (.inl rfl) ((hs.2 20 rfl).trans rfl))⟩,
              .inr ⟨gkT 11 true rfl rfl 111 rfl (fun _ _ h => h), fun A w' γ hb hF hs => g_eq (op_not 4 (.tmp 112) false rfl ((hs.1 12 rfl 112 rfl).trans (hF 12 rfl)))⟩,
              .inr ⟨gkT 11 true rfl rfl 111 rfl (fun _ _ h => h), fun A w' γ hb hF hs => g_eq (op_move (.tmp 113) (.inl rfl) ((hs.1 13 rfl 113 rfl).trans (hF 13 rfl)))⟩,
              .inl ⟨gkF 14 false rfl rfl 114 rfl (fun _ _ h => h), fun _ => rfl⟩,
              .inl ⟨gkF 14 false rfl rfl 114 rfl (fun _ _ h => h), fun _ => rfl⟩,
              .inr ⟨gkT 11 true rfl rfl 111 rfl (fun _ _ h => h), fun A w' γ hb hF hs => g_eq (op_pick (.tmp 114) (.const (.bool true)) (.tmp 116) true rfl ((hs.1 14 rfl 114 rfl).trans (hF 14 rfl)) rfl)⟩,
              .inr ⟨gkT 11 true rfl rfl 111 rfl (fun _ _ h => h), fun A w' γ hb hF hs => g_eq (op_move (.tmp 117) (.inl rfl) ((hs.1 17 rfl 117 rfl).trans (hF 17 rfl)))⟩,
              .inl ⟨gkF 18 false rfl rfl 118 rfl (fun _ _ h => h), fun _ => rfl⟩,
              .inl ⟨gkF 18 false rfl rfl 118 rfl (fun _ _ h => h), fun _ => rfl⟩,
              .inr ⟨gkT 11 true rfl rfl 111 rfl (fun _ _ h => h), fun A w' γ hb hF hs => g_eq (op_pick (.tmp 118) (.const (.bool true)) (.tmp 120) true rfl ((hs.1 18 rfl 118 rfl).trans (hF 18 rfl)) rfl)⟩,
              .inr ⟨gk0 rfl, fun A w' γ hb hF hs => g_eq (op_pick (.tmp 111) (.tmp 121) (.const (.bool false)) true rfl ((hs.1 11 rfl 111 rfl).trans (hF 11 rfl)) ((hs.1 21 rfl 121 rfl).trans (hF 21 rfl)))⟩,
              .inr ⟨gk0 rfl, fun A w' γ hb hF hs => g_eq (op_move (.tmp 122) (.inr rfl) ((hs.1 22 rfl 122 rfl).trans (hF 22 rfl)))⟩,
              trivial⟩ ?_
            intro γ w' hb hF
            have bz := bt bb hb
            have ez : γ 23 = .bool true := hF 23 (by decide)
            simp only [Fr, if_true, Act.put, List.setIfInBounds_toArray, List.set_cons_zero, List.set_cons_succ]
            rw [ez]
            clear ez hF hx0 hx1
            go_wp2
            go_ret
            exact ⟨rfl, bz⟩
        · have hf' : (f == 0) = false := by simpa using hf
          go_wp2_with fail
          clear hf'
          obtain ⟨bx, hx1⟩ : ∃ bx, decide (c4 ≤ 0) = bx := ⟨_, rfl⟩
          have hx0 : (x == 0) = bx := by rw [← hx1]; exact hx4
          clear hx4
          try simp only [List.append_eq, List.cons_append, List.nil_append]
          refine wp_region_g [some 100, some 101, some 102, some 103, some 104, some 105, some 106, some 107, some 108, some 109, some 110, some 111, some 112, some 113, some 114, some 115, some 116, some 117, some 118, some 119, some 120, some 121, some 122, some 8] (FL [
              EqV (.bool true),
              EqV (.bool true),
              EqV (.int .i64 x),
              EqV (.bool bx),
              EqV (.agg (u8cells k)),
              EqV (.agg (ucells (leN k 32))),
              EqV (.agg (ucells t)),
              EqV (.int .i64 c4),
              EqV (.bool bx),
              EqV (.bool true),
              EqV (.bool true),
              EqV (.bool true),
              EqV (.bool false),
              EqV (.bool true),
              EqV (.bool true),
              EqV (undef),
              EqV (undef),
              EqV (.bool true),
              EqV (.bool true),
              EqV (undef),
              EqV (undef),
              EqV (.bool true),
              EqV (.bool true),
              EqV (.bool true)
            ]) (FL_keeps ⟨keeps_eq _, keeps_eq _, keeps_eq _, keeps_eq _, keeps_eq _, keeps_eq _, keeps_eq _, keeps_eq _, keeps_eq _, keeps_eq _, keeps_eq _, keeps_eq _, keeps_eq _, keeps_eq _, keeps_eq _, keeps_eq _, keeps_eq _, keeps_eq _, keeps_eq _, keeps_eq _, keeps_eq _, keeps_eq _, keeps_eq _, keeps_eq _, trivial⟩) (by kernel_rfl) rfl rfl rfl rfl ⟨
            .inr ⟨gk0 rfl, fun A w' γ hb hF hs => g_eq (op_move (.tmp 9) (.inl rfl) ((hs.2 9 rfl).trans rfl))⟩,
            .inr ⟨gk0 rfl, fun A w' γ hb hF hs => g_eq (op_move (.tmp 100) (.inl rfl) ((hs.1 0 rfl 100 rfl).trans (hF 0 rfl)))⟩,
            .inr ⟨gkT 1 true rfl rfl 101 rfl (fun _ _ h => h), fun A w' γ hb hF hs => g_eq (op_move (.tmp 16) (.inl rfl) ((hs.2 16 rfl).trans rfl))⟩,
            .inr ⟨gkT 1 true rfl rfl 101 rfl (fun _ _ h => h), fun A w' γ hb hF hs => g_eq (op_eq_int 30 _ (.tmp 102) (.const (.int .i64 0)) .i64 (x) (0) bx rfl ((hs.1 2 rfl 102 rfl).trans (hF 2 rfl)) rfl (hx0))⟩,
            .inr ⟨gkT 1 true rfl rfl 101 rfl (fun _ _ h => h), fun A w' γ hb hF hs => g_eq (op_load 48 (.tmp 4) rfl ((hs.2 4 rfl).trans rfl) (q_h.below hb l_h) Try.underlying48 (iH))⟩,
            .inr ⟨gkT 1 true rfl rfl 101 rfl (fun _ _ h => h), fun A w' γ hb hF hs => g_eq (op_call 27 #[.agg (u8cells k)] (exec_call _ 27 #[.agg (u8cells k)] rfl rfl (args1 ((hs.1 4 rfl 104 rfl).trans (hF 4 rfl))) Try.func27 rfl rfl) (Number_any k HK.out _))⟩,
            .inr ⟨gkT 1 true rfl rfl 101 rfl (fun _ _ h => h), fun A w' γ hb hF hs => g_eq (op_load 26 (.tmp 10) rfl ((hs.2 10 rfl).trans rfl) (q_t.below hb l_t) Try.underlying26 (i26 _))⟩,
            .inr ⟨gkT 1 true rfl rfl 101 rfl (fun _ _ h => h), fun A w' γ hb hF hs => g_eq (op_call 17 #[.agg (ucells (leN k 32)), .agg (ucells t)] (exec_call _ 17 #[.agg (ucells (leN k 32)), .agg (ucells t)] rfl rfl (args2 ((hs.1 5 rfl 105 rfl).trans (hF 5 rfl)) ((hs.1 6 rfl 106 rfl).trans (hF 6 rfl))) Try.func17 rfl rfl) (Cmp_any (leN k 32) t c4 _ HC.out.2.2.2))⟩,
            .inr ⟨gkT 1 true rfl rfl 101 rfl (fun _ _ h => h), fun A w' γ hb hF hs => g_eq (op_leq 3 _ (.tmp 107) (.const (.int .i64 0)) .i64 (c4) (0) bx rfl ((hs.1 7 rfl 107 rfl).trans (hF 7 rfl)) rfl (hx1))⟩,
            .inr ⟨gkT 1 true rfl rfl 101 rfl (fun _ _ h => h), fun A w' γ hb hF hs => g_eq (op_eq_bool 4 _ (.tmp 103) (.tmp 108) (bx) (bx) true rfl ((hs.1 3 rfl 103 rfl).trans (hF 3 rfl)) ((hs.1 8 rfl 108 rfl).trans (hF 8 rfl)) Try.underlying4 (by cases bx <;> rfl))⟩,
            .inr ⟨gk0 rfl, fun A w' γ hb hF hs => g_eq (op_pick (.tmp 101) (.tmp 109) (.const (.bool false)) true rfl ((hs.1 1 rfl 101 rfl).trans (hF 1 rfl)) ((hs.1 9 rfl 109 rfl).trans (hF 9 rfl)))⟩,
            .inr ⟨gk0 rfl, fun A w' γ hb hF hs => g_eq (op_move (.tmp 110) (.inl rfl) ((hs.1 10 rfl 110 rfl).trans (hF 10 rfl)))⟩,
            .inr ⟨gkT 11 true rfl rfl 111 rfl (fun _ _ h => h), fun A w' γ hb hF hs => g_eq (op_move (.tmp 20) (.inl rfl) ((hs.2 20 rfl).trans rfl))⟩,
            .inr ⟨gkT 11 true rfl rfl 111 rfl (fun _ _ h => h), fun A w' γ hb hF hs => g_eq (op_not 4 (.tmp 112) false rfl ((hs.1 12 rfl 112 rfl).trans (hF 12 rfl)))⟩,
            .inr ⟨gkT 11 true rfl rfl 111 rfl (fun _ _ h => h), fun A w' γ hb hF hs => g_eq (op_move (.tmp 113) (.inl rfl) ((hs.1 13 rfl 113 rfl).trans (hF 13 rfl)))⟩,
            .inl ⟨gkF 14 false rfl rfl 114 rfl (fun _ _ h => h), fun _ => rfl⟩,
            .inl ⟨gkF 14 false rfl rfl 114 rfl (fun _ _ h => h), fun _ => rfl⟩,
            .inr ⟨gkT 11 true rfl rfl 111 rfl (fun _ _ h => h), fun A w' γ hb hF hs => g_eq (op_pick (.tmp 114) (.const (.bool true)) (.tmp 116) true rfl ((hs.1 14 rfl 114 rfl).trans (hF 14 rfl)) rfl)⟩,
            .inr ⟨gkT 11 true rfl rfl 111 rfl (fun _ _ h => h), fun A w' γ hb hF hs => g_eq (op_move (.tmp 117) (.inl rfl) ((hs.1 17 rfl 117 rfl).trans (hF 17 rfl)))⟩,
            .inl ⟨gkF 18 false rfl rfl 118 rfl (fun _ _ h => h), fun _ => rfl⟩,
            .inl ⟨gkF 18 false rfl rfl 118 rfl (fun _ _ h => h), fun _ => rfl⟩,
            .inr ⟨gkT 11 true rfl rfl 111 rfl (fun _ _ h => h), fun A w' γ hb hF hs => g_eq (op_pick (.tmp 118) (.const (.bool true)) (.tmp 120) true rfl ((hs.1 18 rfl 118 rfl).trans (hF 18 rfl)) rfl)⟩,
            .inr ⟨gk0 rfl, fun A w' γ hb hF hs => g_eq (op_pick (.tmp 111) (.tmp 121) (.const (.bool false)) true rfl ((hs.1 11 rfl 111 rfl).trans (hF 11 rfl)) ((hs.1 21 rfl 121 rfl).trans (hF 21 rfl)))⟩,
            .inr ⟨gk0 rfl, fun A w' γ hb hF hs => g_eq (op_move (.tmp 122) (.inr rfl) ((hs.1 22 rfl 122 rfl).trans (hF 22 rfl)))⟩,
            trivial⟩ ?_
          intro γ w' hb hF
          have bz := bt bb hb
          have ez : γ 23 = .bool true := hF 23 (by decide)
          simp only [Fr, if_true, Act.put, List.setIfInBounds_toArray, List.set_cons_zero, List.set_cons_succ]
          rw [ez]
          clear ez hF hx0 hx1
          go_wp2
          go_ret
          exact ⟨rfl, bz⟩
    · have hg' : (g != 0) = true := by simpa using hg
      have hx := HX.out.2.1 (by trivial) hg
      subst hx
      go_wp2
      go_ret
      exact ⟨rfl, bb⟩
  · have he' : (e != 0) = true := by simpa using he
    have hx := HX.out.1 he
    subst hx
    go_wp2
    go_ret
    exact ⟨rfl, bb⟩
end Go.Proofs.Ytlkjcijbmfgjiaa
