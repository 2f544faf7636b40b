/- target.Work: of good bits (not done). -/
import Derived.Test.YtlkjcijbmfgjiaaTargC
import Derived.Test.YtlkjcijbmfgjiaaLaw01Div
import Derived.Test.YtlkjcijbmfgjiaaOne
namespace Go.Proofs.Ytlkjcijbmfgjiaa
open Go.RowKit
set_option linter.unusedVariables false
set_option maxRecDepth 100000 in
set_option maxHeartbeats 2000000 in
theorem Work_good (b t n x q s y : Nat) (hb : b < 4294967296) (h : expR b = (t, 0)) (HS : Hid (SumIs t 1 n false ∧ t + x + 1 = T ∧ DivIs x n q s true ∧ SumIs q 1 y false)) (w : World) :
    Calls Try.prog 19 #[.int .u32 b] w fun e w' => e = .returned (uval y) ∧ Below w.heap.size w w' := by
  go_enter Try.func19, Try.ntmps19
  go_wp2_with fail
  refine (Expand_any b t 0 hb h _).mono ?_
  rintro e w1 ⟨rfl, hb⟩
  simp only [uval]
  have q_r : Blk w1 (w.heap.size) 26 (ucells 0) := (Blk.newAt _ _ (ucells 0) rfl).calls hb
  have bb := bt (ba (Below.refl w.heap.size w) _) hb
  replace l_r := q_r.lt
  clear hb
  go_wp2_with fail
  change Code.wp _ _ _ _ (w1.alloc (Obj.cells (ucells t) 26))
  replace q_r : Blk (w1.alloc (Obj.cells (ucells t) 26)) (w.heap.size) 26 (ucells 0) := (q_r.alloc _)
  have q_t : Blk (w1.alloc (Obj.cells (ucells t) 26)) (w1.heap.size) 26 (ucells t) := (Blk.newAt w1 _ (ucells t) rfl)
  replace bb : Below w.heap.size w (w1.alloc (Obj.cells (ucells t) 26)) := (ba bb _)
  generalize (w1.alloc (Obj.cells (ucells t) 26)) = w2 at *
  replace l_r := q_r.lt
  replace l_t := q_t.lt
  refine wp_region_new [some 19, some 20, some 21, some 18, some 22, some 23, some 5, none, some 6] [⟨6, 7, 26, zero4, ucells n⟩] (fun i => ([uval t, uval 1, .tuple #[uval n, .bool false], .tuple #[uval n, .bool false], uval n, .bool false, undef, undef, .bool false] : List Value).getD i undef) (by kernel_rfl) rfl rfl rfl rfl rfl rfl rfl ⟨
    .inr (.inr ⟨rfl, rfl, fun A w' hb hs ho => op_load _ (.tmp 3) rfl ((ho 3 rfl).trans rfl) (q_t.below hb q_t.lt) Try.underlying26 (i26 _)⟩),
    .inr (.inr ⟨rfl, rfl, fun A w' hb hs ho => op_call 21 _ (exec_call _ 21 _ rfl rfl (args1 (rfl)) Try.func21 rfl rfl) (Of_any 1 _ (by decide))⟩),
    .inr (.inr ⟨rfl, rfl, fun A w' hb hs ho => op_call 20 _ (exec_call _ 20 _ rfl rfl (args2 (hs 0 rfl rfl _ rfl) (hs 1 rfl rfl _ rfl)) Try.func20 rfl rfl) (Add_any t 1 n false _ HS.out.1)⟩),
    .inr (.inr ⟨rfl, rfl, fun A w' hb hs ho => op_move _ (.inl rfl) (hs 2 rfl rfl _ rfl)⟩),
    .inr (.inr ⟨rfl, rfl, fun A w' hb hs ho => op_extract _ 0 _ rfl (hs 3 rfl rfl _ rfl) rfl⟩),
    .inr (.inr ⟨rfl, rfl, fun A w' hb hs ho => op_extract _ 1 _ rfl (hs 3 rfl rfl _ rfl) rfl⟩),
    .inl ⟨_, List.mem_cons_self, rfl, fun A w => alloc_run A _ rfl w⟩,
    .inr (.inl ⟨_, List.mem_cons_self, rfl, rfl, rfl, _, _, _, 4, rfl, rfl, rfl, rfl, rfl, rfl, rfl, i26 _, rfl, uc_one _⟩),
    .inr (.inr ⟨rfl, rfl, fun A w' hb hs ho => op_move _ (.inr rfl) (hs 5 rfl rfl _ rfl)⟩),
    trivial⟩ ?_
  intro γ w3 hb hn hd
  replace q_r : Blk w3 (w.heap.size) 26 (ucells 0) := q_r.calls hb
  replace q_t : Blk w3 (w1.heap.size) 26 (ucells t) := q_t.calls hb
  replace bb := bt bb hb
  obtain ⟨u_n, q_n⟩ := hn _ List.mem_cons_self
  clear hn hd hb
  simp only [Fr, if_true, vN, isAl, List.any_cons, List.any_nil, Act.put, List.setIfInBounds_toArray, List.set_cons_zero, List.set_cons_succ, List.getD_cons_zero, List.getD_cons_succ]
  generalize γ 6 = g_n at *
  replace l_r := q_r.lt
  replace l_t := q_t.lt
  replace l_n := q_n.lt
  go_wp2_with fail
  refine wp_region_new [some 27, some 28, some 29, some 30, some 26, some 31, some 32, some 33, some 7, some 8, none, none, some 9] [⟨8, 10, 26, zero4, ucells q⟩, ⟨9, 11, 26, zero4, ucells s⟩] (fun i => ([uval t, uval x, uval n, .tuple #[uval q, uval s, .bool true], .tuple #[uval q, uval s, .bool true], uval q, uval s, .bool true, undef, undef, undef, undef, .bool true] : List Value).getD i undef) (by kernel_rfl) rfl rfl rfl rfl rfl rfl rfl ⟨
    .inr (.inr ⟨rfl, rfl, fun A w' hb hs ho => op_load _ (.tmp 3) rfl ((ho 3 rfl).trans rfl) (q_t.below hb q_t.lt) Try.underlying26 (i26 _)⟩),
    .inr (.inr ⟨rfl, rfl, fun A w' hb hs ho => op_call 23 _ (exec_call _ 23 _ rfl rfl (args1 (hs 0 rfl rfl _ rfl)) Try.func23 rfl rfl) (Not_any t x _ HS.out.2.1)⟩),
    .inr (.inr ⟨rfl, rfl, fun A w' hb hs ho => op_load _ (.tmp 5) rfl ((ho 5 rfl).trans rfl) (q_n.below hb q_n.lt) Try.underlying26 (i26 _)⟩),
    .inr (.inr ⟨rfl, rfl, fun A w' hb hs ho => op_call 22 _ (exec_call _ 22 _ rfl rfl (args2 (hs 1 rfl rfl _ rfl) (hs 2 rfl rfl _ rfl)) Try.func22 rfl rfl) (DivU_is x n q s true _ HS.out.2.2.1)⟩),
    .inr (.inr ⟨rfl, rfl, fun A w' hb hs ho => op_move _ (.inl rfl) (hs 3 rfl rfl _ rfl)⟩),
    .inr (.inr ⟨rfl, rfl, fun A w' hb hs ho => op_extract _ 0 _ rfl (hs 4 rfl rfl _ rfl) rfl⟩),
    .inr (.inr ⟨rfl, rfl, fun A w' hb hs ho => op_extract _ 1 _ rfl (hs 4 rfl rfl _ rfl) rfl⟩),
    .inr (.inr ⟨rfl, rfl, fun A w' hb hs ho => op_extract _ 2 _ rfl (hs 4 rfl rfl _ rfl) rfl⟩),
    .inl ⟨_, List.mem_cons_self, rfl, fun A w => alloc_run A _ rfl w⟩,
    .inl ⟨_, (List.mem_cons_of_mem _ List.mem_cons_self), rfl, fun A w => alloc_run A _ rfl w⟩,
    .inr (.inl ⟨_, List.mem_cons_self, rfl, rfl, rfl, _, _, _, 5, rfl, rfl, rfl, rfl, rfl, rfl, rfl, i26 _, rfl, uc_one _⟩),
    .inr (.inl ⟨_, (List.mem_cons_of_mem _ List.mem_cons_self), rfl, rfl, rfl, _, _, _, 6, rfl, rfl, rfl, rfl, rfl, rfl, rfl, i26 _, rfl, uc_one _⟩),
    .inr (.inr ⟨rfl, rfl, fun A w' hb hs ho => op_move _ (.inr rfl) (hs 7 rfl rfl _ rfl)⟩),
    trivial⟩ ?_
  have bb0 := bb
  have lr0 := l_r
  intro γ w4 hb hn hd
  replace q_r : Blk w4 (w.heap.size) 26 (ucells 0) := q_r.calls hb
  replace q_t : Blk w4 (w1.heap.size) 26 (ucells t) := q_t.calls hb
  replace q_n : Blk w4 (g_n) 26 (ucells n) := q_n.calls hb
  replace bb := bt bb hb
  obtain ⟨u_q, q_q⟩ := hn _ List.mem_cons_self
  obtain ⟨u_s, q_s⟩ := hn _ (List.mem_cons_of_mem _ List.mem_cons_self)
  clear hn hd hb
  simp only [Fr, if_true, vN, isAl, List.any_cons, List.any_nil, Act.put, List.setIfInBounds_toArray, List.set_cons_zero, List.set_cons_succ, List.getD_cons_zero, List.getD_cons_succ]
  generalize γ 8 = g_q at *
  generalize γ 9 = g_s at *
  replace l_r := q_r.lt
  replace l_t := q_t.lt
  replace l_n := q_n.lt
  replace l_q := q_q.lt
  replace l_s := q_s.lt
  go_wp2_with fail
  refine wp_region_one w.heap.size [some 35, some 36, some 37, some 34, some 38, some 39, none] g_q 26 (ucells q) (ucells y) 6 [(0, 2), (2, 3), (3, 4), (4, 6)] (fun i => ([uval q, uval 1, .tuple #[uval y, .bool false], .tuple #[uval y, .bool false], uval y, .bool false, undef] : List Value).getD i undef) bb.size (by kernel_rfl) rfl rfl rfl rfl rfl rfl q_q ⟨
    ⟨rfl, .inl ⟨rfl, fun A w' hb hk hz hs => op_load 26 (.tmp 7) rfl ((hs.2 7 rfl).trans rfl) (hz rfl) Try.underlying26 (i26 _)⟩⟩,
    ⟨rfl, .inl ⟨rfl, fun A w' hb hk hz hs => op_call 21 _ (exec_call _ 21 _ rfl rfl (args1 rfl) Try.func21 rfl rfl) (Of_any 1 _ (by decide))⟩⟩,
    ⟨rfl, .inl ⟨rfl, fun A w' hb hk hz hs => op_call 20 _ (exec_call _ 20 _ rfl rfl (args2 (hs.1 0 rfl 35 rfl) (hs.1 1 rfl 36 rfl)) Try.func20 rfl rfl) (Add_any q 1 y false _ HS.out.2.2.2)⟩⟩,
    ⟨rfl, .inl ⟨rfl, fun A w' hb hk hz hs => op_move (.tmp 37) (.inl rfl) (hs.1 2 rfl 37 rfl)⟩⟩,
    ⟨rfl, .inl ⟨rfl, fun A w' hb hk hz hs => op_extract (.tmp 34) 0 _ rfl (hs.1 3 rfl 34 rfl) rfl⟩⟩,
    ⟨rfl, .inl ⟨rfl, fun A w' hb hk hz hs => op_extract (.tmp 34) 1 _ rfl (hs.1 3 rfl 34 rfl) rfl⟩⟩,
    ⟨rfl, .inr ⟨rfl, rfl, 26, .tmp 7, .tmp 38, rfl, fun A hs => ⟨(hs.2 7 rfl).trans rfl, hs.1 4 rfl 38 rfl⟩, i26 _, rfl, uc_one _, by have := bb0.size; omega⟩⟩, trivial⟩ ?_
  intro w5 hbq hsz hk Q
  simp only [Fr, if_true, Act.put, List.setIfInBounds_toArray, List.set_cons_zero, List.set_cons_succ, List.getD_cons_zero, List.getD_cons_succ]
  have R := hk.blk q_r (.inr (by intro s hs; obtain rfl := List.mem_singleton.1 hs; have := bb0.size; simp; omega))
  have BB : Below w.heap.size w w5 := bb.trans hbq
  clear hbq q_r q_t q_n q_q q_s hk hsz
  obtain ⟨Y, hY⟩ : ∃ Y, Y = ucells y := ⟨_, rfl⟩
  have iY : (Try.prog.info? 26).map (·.size) = some Y.size := by rw [hY]; exact i26 y
  have aY : Y.all (·.oneCell') = true := by rw [hY]; exact uc_one y
  have zY : (ucells 0).size = Y.size := by rw [hY]; rfl
  rw [← hY] at Q
  have HY := Lib.hid hY; clear hY
  go_wp2_with (first | with_reducible refine wl_row Q _ _ rfl rfl rfl _ _ Try.underlying26 iY ?_ | with_reducible refine ws_row R _ _ _ _ rfl rfl rfl rfl iY zY aY ?_)
  refine bodyPost_ret (v := .agg Y) ?_ rfl ⟨by rw [HY.out]; rfl, setRow_below BB (Nat.le_refl _) _⟩
  exact results_cell_row rfl _ _ _ _ _ (0, 0) _ rfl (R.row _) Try.underlying26 rfl iY
end Go.Proofs.Ytlkjcijbmfgjiaa
