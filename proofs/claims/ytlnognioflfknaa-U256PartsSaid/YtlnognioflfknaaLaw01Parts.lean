/- What is left, and one moved, are the document's: the walk of U256Parts. -/
import Derived.Test.YtlnognioflfknaaRefDiv
import Derived.Test.YtlnognioflfknaaLaw01Shifts
namespace Go.Proofs.Ytlnognioflfknaa
open Go.RowKit
set_option linter.unusedVariables false
theorem RShl_is (m : Nat) (n : Int) (r : Nat) (b : Bool) (w : World) (h : ShlIs m n r b) : Calls Try.prog 38 #[uval m, .int .i64 n] w fun e w' => e = .returned (.tuple #[uval r, .bool b]) ∧ Below w.heap.size w w' := by
  obtain ⟨h1, h2, rfl, rfl⟩ := h
  exact RShl_any m n w h1 h2
theorem RShr_is (m : Nat) (n : Int) (r : Nat) (w : World) (h : ShrIs m n r) (h2 : n ≤ 9223372036854775807) : Calls Try.prog 40 #[uval m, .int .i64 n] w fun e w' => e = .returned (uval r) ∧ Below w.heap.size w w' := by
  obtain ⟨h1, rfl⟩ := h
  exact RShr_any m n w h1 h2
set_option maxRecDepth 100000 in
set_option maxHeartbeats 4000000 in
theorem Parts_core (m n q r d z : Nat) (i : Int) (ok lost : Bool) (w : World) (HS : Hid (DivIs m n q r ok ∧ ShlIs m i d lost ∧ ShrIs m i z ∧ q < T ∧ r < T ∧ d < T ∧ z < T)) :
    Calls Try.prog 8 #[uval m, uval n, .int .i64 i] w fun e w' => e = .returned (.bool true) ∧ Below w.heap.size w w' := by
  have eq1 := fun w => eqRR q q true HS.out.2.2.2.1 HS.out.2.2.2.1 (by simp) w
  have er := fun w => eqRR r r true HS.out.2.2.2.2.1 HS.out.2.2.2.2.1 (by simp) w
  have ed := fun w => eqRR d d true HS.out.2.2.2.2.2.1 HS.out.2.2.2.2.2.1 (by simp) w
  have ez := fun w => eqRR z z true HS.out.2.2.2.2.2.2 HS.out.2.2.2.2.2.2 (by simp) w
  unfold uval
  go_enter Try.func8, Try.ntmps8
  go_wp2_with fail
  refine (Awake01 _).mono ?_
  rintro e w1 ⟨rfl, hb⟩
  have q_a : Blk w1 (w.heap.size) 24 (ucells m) := ((Blk.newAt _ _ (ucells m) rfl).alloc _).calls hb
  have q_b : Blk w1 (w.heap.size + 1) 24 (ucells n) := (Blk.newAt _ _ (ucells n) (by simp)).calls hb
  have bb := bt (ba (ba (Below.refl w.heap.size w) _) _) hb
  replace l_a := q_a.lt
  replace l_b := q_b.lt
  clear hb
  have c_a := cl4 q_a
  go_wp2_with fail
  refine (Ours_any m _).mono ?_
  rintro e w2 ⟨rfl, hb⟩
  simp only [uval]
  clear c_a
  replace q_a : Blk w2 (w.heap.size) 24 (ucells m) := q_a.calls hb
  replace q_b : Blk w2 (w.heap.size + 1) 24 (ucells n) := q_b.calls hb
  replace bb := bt bb hb
  replace l_a := q_a.lt
  replace l_b := q_b.lt
  clear hb
  go_wp2_with fail
  change Code.wp _ _ _ _ (w2.alloc (Obj.cells (ucells m) 26))
  replace q_a : Blk (w2.alloc (Obj.cells (ucells m) 26)) (w.heap.size) 24 (ucells m) := (q_a.alloc _)
  replace q_b : Blk (w2.alloc (Obj.cells (ucells m) 26)) (w.heap.size + 1) 24 (ucells n) := (q_b.alloc _)
  have q_x : Blk (w2.alloc (Obj.cells (ucells m) 26)) (w2.heap.size) 26 (ucells m) := (Blk.newAt w2 _ (ucells m) rfl)
  replace bb : Below w.heap.size w (w2.alloc (Obj.cells (ucells m) 26)) := (ba bb _)
  generalize (w2.alloc (Obj.cells (ucells m) 26)) = w3 at *
  replace l_a := q_a.lt
  replace l_b := q_b.lt
  replace l_x := q_x.lt
  refine wp_region_new [some 23, some 24, some 25, some 26, some 22, some 27, some 28, some 29, some 9, some 10, none, none, some 11] [⟨8, 10, 26, zero4, ucells q⟩, ⟨9, 11, 26, zero4, ucells r⟩] (fun i => ([uval m, uval n, uval n, .tuple #[uval q, uval r, .bool ok], .tuple #[uval q, uval r, .bool ok], uval q, uval r, .bool ok, undef, undef, undef, undef, .bool ok] : List Value).getD i undef) (by kernel_rfl) rfl rfl rfl rfl rfl rfl rfl ⟨
    .inr (.inr ⟨rfl, rfl, fun A w' hb hs ho => op_load _ (.tmp 8) rfl ((ho 8 rfl).trans rfl) (q_x.below hb q_x.lt) Try.underlying26 (i26 _)⟩),
    .inr (.inr ⟨rfl, rfl, fun A w' hb hs ho => op_load _ (.tmp 4) rfl ((ho 4 rfl).trans rfl) (q_b.below hb q_b.lt) Try.underlying24 (i24 _)⟩),
    .inr (.inr ⟨rfl, rfl, fun A w' hb hs ho => op_call 11 _ (exec_call _ 11 _ rfl rfl (args1 (hs 1 rfl rfl _ rfl)) Try.func11 rfl rfl) (Ours_any n _)⟩),
    .inr (.inr ⟨rfl, rfl, fun A w' hb hs ho => op_call 35 _ (exec_call _ 35 _ rfl rfl (args2 (hs 0 rfl rfl _ rfl) (hs 2 rfl rfl _ rfl)) Try.func35 rfl rfl) (DivU_is m n q r ok _ HS.out.1)⟩),
    .inr (.inr ⟨rfl, rfl, fun A w' hb hs ho => op_move _ (.inl rfl) (hs 3 rfl rfl _ rfl)⟩),
    .inr (.inr ⟨rfl, rfl, fun A w' hb hs ho => op_extract _ 0 _ rfl (hs 4 rfl rfl _ rfl) rfl⟩),
    .inr (.inr ⟨rfl, rfl, fun A w' hb hs ho => op_extract _ 1 _ rfl (hs 4 rfl rfl _ rfl) rfl⟩),
    .inr (.inr ⟨rfl, rfl, fun A w' hb hs ho => op_extract _ 2 _ rfl (hs 4 rfl rfl _ rfl) rfl⟩),
    .inl ⟨_, List.mem_cons_self, rfl, fun A w => alloc_run A _ rfl w⟩,
    .inl ⟨_, (List.mem_cons_of_mem _ List.mem_cons_self), rfl, fun A w => alloc_run A _ rfl w⟩,
    .inr (.inl ⟨_, List.mem_cons_self, rfl, rfl, rfl, _, _, _, 5, rfl, rfl, rfl, rfl, rfl, rfl, rfl, i26 _, rfl, uc_one _⟩),
    .inr (.inl ⟨_, (List.mem_cons_of_mem _ List.mem_cons_self), rfl, rfl, rfl, _, _, _, 6, rfl, rfl, rfl, rfl, rfl, rfl, rfl, i26 _, rfl, uc_one _⟩),
    .inr (.inr ⟨rfl, rfl, fun A w' hb hs ho => op_move _ (.inr rfl) (hs 7 rfl rfl _ rfl)⟩),
    trivial⟩ ?_
  intro γ w4 hb hn hd
  replace q_a : Blk w4 (w.heap.size) 24 (ucells m) := q_a.calls hb
  replace q_b : Blk w4 (w.heap.size + 1) 24 (ucells n) := q_b.calls hb
  replace q_x : Blk w4 (w2.heap.size) 26 (ucells m) := q_x.calls hb
  replace bb := bt bb hb
  obtain ⟨u_q, q_q⟩ := hn _ List.mem_cons_self
  obtain ⟨u_r, q_r⟩ := hn _ (List.mem_cons_of_mem _ List.mem_cons_self)
  clear hn hd hb
  simp only [Fr, if_true, vN, isAl, List.any_cons, List.any_nil, Act.put, List.setIfInBounds_toArray, List.set_cons_zero, List.set_cons_succ, List.getD_cons_zero, List.getD_cons_succ]
  generalize γ 8 = g_q at *
  generalize γ 9 = g_r at *
  replace l_a := q_a.lt
  replace l_b := q_b.lt
  replace l_x := q_x.lt
  replace l_q := q_q.lt
  replace l_r := q_r.lt
  have c_a := cl4 q_a
  have c_b := cl4 q_b
  go_wp2_with fail
  refine (RDiv_is m n q r ok _ HS.out.1).mono ?_
  rintro e w5 ⟨rfl, hb⟩
  simp only [uval]
  clear c_a c_b
  replace q_a : Blk w5 (w.heap.size) 24 (ucells m) := q_a.calls hb
  replace q_b : Blk w5 (w.heap.size + 1) 24 (ucells n) := q_b.calls hb
  replace q_x : Blk w5 (w2.heap.size) 26 (ucells m) := q_x.calls hb
  replace q_q : Blk w5 (g_q) 26 (ucells q) := q_q.calls hb
  replace q_r : Blk w5 (g_r) 26 (ucells r) := q_r.calls hb
  replace bb := bt bb hb
  replace l_a := q_a.lt
  replace l_b := q_b.lt
  replace l_x := q_x.lt
  replace l_q := q_q.lt
  replace l_r := q_r.lt
  clear hb
  have c_x := cl4 q_x
  go_wp2_with fail
  refine (Shl_is m i d lost _ HS.out.2.1).mono ?_
  rintro e w6 ⟨rfl, hb⟩
  simp only [uval]
  clear c_x
  replace q_a : Blk w6 (w.heap.size) 24 (ucells m) := ((q_a.alloc _).alloc _).calls hb
  replace q_b : Blk w6 (w.heap.size + 1) 24 (ucells n) := ((q_b.alloc _).alloc _).calls hb
  replace q_x : Blk w6 (w2.heap.size) 26 (ucells m) := ((q_x.alloc _).alloc _).calls hb
  replace q_q : Blk w6 (g_q) 26 (ucells q) := ((q_q.alloc _).alloc _).calls hb
  replace q_r : Blk w6 (g_r) 26 (ucells r) := ((q_r.alloc _).alloc _).calls hb
  have q_s : Blk w6 (w5.heap.size) 24 (ucells q) := ((Blk.newAt w5 _ (ucells q) rfl).alloc _).calls hb
  have q_t : Blk w6 (w5.heap.size + 1) 24 (ucells r) := (Blk.newAt (w5.alloc (Obj.cells (ucells q) 24)) _ (ucells r) (by simp)).calls hb
  replace bb := bt (ba (ba bb _) _) hb
  replace l_a := q_a.lt
  replace l_b := q_b.lt
  replace l_x := q_x.lt
  replace l_q := q_q.lt
  replace l_r := q_r.lt
  replace l_s := q_s.lt
  replace l_t := q_t.lt
  clear hb
  have c_a := cl4 q_a
  go_wp2_with fail
  refine (RShl_is m i d lost _ HS.out.2.1).mono ?_
  rintro e w7 ⟨rfl, hb⟩
  simp only [uval]
  clear c_a
  replace q_a : Blk w7 (w.heap.size) 24 (ucells m) := (q_a.alloc _).calls hb
  replace q_b : Blk w7 (w.heap.size + 1) 24 (ucells n) := (q_b.alloc _).calls hb
  replace q_x : Blk w7 (w2.heap.size) 26 (ucells m) := (q_x.alloc _).calls hb
  replace q_q : Blk w7 (g_q) 26 (ucells q) := (q_q.alloc _).calls hb
  replace q_r : Blk w7 (g_r) 26 (ucells r) := (q_r.alloc _).calls hb
  replace q_s : Blk w7 (w5.heap.size) 24 (ucells q) := (q_s.alloc _).calls hb
  replace q_t : Blk w7 (w5.heap.size + 1) 24 (ucells r) := (q_t.alloc _).calls hb
  have q_l : Blk w7 (w6.heap.size) 26 (ucells d) := (Blk.newAt w6 _ (ucells d) rfl).calls hb
  replace bb := bt (ba bb _) hb
  replace l_a := q_a.lt
  replace l_b := q_b.lt
  replace l_x := q_x.lt
  replace l_q := q_q.lt
  replace l_r := q_r.lt
  replace l_s := q_s.lt
  replace l_t := q_t.lt
  replace l_l := q_l.lt
  clear hb
  go_wp2_with fail
  change Code.wp _ _ _ _ (w7.alloc (Obj.cells (ucells d) 24))
  replace q_a : Blk (w7.alloc (Obj.cells (ucells d) 24)) (w.heap.size) 24 (ucells m) := (q_a.alloc _)
  replace q_b : Blk (w7.alloc (Obj.cells (ucells d) 24)) (w.heap.size + 1) 24 (ucells n) := (q_b.alloc _)
  replace q_x : Blk (w7.alloc (Obj.cells (ucells d) 24)) (w2.heap.size) 26 (ucells m) := (q_x.alloc _)
  replace q_q : Blk (w7.alloc (Obj.cells (ucells d) 24)) (g_q) 26 (ucells q) := (q_q.alloc _)
  replace q_r : Blk (w7.alloc (Obj.cells (ucells d) 24)) (g_r) 26 (ucells r) := (q_r.alloc _)
  replace q_s : Blk (w7.alloc (Obj.cells (ucells d) 24)) (w5.heap.size) 24 (ucells q) := (q_s.alloc _)
  replace q_t : Blk (w7.alloc (Obj.cells (ucells d) 24)) (w5.heap.size + 1) 24 (ucells r) := (q_t.alloc _)
  replace q_l : Blk (w7.alloc (Obj.cells (ucells d) 24)) (w6.heap.size) 26 (ucells d) := (q_l.alloc _)
  have q_m2 : Blk (w7.alloc (Obj.cells (ucells d) 24)) (w7.heap.size) 24 (ucells d) := (Blk.newAt w7 _ (ucells d) rfl)
  replace bb : Below w.heap.size w (w7.alloc (Obj.cells (ucells d) 24)) := (ba bb _)
  generalize (w7.alloc (Obj.cells (ucells d) 24)) = w8 at *
  replace l_a := q_a.lt
  replace l_b := q_b.lt
  replace l_x := q_x.lt
  replace l_q := q_q.lt
  replace l_r := q_r.lt
  replace l_s := q_s.lt
  replace l_t := q_t.lt
  replace l_l := q_l.lt
  replace l_m2 := q_m2.lt
  go_wp2_with fail
  try simp only [List.append_eq, List.cons_append, List.nil_append]
  refine wp_region_class (fun w' => Below w8.heap.size w8 w') (by kernel_rfl) (by kernel_rfl) (Below.refl _ _).drew ?_
  intro Idx hI V hS hcl
  have f_a := fun n => cl4 (q_a.below (hS n) l_a)
  have f_x := fun n => cl4 (q_x.below (hS n) l_x)
  have f_q := fun n => cl4 (q_q.below (hS n) l_q)
  have f_r := fun n => cl4 (q_r.below (hS n) l_r)
  have f_s := fun n => cl4 (q_s.below (hS n) l_s)
  have f_t := fun n => cl4 (q_t.below (hS n) l_t)
  have f_l := fun n => cl4 (q_l.below (hS n) l_l)
  have f_m2 := fun n => cl4 (q_m2.below (hS n) l_m2)
  repeat go_big_quiet_step (first | (go_at_call 20; (with_reducible refine Calls.cls (RTheirs_any _ _) ?_); intro w' hb; exact hcl w' (bt (hS _) hb)) | (go_at_call 39; (with_reducible refine Calls.cls (Shr_is m i z _ HS.out.2.2.1) ?_); intro w' hb; exact hcl w' (bt (hS _) hb)) | (go_at_call 40; (with_reducible refine Calls.cls (RShr_is m i z _ HS.out.2.2.1 HS.out.2.1.2.1) ?_); intro w' hb; exact hcl w' (bt (hS _) hb)))
  refine wpQuiet_nil ?_
  rintro _ ⟨nq, rfl⟩
  have hb := hS nq
  clear hcl hS f_a f_x f_q f_r f_s f_t f_l f_m2
  replace q_a : Blk (V nq) (w.heap.size) 24 (ucells m) := q_a.calls hb
  replace q_b : Blk (V nq) (w.heap.size + 1) 24 (ucells n) := q_b.calls hb
  replace q_x : Blk (V nq) (w2.heap.size) 26 (ucells m) := q_x.calls hb
  replace q_q : Blk (V nq) (g_q) 26 (ucells q) := q_q.calls hb
  replace q_r : Blk (V nq) (g_r) 26 (ucells r) := q_r.calls hb
  replace q_s : Blk (V nq) (w5.heap.size) 24 (ucells q) := q_s.calls hb
  replace q_t : Blk (V nq) (w5.heap.size + 1) 24 (ucells r) := q_t.calls hb
  replace q_l : Blk (V nq) (w6.heap.size) 26 (ucells d) := q_l.calls hb
  replace q_m2 : Blk (V nq) (w7.heap.size) 24 (ucells d) := q_m2.calls hb
  replace bb := bt bb hb
  clear hb
  generalize V nq = w9 at *
  replace l_a := q_a.lt
  replace l_b := q_b.lt
  replace l_x := q_x.lt
  replace l_q := q_q.lt
  replace l_r := q_r.lt
  replace l_s := q_s.lt
  replace l_t := q_t.lt
  replace l_l := q_l.lt
  replace l_m2 := q_m2.lt
  go_wp2
  go_ret
  exact ⟨rfl, bb⟩
end Go.Proofs.Ytlnognioflfknaa
