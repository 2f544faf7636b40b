/- TargetWork: its walk. -/
import Derived.Test.YtlkjcijbmfgjiaaTargI
namespace Go.Proofs.Ytlkjcijbmfgjiaa
open Go.RowKit
set_option linter.unusedVariables false
set_option maxRecDepth 100000 in
set_option maxHeartbeats 1000000 in
theorem TWork_bad (a b s z : Nat) (f : Int) (HS : Hid (a < 4294967296 ∧ expR a = (0, 7) ∧ b < 4294967296 ∧ expR b = (s, f) ∧ (∀ w, Calls Try.prog 19 #[.int .u32 a] w fun e w' => e = .returned (uval 0) ∧ Below w.heap.size w w') ∧ (∀ w, Calls Try.prog 19 #[.int .u32 b] w fun e w' => e = .returned (uval z) ∧ Below w.heap.size w w'))) (w : World) :
    Calls Try.prog 4 #[.int .u32 a, .int .u32 b] w fun e w' => e = .returned (.bool true) ∧ Below w.heap.size w w' := by
  go_enter Try.func4, Try.ntmps4
  go_wp2_with fail
  refine (Awake05 _).mono ?_
  rintro e w1 ⟨rfl, hb⟩
  have bb := bt (Below.refl w.heap.size w) hb
  clear hb
  go_wp2_with fail
  refine (Expand_any a 0 7 HS.out.1 HS.out.2.1 _).mono ?_
  rintro e w2 ⟨rfl, hb⟩
  simp only [uval]
  replace bb := bt bb hb
  clear hb
  go_wp2_with fail
  refine (Expand_any b s f HS.out.2.2.1 HS.out.2.2.2.1 _).mono ?_
  rintro e w3 ⟨rfl, hb⟩
  simp only [uval]
  have q_t : Blk w3 (w2.heap.size) 26 (ucells 0) := (Blk.newAt w2 _ (ucells 0) rfl).calls hb
  replace bb := bt (ba bb _) hb
  replace l_t := q_t.lt
  clear hb
  go_wp2_with fail
  refine (HS.out.2.2.2.2.1 _).mono ?_
  rintro e w4 ⟨rfl, hb⟩
  simp only [uval]
  replace q_t : Blk w4 (w2.heap.size) 26 (ucells 0) := (q_t.alloc _).calls hb
  have q_s : Blk w4 (w3.heap.size) 26 (ucells s) := (Blk.newAt w3 _ (ucells s) rfl).calls hb
  replace bb := bt (ba bb _) hb
  replace l_t := q_t.lt
  replace l_s := q_s.lt
  clear hb
  go_wp2_with fail
  refine (HS.out.2.2.2.2.2 _).mono ?_
  rintro e w5 ⟨rfl, hb⟩
  simp only [uval]
  replace q_t : Blk w5 (w2.heap.size) 26 (ucells 0) := (q_t.alloc _).calls hb
  replace q_s : Blk w5 (w3.heap.size) 26 (ucells s) := (q_s.alloc _).calls hb
  have q_v : Blk w5 (w4.heap.size) 26 (ucells 0) := (Blk.newAt w4 _ (ucells 0) rfl).calls hb
  replace bb := bt (ba bb _) hb
  replace l_t := q_t.lt
  replace l_s := q_s.lt
  replace l_v := q_v.lt
  clear hb
  have q0 := fun w => eqU0 0 true (by decide) (by simp) w
  have c_t := cl4 q_t
  have c_v := cl4 q_v
  go_wp2
  go_ret
  exact ⟨rfl, (ba bb _)⟩
theorem build_run (w : World) : (Instr.build 26 #[]).run Try.prog w = .ok (uval 0) w := by
  simp [Instr.build, go_sem, Try.zeroValue26]
  exact ⟨rfl, rfl, rfl, rfl⟩
theorem op_build0 {Q : Exit → Act → World → Prop} {o : Oper} {A : Act} {w : World} (ho : o.op = .build 26 #[]) : o.wp Try.prog A w (fun a' w'' => a' = A.put o.dst (uval 0) ∧ Below w.heap.size w w'') Q := by
  refine op_run ?_
  generalize A.eval = ρ at *
  unfold execOp
  simp only [ho]
  simp [build_run, go_sem]
  exact ⟨rfl, rfl, rfl, rfl⟩
set_option maxRecDepth 100000 in
set_option maxHeartbeats 4000000 in
theorem TWork_good (a b t s v z n x q r m k : Nat) (f c1 c2 : Int) (b1 b2 b3 : Bool) (HC : Hid (CmpIs t s c1 ∧ CmpIs v z c2)) (hb23 : b1 = true ∨ b2 = true ∧ b3 = true) (HS : Hid (a < 4294967296 ∧ expR a = (t, 0) ∧ b < 4294967296 ∧ expR b = (s, f) ∧ (∀ w, Calls Try.prog 19 #[.int .u32 a] w fun e w' => e = .returned (uval v) ∧ Below w.heap.size w w') ∧ (∀ w, Calls Try.prog 19 #[.int .u32 b] w fun e w' => e = .returned (uval z) ∧ Below w.heap.size w w') ∧
    SumIs t 1 n false ∧ 0 + x + 1 = T ∧ DivIs x n q r true ∧ SumIs q 1 m false ∧ SumIs r 1 k false ∧
    (∀ w, (Op.equalIn 10000 26 (.agg #[.int .u64 (lim v 0), .int .u64 (lim v 1), .int .u64 (lim v 2), .int .u64 (lim v 3)]) (.agg #[.int .u64 (lim q 0), .int .u64 (lim q 1), .int .u64 (lim q 2), .int .u64 (lim q 3)])).run Try.prog w = .ok b1 w) ∧
    (∀ w, (Op.equalIn 10000 26 (.agg #[.int .u64 (lim v 0), .int .u64 (lim v 1), .int .u64 (lim v 2), .int .u64 (lim v 3)]) (.agg #[.int .u64 (lim m 0), .int .u64 (lim m 1), .int .u64 (lim m 2), .int .u64 (lim m 3)])).run Try.prog w = .ok b2 w) ∧
    (∀ w, (Op.equalIn 10000 26 (.agg #[.int .u64 (lim k 0), .int .u64 (lim k 1), .int .u64 (lim k 2), .int .u64 (lim k 3)]) (.agg #[.int .u64 (lim n 0), .int .u64 (lim n 1), .int .u64 (lim n 2), .int .u64 (lim n 3)])).run Try.prog w = .ok b3 w) ∧
    (∀ w, (Op.equalIn 10000 26 (.agg #[.int .u64 (lim v 0), .int .u64 (lim v 1), .int .u64 (lim v 2), .int .u64 (lim v 3)]) (.agg #[.int .u64 0, .int .u64 0, .int .u64 0, .int .u64 0])).run Try.prog w = .ok false w) ∧
    (f = 0 → ¬ 0 < c1 → decide (0 ≤ c2) = true))) (w : World) :
    Calls Try.prog 4 #[.int .u32 a, .int .u32 b] w fun e w' => e = .returned (.bool true) ∧ Below w.heap.size w w' := by
  have HB := Lib.hid hb23; clear hb23
  go_enter Try.func4, Try.ntmps4
  go_wp2_with fail
  refine (Awake05 _).mono ?_
  rintro e w1 ⟨rfl, hb⟩
  have bb := bt (Below.refl w.heap.size w) hb
  clear hb
  go_wp2_with fail
  refine (Expand_any a t 0 HS.out.1 HS.out.2.1 _).mono ?_
  rintro e w2 ⟨rfl, hb⟩
  simp only [uval]
  replace bb := bt bb hb
  clear hb
  go_wp2_with fail
  refine (Expand_any b s f HS.out.2.2.1 HS.out.2.2.2.1 _).mono ?_
  rintro e w3 ⟨rfl, hb⟩
  simp only [uval]
  have q_t : Blk w3 (w2.heap.size) 26 (ucells t) := (Blk.newAt w2 _ (ucells t) rfl).calls hb
  replace bb := bt (ba bb _) hb
  replace l_t := q_t.lt
  clear hb
  go_wp2_with fail
  refine (HS.out.2.2.2.2.1 _).mono ?_
  rintro e w4 ⟨rfl, hb⟩
  simp only [uval]
  replace q_t : Blk w4 (w2.heap.size) 26 (ucells t) := (q_t.alloc _).calls hb
  have q_s : Blk w4 (w3.heap.size) 26 (ucells s) := (Blk.newAt w3 _ (ucells s) rfl).calls hb
  replace bb := bt (ba bb _) hb
  replace l_t := q_t.lt
  replace l_s := q_s.lt
  clear hb
  go_wp2_with fail
  refine (HS.out.2.2.2.2.2.1 _).mono ?_
  rintro e w5 ⟨rfl, hb⟩
  simp only [uval]
  replace q_t : Blk w5 (w2.heap.size) 26 (ucells t) := (q_t.alloc _).calls hb
  replace q_s : Blk w5 (w3.heap.size) 26 (ucells s) := (q_s.alloc _).calls hb
  have q_v : Blk w5 (w4.heap.size) 26 (ucells v) := (Blk.newAt w4 _ (ucells v) rfl).calls hb
  replace bb := bt (ba bb _) hb
  replace l_t := q_t.lt
  replace l_s := q_s.lt
  replace l_v := q_v.lt
  clear hb
  go_wp2_with fail
  change Code.wp _ _ _ _ (w5.alloc (Obj.cells (ucells z) 26))
  replace q_t : Blk (w5.alloc (Obj.cells (ucells z) 26)) (w2.heap.size) 26 (ucells t) := (q_t.alloc _)
  replace q_s : Blk (w5.alloc (Obj.cells (ucells z) 26)) (w3.heap.size) 26 (ucells s) := (q_s.alloc _)
  replace q_v : Blk (w5.alloc (Obj.cells (ucells z) 26)) (w4.heap.size) 26 (ucells v) := (q_v.alloc _)
  have q_w : Blk (w5.alloc (Obj.cells (ucells z) 26)) (w5.heap.size) 26 (ucells z) := (Blk.newAt w5 _ (ucells z) rfl)
  replace bb : Below w.heap.size w (w5.alloc (Obj.cells (ucells z) 26)) := (ba bb _)
  generalize (w5.alloc (Obj.cells (ucells z) 26)) = w6 at *
  replace l_t := q_t.lt
  replace l_s := q_s.lt
  replace l_v := q_v.lt
  replace l_w := q_w.lt
  refine wp_region_new [some 50, some 51, some 52, some 49, some 53, some 54, some 12, none, some 13] [⟨6, 7, 26, zero4, ucells n⟩] (fun i => ([uval t, uval 1, .tuple #[uval n, .bool false], .tuple #[uval n, .bool false], uval n, .bool false, undef, undef, .bool false] : List Value).getD i undef) (by kernel_rfl) rfl rfl rfl rfl rfl rfl rfl ⟨
    .inr (.inr ⟨rfl, rfl, fun A w' hb hs ho => op_load _ (.tmp 6) rfl ((ho 6 rfl).trans rfl) (q_t.below hb q_t.lt) Try.underlying26 (i26 _)⟩),
    .inr (.inr ⟨rfl, rfl, fun A w' hb hs ho => op_call 21 _ (exec_call _ 21 _ rfl rfl (args1 (rfl)) Try.func21 rfl rfl) (Of_any 1 _ (by decide))⟩),
    .inr (.inr ⟨rfl, rfl, fun A w' hb hs ho => op_call 20 _ (exec_call _ 20 _ rfl rfl (args2 (hs 0 rfl rfl _ rfl) (hs 1 rfl rfl _ rfl)) Try.func20 rfl rfl) (Add_any t 1 n false _ HS.out.2.2.2.2.2.2.1)⟩),
    .inr (.inr ⟨rfl, rfl, fun A w' hb hs ho => op_move _ (.inl rfl) (hs 2 rfl rfl _ rfl)⟩),
    .inr (.inr ⟨rfl, rfl, fun A w' hb hs ho => op_extract _ 0 _ rfl (hs 3 rfl rfl _ rfl) rfl⟩),
    .inr (.inr ⟨rfl, rfl, fun A w' hb hs ho => op_extract _ 1 _ rfl (hs 3 rfl rfl _ rfl) rfl⟩),
    .inl ⟨_, List.mem_cons_self, rfl, fun A w => alloc_run A _ rfl w⟩,
    .inr (.inl ⟨_, List.mem_cons_self, rfl, rfl, rfl, _, _, _, 4, rfl, rfl, rfl, rfl, rfl, rfl, rfl, i26 _, rfl, uc_one _⟩),
    .inr (.inr ⟨rfl, rfl, fun A w' hb hs ho => op_move _ (.inr rfl) (hs 5 rfl rfl _ rfl)⟩),
    trivial⟩ ?_
  intro γ w7 hb hn hd
  replace q_t : Blk w7 (w2.heap.size) 26 (ucells t) := q_t.calls hb
  replace q_s : Blk w7 (w3.heap.size) 26 (ucells s) := q_s.calls hb
  replace q_v : Blk w7 (w4.heap.size) 26 (ucells v) := q_v.calls hb
  replace q_w : Blk w7 (w5.heap.size) 26 (ucells z) := q_w.calls hb
  replace bb := bt bb hb
  obtain ⟨u_n, q_n⟩ := hn _ List.mem_cons_self
  clear hn hd hb
  simp only [Fr, if_true, vN, isAl, List.any_cons, List.any_nil, Act.put, List.setIfInBounds_toArray, List.set_cons_zero, List.set_cons_succ, List.getD_cons_zero, List.getD_cons_succ]
  generalize γ 6 = g_n at *
  replace l_t := q_t.lt
  replace l_s := q_s.lt
  replace l_v := q_v.lt
  replace l_w := q_w.lt
  replace l_n := q_n.lt
  go_wp2_with fail
  refine wp_region_new [some 56, some 57, some 58, some 59, some 55, some 60, some 61, some 62, some 14, some 15, none, none, some 16] [⟨8, 10, 26, zero4, ucells q⟩, ⟨9, 11, 26, zero4, ucells r⟩] (fun i => ([uval 0, uval x, uval n, .tuple #[uval q, uval r, .bool true], .tuple #[uval q, uval r, .bool true], uval q, uval r, .bool true, undef, undef, undef, undef, .bool true] : List Value).getD i undef) (by kernel_rfl) rfl rfl rfl rfl rfl rfl rfl ⟨
    .inr (.inr ⟨rfl, rfl, fun A w' hb hs ho => op_build0 rfl⟩),
    .inr (.inr ⟨rfl, rfl, fun A w' hb hs ho => op_call 23 _ (exec_call _ 23 _ rfl rfl (args1 (hs 0 rfl rfl _ rfl)) Try.func23 rfl rfl) (Not_any 0 x _ HS.out.2.2.2.2.2.2.2.1)⟩),
    .inr (.inr ⟨rfl, rfl, fun A w' hb hs ho => op_load _ (.tmp 12) rfl ((ho 12 rfl).trans rfl) (q_n.below hb q_n.lt) Try.underlying26 (i26 _)⟩),
    .inr (.inr ⟨rfl, rfl, fun A w' hb hs ho => op_call 22 _ (exec_call _ 22 _ rfl rfl (args2 (hs 1 rfl rfl _ rfl) (hs 2 rfl rfl _ rfl)) Try.func22 rfl rfl) (DivU_is x n q r true _ HS.out.2.2.2.2.2.2.2.2.1)⟩),
    .inr (.inr ⟨rfl, rfl, fun A w' hb hs ho => op_move _ (.inl rfl) (hs 3 rfl rfl _ rfl)⟩),
    .inr (.inr ⟨rfl, rfl, fun A w' hb hs ho => op_extract _ 0 _ rfl (hs 4 rfl rfl _ rfl) rfl⟩),
    .inr (.inr ⟨rfl, rfl, fun A w' hb hs ho => op_extract _ 1 _ rfl (hs 4 rfl rfl _ rfl) rfl⟩),
    .inr (.inr ⟨rfl, rfl, fun A w' hb hs ho => op_extract _ 2 _ rfl (hs 4 rfl rfl _ rfl) rfl⟩),
    .inl ⟨_, List.mem_cons_self, rfl, fun A w => alloc_run A _ rfl w⟩,
    .inl ⟨_, (List.mem_cons_of_mem _ List.mem_cons_self), rfl, fun A w => alloc_run A _ rfl w⟩,
    .inr (.inl ⟨_, List.mem_cons_self, rfl, rfl, rfl, _, _, _, 5, rfl, rfl, rfl, rfl, rfl, rfl, rfl, i26 _, rfl, uc_one _⟩),
    .inr (.inl ⟨_, (List.mem_cons_of_mem _ List.mem_cons_self), rfl, rfl, rfl, _, _, _, 6, rfl, rfl, rfl, rfl, rfl, rfl, rfl, i26 _, rfl, uc_one _⟩),
    .inr (.inr ⟨rfl, rfl, fun A w' hb hs ho => op_move _ (.inr rfl) (hs 7 rfl rfl _ rfl)⟩),
    trivial⟩ ?_
  intro γ w8 hb hn hd
  replace q_t : Blk w8 (w2.heap.size) 26 (ucells t) := q_t.calls hb
  replace q_s : Blk w8 (w3.heap.size) 26 (ucells s) := q_s.calls hb
  replace q_v : Blk w8 (w4.heap.size) 26 (ucells v) := q_v.calls hb
  replace q_w : Blk w8 (w5.heap.size) 26 (ucells z) := q_w.calls hb
  replace q_n : Blk w8 (g_n) 26 (ucells n) := q_n.calls hb
  replace bb := bt bb hb
  obtain ⟨u_q, q_q⟩ := hn _ List.mem_cons_self
  obtain ⟨u_r, q_r⟩ := hn _ (List.mem_cons_of_mem _ List.mem_cons_self)
  clear hn hd hb
  simp only [Fr, if_true, vN, isAl, List.any_cons, List.any_nil, Act.put, List.setIfInBounds_toArray, List.set_cons_zero, List.set_cons_succ, List.getD_cons_zero, List.getD_cons_succ]
  generalize γ 8 = g_q at *
  generalize γ 9 = g_r at *
  replace l_t := q_t.lt
  replace l_s := q_s.lt
  replace l_v := q_v.lt
  replace l_w := q_w.lt
  replace l_n := q_n.lt
  replace l_q := q_q.lt
  replace l_r := q_r.lt
  go_wp2_with fail
  refine wp_region_new [some 64, some 65, some 66, some 63, some 67, some 68, some 17, none, some 18] [⟨6, 7, 26, zero4, ucells m⟩] (fun i => ([uval q, uval 1, .tuple #[uval m, .bool false], .tuple #[uval m, .bool false], uval m, .bool false, undef, undef, .bool false] : List Value).getD i undef) (by kernel_rfl) rfl rfl rfl rfl rfl rfl rfl ⟨
    .inr (.inr ⟨rfl, rfl, fun A w' hb hs ho => op_load _ (.tmp 14) rfl ((ho 14 rfl).trans rfl) (q_q.below hb q_q.lt) Try.underlying26 (i26 _)⟩),
    .inr (.inr ⟨rfl, rfl, fun A w' hb hs ho => op_call 21 _ (exec_call _ 21 _ rfl rfl (args1 (rfl)) Try.func21 rfl rfl) (Of_any 1 _ (by decide))⟩),
    .inr (.inr ⟨rfl, rfl, fun A w' hb hs ho => op_call 20 _ (exec_call _ 20 _ rfl rfl (args2 (hs 0 rfl rfl _ rfl) (hs 1 rfl rfl _ rfl)) Try.func20 rfl rfl) (Add_any q 1 m false _ HS.out.2.2.2.2.2.2.2.2.2.1)⟩),
    .inr (.inr ⟨rfl, rfl, fun A w' hb hs ho => op_move _ (.inl rfl) (hs 2 rfl rfl _ rfl)⟩),
    .inr (.inr ⟨rfl, rfl, fun A w' hb hs ho => op_extract _ 0 _ rfl (hs 3 rfl rfl _ rfl) rfl⟩),
    .inr (.inr ⟨rfl, rfl, fun A w' hb hs ho => op_extract _ 1 _ rfl (hs 3 rfl rfl _ rfl) rfl⟩),
    .inl ⟨_, List.mem_cons_self, rfl, fun A w => alloc_run A _ rfl w⟩,
    .inr (.inl ⟨_, List.mem_cons_self, rfl, rfl, rfl, _, _, _, 4, rfl, rfl, rfl, rfl, rfl, rfl, rfl, i26 _, rfl, uc_one _⟩),
    .inr (.inr ⟨rfl, rfl, fun A w' hb hs ho => op_move _ (.inr rfl) (hs 5 rfl rfl _ rfl)⟩),
    trivial⟩ ?_
  intro γ w9 hb hn hd
  replace q_t : Blk w9 (w2.heap.size) 26 (ucells t) := q_t.calls hb
  replace q_s : Blk w9 (w3.heap.size) 26 (ucells s) := q_s.calls hb
  replace q_v : Blk w9 (w4.heap.size) 26 (ucells v) := q_v.calls hb
  replace q_w : Blk w9 (w5.heap.size) 26 (ucells z) := q_w.calls hb
  replace q_n : Blk w9 (g_n) 26 (ucells n) := q_n.calls hb
  replace q_q : Blk w9 (g_q) 26 (ucells q) := q_q.calls hb
  replace q_r : Blk w9 (g_r) 26 (ucells r) := q_r.calls hb
  replace bb := bt bb hb
  obtain ⟨u_m, q_m⟩ := hn _ List.mem_cons_self
  clear hn hd hb
  simp only [Fr, if_true, vN, isAl, List.any_cons, List.any_nil, Act.put, List.setIfInBounds_toArray, List.set_cons_zero, List.set_cons_succ, List.getD_cons_zero, List.getD_cons_succ]
  generalize γ 6 = g_m at *
  replace l_t := q_t.lt
  replace l_s := q_s.lt
  replace l_v := q_v.lt
  replace l_w := q_w.lt
  replace l_n := q_n.lt
  replace l_q := q_q.lt
  replace l_r := q_r.lt
  replace l_m := q_m.lt
  go_wp2_with fail
  refine wp_region_new [some 70, some 71, some 72, some 69, some 73, some 74, some 19, none, some 20] [⟨6, 7, 26, zero4, ucells k⟩] (fun i => ([uval r, uval 1, .tuple #[uval k, .bool false], .tuple #[uval k, .bool false], uval k, .bool false, undef, undef, .bool false] : List Value).getD i undef) (by kernel_rfl) rfl rfl rfl rfl rfl rfl rfl ⟨
    .inr (.inr ⟨rfl, rfl, fun A w' hb hs ho => op_load _ (.tmp 15) rfl ((ho 15 rfl).trans rfl) (q_r.below hb q_r.lt) Try.underlying26 (i26 _)⟩),
    .inr (.inr ⟨rfl, rfl, fun A w' hb hs ho => op_call 21 _ (exec_call _ 21 _ rfl rfl (args1 (rfl)) Try.func21 rfl rfl) (Of_any 1 _ (by decide))⟩),
    .inr (.inr ⟨rfl, rfl, fun A w' hb hs ho => op_call 20 _ (exec_call _ 20 _ rfl rfl (args2 (hs 0 rfl rfl _ rfl) (hs 1 rfl rfl _ rfl)) Try.func20 rfl rfl) (Add_any r 1 k false _ HS.out.2.2.2.2.2.2.2.2.2.2.1)⟩),
    .inr (.inr ⟨rfl, rfl, fun A w' hb hs ho => op_move _ (.inl rfl) (hs 2 rfl rfl _ rfl)⟩),
    .inr (.inr ⟨rfl, rfl, fun A w' hb hs ho => op_extract _ 0 _ rfl (hs 3 rfl rfl _ rfl) rfl⟩),
    .inr (.inr ⟨rfl, rfl, fun A w' hb hs ho => op_extract _ 1 _ rfl (hs 3 rfl rfl _ rfl) rfl⟩),
    .inl ⟨_, List.mem_cons_self, rfl, fun A w => alloc_run A _ rfl w⟩,
    .inr (.inl ⟨_, List.mem_cons_self, rfl, rfl, rfl, _, _, _, 4, rfl, rfl, rfl, rfl, rfl, rfl, rfl, i26 _, rfl, uc_one _⟩),
    .inr (.inr ⟨rfl, rfl, fun A w' hb hs ho => op_move _ (.inr rfl) (hs 5 rfl rfl _ rfl)⟩),
    trivial⟩ ?_
  intro γ w10 hb hn hd
  replace q_t : Blk w10 (w2.heap.size) 26 (ucells t) := q_t.calls hb
  replace q_s : Blk w10 (w3.heap.size) 26 (ucells s) := q_s.calls hb
  replace q_v : Blk w10 (w4.heap.size) 26 (ucells v) := q_v.calls hb
  replace q_w : Blk w10 (w5.heap.size) 26 (ucells z) := q_w.calls hb
  replace q_n : Blk w10 (g_n) 26 (ucells n) := q_n.calls hb
  replace q_q : Blk w10 (g_q) 26 (ucells q) := q_q.calls hb
  replace q_r : Blk w10 (g_r) 26 (ucells r) := q_r.calls hb
  replace q_m : Blk w10 (g_m) 26 (ucells m) := q_m.calls hb
  replace bb := bt bb hb
  obtain ⟨u_k, q_k⟩ := hn _ List.mem_cons_self
  clear hn hd hb
  simp only [Fr, if_true, vN, isAl, List.any_cons, List.any_nil, Act.put, List.setIfInBounds_toArray, List.set_cons_zero, List.set_cons_succ, List.getD_cons_zero, List.getD_cons_succ]
  generalize γ 6 = g_k at *
  replace l_t := q_t.lt
  replace l_s := q_s.lt
  replace l_v := q_v.lt
  replace l_w := q_w.lt
  replace l_n := q_n.lt
  replace l_q := q_q.lt
  replace l_r := q_r.lt
  replace l_m := q_m.lt
  replace l_k := q_k.lt
  have q1 := HS.out.2.2.2.2.2.2.2.2.2.2.2.1
  have q2 := HS.out.2.2.2.2.2.2.2.2.2.2.2.2.1
  have q3 := HS.out.2.2.2.2.2.2.2.2.2.2.2.2.2.1
  have q4 := HS.out.2.2.2.2.2.2.2.2.2.2.2.2.2.2.1
  have hf := HS.out.2.2.2.2.2.2.2.2.2.2.2.2.2.2.2
  have c_t := cl4 q_t
  have c_s := cl4 q_s
  have c_v := cl4 q_v
  have c_w := cl4 q_w
  have c_n := cl4 q_n
  have c_q := cl4 q_q
  have c_m := cl4 q_m
  have c_k := cl4 q_k
  rcases HB.out with rfl | ⟨rfl, rfl⟩
  · skip
    by_cases hf0 : f = 0
    · subst hf0
      by_cases hc : 0 < c1
      · have hc' : decide ((0 : Int) < c1) = true := decide_eq_true hc
        clear hf
        go_wp2_with fail
        refine (Cmp_any t s c1 _ HC.out.1).mono ?_
        rintro e wz ⟨rfl, hb⟩
        have bz := bt bb hb
        clear hb
        go_wp2
        go_ret
        exact ⟨rfl, bz⟩
      · have hc' : decide ((0 : Int) < c1) = false := decide_eq_false hc
        have hd := hf rfl (by omega)
        clear hf
        go_wp2_with fail
        refine (Cmp_any t s c1 _ HC.out.1).mono ?_
        rintro e wz ⟨rfl, hb⟩
        have e_v := cl4 (q_v.calls hb)
        have e_w := cl4 (q_w.calls hb)
        have bz := bt bb hb
        clear hb
        go_wp2_with fail
        refine (Cmp_any v z c2 _ HC.out.2).mono ?_
        rintro e wy ⟨rfl, hb⟩
        replace bz := bt bz hb
        clear hb
        go_wp2
        go_ret
        exact ⟨rfl, bz⟩
    · have hf' : (f != 0) = true := by simpa using hf0
      clear hf
      go_wp2
      go_ret
      exact ⟨rfl, bb⟩
  · cases b1
    · skip
      by_cases hf0 : f = 0
      · subst hf0
        by_cases hc : 0 < c1
        · have hc' : decide ((0 : Int) < c1) = true := decide_eq_true hc
          clear hf
          go_wp2_with fail
          refine (Cmp_any t s c1 _ HC.out.1).mono ?_
          rintro e wz ⟨rfl, hb⟩
          have bz := bt bb hb
          clear hb
          go_wp2
          go_ret
          exact ⟨rfl, bz⟩
        · have hc' : decide ((0 : Int) < c1) = false := decide_eq_false hc
          have hd := hf rfl (by omega)
          clear hf
          go_wp2_with fail
          refine (Cmp_any t s c1 _ HC.out.1).mono ?_
          rintro e wz ⟨rfl, hb⟩
          have e_v := cl4 (q_v.calls hb)
          have e_w := cl4 (q_w.calls hb)
          have bz := bt bb hb
          clear hb
          go_wp2_with fail
          refine (Cmp_any v z c2 _ HC.out.2).mono ?_
          rintro e wy ⟨rfl, hb⟩
          replace bz := bt bz hb
          clear hb
          go_wp2
          go_ret
          exact ⟨rfl, bz⟩
      · have hf' : (f != 0) = true := by simpa using hf0
        clear hf
        go_wp2
        go_ret
        exact ⟨rfl, bb⟩
    · skip
      by_cases hf0 : f = 0
      · subst hf0
        by_cases hc : 0 < c1
        · have hc' : decide ((0 : Int) < c1) = true := decide_eq_true hc
          clear hf
          go_wp2_with fail
          refine (Cmp_any t s c1 _ HC.out.1).mono ?_
          rintro e wz ⟨rfl, hb⟩
          have bz := bt bb hb
          clear hb
          go_wp2
          go_ret
          exact ⟨rfl, bz⟩
        · have hc' : decide ((0 : Int) < c1) = false := decide_eq_false hc
          have hd := hf rfl (by omega)
          clear hf
          go_wp2_with fail
          refine (Cmp_any t s c1 _ HC.out.1).mono ?_
          rintro e wz ⟨rfl, hb⟩
          have e_v := cl4 (q_v.calls hb)
          have e_w := cl4 (q_w.calls hb)
          have bz := bt bb hb
          clear hb
          go_wp2_with fail
          refine (Cmp_any v z c2 _ HC.out.2).mono ?_
          rintro e wy ⟨rfl, hb⟩
          replace bz := bt bz hb
          clear hb
          go_wp2
          go_ret
          exact ⟨rfl, bz⟩
      · have hf' : (f != 0) = true := by simpa using hf0
        clear hf
        go_wp2
        go_ret
        exact ⟨rfl, bb⟩
theorem u32_nat {k : Int} (h : (Lit.int .u32 k).wf = true) : ∃ n : Nat, k = n ∧ n < 4294967296 := by
  simp [Lit.wf, IntKind.min, IntKind.max, IntKind.signed, IntKind.bits] at h
  exact ⟨k.toNat, by omega, by omega⟩
theorem expR_bad (b t : Nat) (r : Int) (h : expR b = (t, r)) (hr : r ≠ 0) : t = 0 ∧ r = 7 := by
  unfold expR at h
  split at h
  · injection h with h1 h2; exact ⟨h1.symm, h2.symm⟩
  · split at h
    · injection h with h1 h2; exact ⟨h1.symm, h2.symm⟩
    · injection h with h1 h2; exact absurd h2.symm hr
theorem work_is (t : Nat) (h : t + 1 < T) : (T - 1 - t) / (t + 1) + 1 = T / (t + 1) := by
  rw [show T - 1 - t = T - (t + 1) by omega]
  exact (Nat.div_eq_sub_div (by omega) (by omega)).symm
theorem TWork_walk (a : Int) (ha : (Lit.int .u32 a).wf = true) (b : Int) (hb : (Lit.int .u32 b).wf = true) (w : World) :
    Calls Try.prog 4 #[.int .u32 a, .int .u32 b] w fun e w' => e = .returned (.bool true) ∧ Below w.heap.size w w' := by
  obtain ⟨a, rfl, ka⟩ := u32_nat ha
  obtain ⟨b, rfl, kb⟩ := u32_nat hb
  obtain ⟨t, e, h⟩ : ∃ t e, expR a = (t, e) := ⟨_, _, rfl⟩
  obtain ⟨s, f, k⟩ : ∃ s f, expR b = (s, f) := ⟨_, _, rfl⟩
  have wb := Work_any b kb
  have wa := Work_any a ka
  by_cases he : e = 0
  · subst he
    obtain ⟨t1, t2⟩ := expR_good a t h
    have hT : 1 < T := by decide
    have hv : workR a = T / (t + 1) := by unfold workR; rw [h, if_pos rfl]; exact work_is t t2
    have hv0 : 0 < T / (t + 1) := Nat.div_pos (by omega) (by omega)
    have hvT : T / (t + 1) < T := Nat.div_lt_self (by omega) (by omega)
    have hq2 : (T - 1) / (t + 1) ≤ (T - 1) / 2 := Nat.div_le_div_left (by omega) (by omega)
    have hr2 := Nat.mod_lt (T - 1) (show t + 1 > 0 by omega)
    have hz : workR b < T := by
      unfold workR
      split
      · have := Nat.div_le_self (T - 1 - (expR b).1) ((expR b).1 + 1)
        have h1 := Nat.div_le_self (T - 1) 1
        have h2 := expR_good b s (by rw [k]; rename_i hf; rw [k] at hf; exact congrArg _ hf)
        rw [k] at *
        dsimp only at *
        omega
      · decide
    have hdm := Nat.div_add_mod (T - 1) (t + 1)
    have hcase : T / (t + 1) = (T - 1) / (t + 1) ∨ T / (t + 1) = (T - 1) / (t + 1) + 1 ∧ (T - 1) % (t + 1) + 1 = t + 1 := by
      by_cases hl : (T - 1) % (t + 1) + 1 = t + 1
      · right
        refine ⟨?_, hl⟩
        have : T = (t + 1) * ((T - 1) / (t + 1) + 1) := by rw [Nat.mul_add, Nat.mul_one]; omega
        rw [this, Nat.mul_div_cancel_left _ (by omega)]
        congr 1
        rw [← this]
      · left
        have : T = (t + 1) * ((T - 1) / (t + 1)) + ((T - 1) % (t + 1) + 1) := by omega
        rw [this, Nat.mul_add_div (by omega), Nat.div_eq_of_lt (show (T - 1) % (t + 1) + 1 < t + 1 by omega), ← this]
        rfl
    obtain ⟨c1, hc1⟩ := cmp_ex t s (by omega) (by have := expR_lt b; rw [k] at this; exact this)
    obtain ⟨c2, hc2⟩ := cmp_ex (T / (t + 1)) (workR b) hvT hz
    rw [hv] at wa
    refine TWork_good a b t s (T / (t + 1)) (workR b) (t + 1) (T - 1) ((T - 1) / (t + 1)) ((T - 1) % (t + 1)) ((T - 1) / (t + 1) + 1) ((T - 1) % (t + 1) + 1) f c1 c2 _ _ _ ⟨hc1, hc2⟩ ?_ ⟨ka, h, kb, k, wa, wb, ⟨by omega, by omega, t2, by simp⟩, by omega, ⟨by omega, t2, .inr ⟨by omega, rfl, rfl, rfl⟩⟩, ⟨by omega, by omega, by omega, by simp⟩, ⟨by omega, by omega, by omega, by simp⟩,
      fun w => eqU _ _ _ hvT (by omega) rfl w, fun w => eqU _ _ _ hvT (by omega) rfl w, fun w => eqU _ _ _ (by omega) t2 rfl w, fun w => eqU0 _ false hvT (by simp; omega) w, ?_⟩ w
    · rcases hcase with h1 | ⟨h1, h2⟩
      · exact .inl (decide_eq_true h1)
      · exact .inr ⟨decide_eq_true h1, decide_eq_true h2⟩
    · intro hf hc
      subst hf
      obtain ⟨s1, s2⟩ := expR_good b s k
      have hw : workR b = T / (s + 1) := by unfold workR; rw [k, if_pos rfl]; exact work_is s s2
      have f1 := cmp_facts hc1
      have f2 := cmp_facts hc2
      rw [hw] at f2
      have hle : T / (s + 1) ≤ T / (t + 1) := Nat.div_le_div_left (by omega) (by omega)
      apply decide_eq_true
      omega
  · obtain ⟨rfl, rfl⟩ := expR_bad a t e h he
    have hv : workR a = 0 := by unfold workR; rw [h, if_neg (by decide)]
    rw [hv] at wa
    exact TWork_bad a b s _ f ⟨ka, h, kb, k, wa, wb⟩ w
end Go.Proofs.Ytlkjcijbmfgjiaa
