/- What is divided is made again: the walk of U256Divides. -/
import Derived.Test.YtlnognioflfknaaLaw01a
import Derived.Test.YtlnognioflfknaaU256h
import Derived.Test.YtlnognioflfknaaInv
namespace Go.Proofs.Ytlnognioflfknaa
open Go.RowKit
set_option linter.unusedVariables false

abbrev DivIs (m n q r : Nat) (b : Bool) : Prop := m < T ∧ n < T ∧ ((n = 0 ∧ q = 0 ∧ r = 0 ∧ b = false) ∨ (0 < n ∧ q = m / n ∧ r = m % n ∧ b = true))
theorem div_ex (m n : Nat) (hm : m < T) (hn : n < T) : ∃ q r b, DivIs m n q r b := by
  by_cases h : n = 0
  · exact ⟨0, 0, false, hm, hn, .inl ⟨h, rfl, rfl, rfl⟩⟩
  · exact ⟨_, _, true, hm, hn, .inr ⟨by omega, rfl, rfl, rfl⟩⟩
theorem DivU_is (m n q r : Nat) (b : Bool) (w : World) (h : DivIs m n q r b) : Calls Try.prog 35 #[uval m, uval n] w fun e w' => e = .returned (.tuple #[uval q, uval r, .bool b]) ∧ Below w.heap.size w w' := by
  obtain ⟨hm, hn, ⟨rfl, rfl, rfl, rfl⟩ | ⟨h0, rfl, rfl, rfl⟩⟩ := h
  · exact Div_none m w hm
  · exact DivU_any m n w hm hn h0
theorem i26 (n : Nat) : (Try.prog.info? 26).map (·.size) = some (ucells n).size := by kernel_rfl
theorem alloc_run (A : Act) (o : Oper) (ho : o.op = .alloc 26) (w : World) : (execOp A.eval o).run Try.prog w = .ok (.value (.pointer (some ⟨w.heap.size, 0, none⟩))) (w.alloc (.cells zero4 26)) := by
  unfold execOp
  simp only [ho]
  simp [Instr.alloc, go_sem, Try.zeroValue26]
  done
-- WALK
theorem i24 (n : Nat) : (Try.prog.info? 24).map (·.size) = some (ucells n).size := by kernel_rfl
theorem uc_one (n : Nat) : (ucells n).all (·.oneCell') = true := by simp [ucells, Value.oneCell']
theorem args1 {A : Act} {x : Operand} {u : Value} (h1 : A.eval x = u) : #[x].map A.eval = #[u] := by simp [h1]
theorem args2 {A : Act} {x y : Operand} {u v : Value} (h1 : A.eval x = u) (h2 : A.eval y = v) : #[x, y].map A.eval = #[u, v] := by simp [h1, h2]

set_option maxRecDepth 100000 in
set_option maxHeartbeats 1000000 in
theorem Divides_core (m n k : Nat) (w : World) (q r : Nat) (ok : Bool) (HK : k < W64) (HS : Hid (DivIs m k q r ok)) (m1 s : Nat) (lost over : Bool) (c : Int) (HC : Hid (ProdIs q k m1 lost ∧ SumIs m1 r s over)) (HD : Hid (CmpIs r k c)) (hcn : ok = true → c < 0)
    (HK0 : (ok = false ∧ k = 0) ∨ (ok = true ∧ 0 < k ∧ lost = false ∧ over = false ∧ s = m)) (p t2 d : Nat) (is bo : Bool) (c2 : Int) (HT : Hid (DivIs m n p t2 is ∧ DiffIs m t2 d bo ∧ DivIs d n p 0 is ∧ decide (n = 0) = (!is) ∧ p ≤ m ∧ CmpIs t2 n c2 ∧ (is = true → c2 < 0))) :
    Calls Try.prog 7 #[uval m, uval n, .int .u64 k] w fun e w' => e = .returned (.bool true) ∧ Below w.heap.size w w' := by
  unfold uval
  go_enter Try.func7, Try.ntmps7
  go_wp2_with fail
  refine (Awake01 _).mono ?_
  rintro e w1 ⟨rfl, hb⟩
  have q_a : Blk w1 (w.heap.size) 24 (ucells m) := ((Blk.newAt _ _ (ucells m) rfl).alloc _).calls hb
  have q_b : Blk w1 (w.heap.size + 1) 24 (ucells n) := (Blk.newAt _ _ (ucells n) (by simp)).calls hb
  have bb := bt (ba (ba (Below.refl w.heap.size w) _) _) hb
  replace l_a := q_a.lt
  replace l_b := q_b.lt
  clear hb
  have c_a := cl4 q_a
  go_wp2_with fail
  refine (Ours_any m _).mono ?_
  rintro e w2 ⟨rfl, hb⟩
  simp only [uval]
  clear c_a
  replace q_a : Blk w2 (w.heap.size) 24 (ucells m) := q_a.calls hb
  replace q_b : Blk w2 (w.heap.size + 1) 24 (ucells n) := q_b.calls hb
  replace bb := bt bb hb
  replace l_a := q_a.lt
  replace l_b := q_b.lt
  clear hb
  have c_b := cl4 q_b
  go_wp2_with fail
  refine (Ours_any n _).mono ?_
  rintro e w3 ⟨rfl, hb⟩
  simp only [uval]
  clear c_b
  replace q_a : Blk w3 (w.heap.size) 24 (ucells m) := (q_a.alloc _).calls hb
  replace q_b : Blk w3 (w.heap.size + 1) 24 (ucells n) := (q_b.alloc _).calls hb
  have q_x : Blk w3 (w2.heap.size) 26 (ucells m) := (Blk.newAt w2 _ (ucells m) rfl).calls hb
  replace bb := bt (ba bb _) hb
  replace l_a := q_a.lt
  replace l_b := q_b.lt
  replace l_x := q_x.lt
  clear hb
  go_wp2_with fail
  change Code.wp _ _ _ _ (w3.alloc (Obj.cells (ucells n) 26))
  replace q_a : Blk (w3.alloc (Obj.cells (ucells n) 26)) (w.heap.size) 24 (ucells m) := (q_a.alloc _)
  replace q_b : Blk (w3.alloc (Obj.cells (ucells n) 26)) (w.heap.size + 1) 24 (ucells n) := (q_b.alloc _)
  replace q_x : Blk (w3.alloc (Obj.cells (ucells n) 26)) (w2.heap.size) 26 (ucells m) := (q_x.alloc _)
  have q_y : Blk (w3.alloc (Obj.cells (ucells n) 26)) (w3.heap.size) 26 (ucells n) := (Blk.newAt w3 _ (ucells n) rfl)
  replace bb : Below w.heap.size w (w3.alloc (Obj.cells (ucells n) 26)) := (ba bb _)
  generalize (w3.alloc (Obj.cells (ucells n) 26)) = w4 at *
  replace l_a := q_a.lt
  replace l_b := q_b.lt
  replace l_x := q_x.lt
  replace l_y := q_y.lt
  refine wp_region_new [some 31, some 32, some 33, some 34, some 30, some 35, some 36, some 37, some 10, some 11, none, none, some 12] [⟨8, 10, 26, zero4, ucells q⟩, ⟨9, 11, 26, zero4, ucells r⟩] (fun i => ([uval m, .int .u64 k, uval k, .tuple #[uval q, uval r, .bool ok], .tuple #[uval q, uval r, .bool ok], uval q, uval r, .bool ok, undef, undef, undef, undef, .bool ok] : List Value).getD i undef) (by kernel_rfl) rfl rfl rfl rfl rfl rfl rfl ⟨
    .inr (.inr ⟨rfl, rfl, fun A w' hb hs ho => op_load _ (.tmp 8) rfl ((ho 8 rfl).trans rfl) (q_x.below hb q_x.lt) Try.underlying26 (i26 _)⟩),
    .inr (.inr ⟨rfl, rfl, fun A w' hb hs ho => op_move _ (.inl rfl) ((ho 2 rfl).trans rfl)⟩),
    .inr (.inr ⟨rfl, rfl, fun A w' hb hs ho => op_call 25 _ (exec_call _ 25 _ rfl rfl (args1 (hs 1 rfl rfl _ rfl)) Try.func25 rfl rfl) (Of_any k _ HK)⟩),
    .inr (.inr ⟨rfl, rfl, fun A w' hb hs ho => op_call 35 _ (exec_call _ 35 _ rfl rfl (args2 (hs 0 rfl rfl _ rfl) (hs 2 rfl rfl _ rfl)) Try.func35 rfl rfl) (DivU_is m k q r ok _ HS.out)⟩),
    .inr (.inr ⟨rfl, rfl, fun A w' hb hs ho => op_move _ (.inl rfl) (hs 3 rfl rfl _ rfl)⟩),
    .inr (.inr ⟨rfl, rfl, fun A w' hb hs ho => op_extract _ 0 _ rfl (hs 4 rfl rfl _ rfl) rfl⟩),
    .inr (.inr ⟨rfl, rfl, fun A w' hb hs ho => op_extract _ 1 _ rfl (hs 4 rfl rfl _ rfl) rfl⟩),
    .inr (.inr ⟨rfl, rfl, fun A w' hb hs ho => op_extract _ 2 _ rfl (hs 4 rfl rfl _ rfl) rfl⟩),
    .inl ⟨_, List.mem_cons_self, rfl, fun A w => alloc_run A _ rfl w⟩,
    .inl ⟨_, (List.mem_cons_of_mem _ List.mem_cons_self), rfl, fun A w => alloc_run A _ rfl w⟩,
    .inr (.inl ⟨_, List.mem_cons_self, rfl, rfl, rfl, _, _, _, 5, rfl, rfl, rfl, rfl, rfl, rfl, rfl, i26 _, rfl, uc_one _⟩),
    .inr (.inl ⟨_, (List.mem_cons_of_mem _ List.mem_cons_self), rfl, rfl, rfl, _, _, _, 6, rfl, rfl, rfl, rfl, rfl, rfl, rfl, i26 _, rfl, uc_one _⟩),
    .inr (.inr ⟨rfl, rfl, fun A w' hb hs ho => op_move _ (.inr rfl) (hs 7 rfl rfl _ rfl)⟩),
    trivial⟩ ?_
  intro γ w5 hb hn hd
  replace q_a : Blk w5 (w.heap.size) 24 (ucells m) := q_a.calls hb
  replace q_b : Blk w5 (w.heap.size + 1) 24 (ucells n) := q_b.calls hb
  replace q_x : Blk w5 (w2.heap.size) 26 (ucells m) := q_x.calls hb
  replace q_y : Blk w5 (w3.heap.size) 26 (ucells n) := q_y.calls hb
  replace bb := bt bb hb
  obtain ⟨u_q, q_q⟩ := hn _ List.mem_cons_self
  obtain ⟨u_r, q_r⟩ := hn _ (List.mem_cons_of_mem _ List.mem_cons_self)
  clear hn hd hb
  simp only [Fr, if_true, vN, isAl, List.any_cons, List.any_nil, Act.put, List.setIfInBounds_toArray, List.set_cons_zero, List.set_cons_succ, List.getD_cons_zero, List.getD_cons_succ]
  generalize γ 8 = g_q at *
  generalize γ 9 = g_r at *
  replace l_a := q_a.lt
  replace l_b := q_b.lt
  replace l_x := q_x.lt
  replace l_y := q_y.lt
  replace l_q := q_q.lt
  replace l_r := q_r.lt
  clear q_a l_a
  clear q_b l_b
  have c_q := cl4 q_q
  go_wp2_with fail
  refine (MulU_any q k m1 lost _ HC.out.1).mono ?_
  rintro e w6 ⟨rfl, hb⟩
  simp only [uval]
  clear c_q
  replace q_x : Blk w6 (w2.heap.size) 26 (ucells m) := q_x.calls hb
  replace q_y : Blk w6 (w3.heap.size) 26 (ucells n) := q_y.calls hb
  replace q_q : Blk w6 (g_q) 26 (ucells q) := q_q.calls hb
  replace q_r : Blk w6 (g_r) 26 (ucells r) := q_r.calls hb
  replace bb := bt bb hb
  replace l_x := q_x.lt
  replace l_y := q_y.lt
  replace l_q := q_q.lt
  replace l_r := q_r.lt
  clear hb
  clear q_q l_q
  have c_r := cl4 q_r
  go_wp2_with fail
  refine (Add_any m1 r s over _ HC.out.2).mono ?_
  rintro e w7 ⟨rfl, hb⟩
  simp only [uval]
  clear c_r
  replace q_x : Blk w7 (w2.heap.size) 26 (ucells m) := (q_x.alloc _).calls hb
  replace q_y : Blk w7 (w3.heap.size) 26 (ucells n) := (q_y.alloc _).calls hb
  replace q_r : Blk w7 (g_r) 26 (ucells r) := (q_r.alloc _).calls hb
  have q_m1 : Blk w7 (w6.heap.size) 26 (ucells m1) := (Blk.newAt w6 _ (ucells m1) rfl).calls hb
  replace bb := bt (ba bb _) hb
  replace l_x := q_x.lt
  replace l_y := q_y.lt
  replace l_r := q_r.lt
  replace l_m1 := q_m1.lt
  clear hb
  go_wp2_with fail
  change Code.wp _ _ _ _ (w7.alloc (Obj.cells (ucells s) 26))
  replace q_x : Blk (w7.alloc (Obj.cells (ucells s) 26)) (w2.heap.size) 26 (ucells m) := (q_x.alloc _)
  replace q_y : Blk (w7.alloc (Obj.cells (ucells s) 26)) (w3.heap.size) 26 (ucells n) := (q_y.alloc _)
  replace q_r : Blk (w7.alloc (Obj.cells (ucells s) 26)) (g_r) 26 (ucells r) := (q_r.alloc _)
  replace q_m1 : Blk (w7.alloc (Obj.cells (ucells s) 26)) (w6.heap.size) 26 (ucells m1) := (q_m1.alloc _)
  have q_s : Blk (w7.alloc (Obj.cells (ucells s) 26)) (w7.heap.size) 26 (ucells s) := (Blk.newAt w7 _ (ucells s) rfl)
  replace bb : Below w.heap.size w (w7.alloc (Obj.cells (ucells s) 26)) := (ba bb _)
  generalize (w7.alloc (Obj.cells (ucells s) 26)) = w8 at *
  replace l_x := q_x.lt
  replace l_y := q_y.lt
  replace l_r := q_r.lt
  replace l_m1 := q_m1.lt
  replace l_s := q_s.lt
  have ex := fun w => eqU s m (decide (s = m)) (by have := HC.out; omega) (by have := HS.out; omega) rfl w
  rcases HK0 with ⟨h1, h2⟩ | ⟨h1, h2, h3, h4, h5⟩
  · obtain rfl := h1
    have hk : ((k : Int) != 0) = false := by rw [h2]; rfl
    have K0 := Lib.hid h2; clear h2
    go_wp2_with fail
    try simp only [List.append_eq, List.cons_append, List.nil_append]
    refine wp_region_class (fun w' => Below w8.heap.size w8 w') (by kernel_rfl) (by kernel_rfl) (Below.refl _ _).drew ?_
    intro Idx hI V hS hcl
    have f_x := fun n => cl4 (q_x.below (hS n) l_x)
    have f_s := fun n => cl4 (q_s.below (hS n) l_s)
    have f_r := fun n => cl4 (q_r.below (hS n) l_r)
    repeat go_big_quiet_step (first | (go_at_call 25; (with_reducible refine Calls.cls (Of_any k _ HK) ?_); intro w' hb; exact hcl w' (bt (hS _) hb)) | (go_at_call 15; (with_reducible refine Calls.cls (Cmp_any r k c _ HD.out) ?_); intro w' hb; exact hcl w' (bt (hS _) hb)))
    refine wpQuiet_nil ?_
    rintro _ ⟨nq, rfl⟩
    have hb := hS nq
    clear hcl hS f_x f_s f_r
    replace q_x : Blk (V nq) (w2.heap.size) 26 (ucells m) := q_x.calls hb
    replace q_y : Blk (V nq) (w3.heap.size) 26 (ucells n) := q_y.calls hb
    replace q_r : Blk (V nq) (g_r) 26 (ucells r) := q_r.calls hb
    replace q_m1 : Blk (V nq) (w6.heap.size) 26 (ucells m1) := q_m1.calls hb
    replace q_s : Blk (V nq) (w7.heap.size) 26 (ucells s) := q_s.calls hb
    replace bb := bt bb hb
    clear hb
    generalize V nq = w9 at *
    replace l_x := q_x.lt
    replace l_y := q_y.lt
    replace l_r := q_r.lt
    replace l_m1 := q_m1.lt
    replace l_s := q_s.lt
    clear q_r l_r
    clear q_m1 l_m1
    clear q_s l_s
    have c_x := cl4 q_x
    have c_y := cl4 q_y
    go_wp2_with fail
    refine (DivU_is m n p t2 is _ HT.out.1).mono ?_
    rintro e w10 ⟨rfl, hb⟩
    simp only [uval]
    clear c_x c_y
    replace q_x : Blk w10 (w2.heap.size) 26 (ucells m) := q_x.calls hb
    replace q_y : Blk w10 (w3.heap.size) 26 (ucells n) := q_y.calls hb
    replace bb := bt bb hb
    replace l_x := q_x.lt
    replace l_y := q_y.lt
    clear hb
    have c_x := cl4 q_x
    go_wp2_with fail
    refine (Sub_any m t2 d bo _ HT.out.2.1).mono ?_
    rintro e w11 ⟨rfl, hb⟩
    simp only [uval]
    clear c_x
    replace q_x : Blk w11 (w2.heap.size) 26 (ucells m) := ((q_x.alloc _).alloc _).calls hb
    replace q_y : Blk w11 (w3.heap.size) 26 (ucells n) := ((q_y.alloc _).alloc _).calls hb
    have q_p : Blk w11 (w10.heap.size) 26 (ucells p) := ((Blk.newAt w10 _ (ucells p) rfl).alloc _).calls hb
    have q_t : Blk w11 (w10.heap.size + 1) 26 (ucells t2) := (Blk.newAt (w10.alloc (Obj.cells (ucells p) 26)) _ (ucells t2) (by simp)).calls hb
    replace bb := bt (ba (ba bb _) _) hb
    replace l_x := q_x.lt
    replace l_y := q_y.lt
    replace l_p := q_p.lt
    replace l_t := q_t.lt
    clear hb
    have c_y := cl4 q_y
    go_wp2_with fail
    refine (DivU_is d n p 0 is _ HT.out.2.2.1).mono ?_
    rintro e w12 ⟨rfl, hb⟩
    simp only [uval]
    clear c_y
    replace q_x : Blk w12 (w2.heap.size) 26 (ucells m) := (q_x.alloc _).calls hb
    replace q_y : Blk w12 (w3.heap.size) 26 (ucells n) := (q_y.alloc _).calls hb
    replace q_p : Blk w12 (w10.heap.size) 26 (ucells p) := (q_p.alloc _).calls hb
    replace q_t : Blk w12 (w10.heap.size + 1) 26 (ucells t2) := (q_t.alloc _).calls hb
    have q_d : Blk w12 (w11.heap.size) 26 (ucells d) := (Blk.newAt w11 _ (ucells d) rfl).calls hb
    replace bb := bt (ba bb _) hb
    replace l_x := q_x.lt
    replace l_y := q_y.lt
    replace l_p := q_p.lt
    replace l_t := q_t.lt
    replace l_d := q_d.lt
    clear hb
    have ep := eqU p p true (Nat.lt_of_le_of_lt HT.out.2.2.2.2.1 HT.out.1.1) (Nat.lt_of_le_of_lt HT.out.2.2.2.2.1 HT.out.1.1) (by simp)
    have ey := eqU0 n (!is) HT.out.1.2.1 HT.out.2.2.2.1
    have ez := eqU0 0 true (by decide) (by simp)
    cases is
    · skip
      have c_y := cl4 q_y
      go_wp2
      go_ret
      exact ⟨rfl, (ba (ba bb _) _)⟩
    · skip
      have c_t := cl4 q_t
      have c_y := cl4 q_y
      go_wp2_with fail
      refine (Cmp_any t2 n c2 _ HT.out.2.2.2.2.2.1).mono ?_
      rintro e w13 ⟨rfl, hb⟩
      clear c_t c_y
      replace q_x : Blk w13 (w2.heap.size) 26 (ucells m) := ((q_x.alloc _).alloc _).calls hb
      replace q_y : Blk w13 (w3.heap.size) 26 (ucells n) := ((q_y.alloc _).alloc _).calls hb
      replace q_p : Blk w13 (w10.heap.size) 26 (ucells p) := ((q_p.alloc _).alloc _).calls hb
      replace q_t : Blk w13 (w10.heap.size + 1) 26 (ucells t2) := ((q_t.alloc _).alloc _).calls hb
      replace q_d : Blk w13 (w11.heap.size) 26 (ucells d) := ((q_d.alloc _).alloc _).calls hb
      have q_o : Blk w13 (w12.heap.size) 26 (ucells p) := ((Blk.newAt w12 _ (ucells p) rfl).alloc _).calls hb
      have q_z : Blk w13 (w12.heap.size + 1) 26 (ucells 0) := (Blk.newAt (w12.alloc (Obj.cells (ucells p) 26)) _ (ucells 0) (by simp)).calls hb
      replace bb := bt (ba (ba bb _) _) hb
      replace l_x := q_x.lt
      replace l_y := q_y.lt
      replace l_p := q_p.lt
      replace l_t := q_t.lt
      replace l_d := q_d.lt
      replace l_o := q_o.lt
      replace l_z := q_z.lt
      clear hb
      have hc2 : c2 < 0 := HT.out.2.2.2.2.2.2 (by simp)
      have c_o := cl4 q_o; have c_p := cl4 q_p; have c_z := cl4 q_z; have c_y := cl4 q_y
      go_wp2
      go_ret
      exact ⟨rfl, bb⟩
  · obtain rfl := h1
    obtain rfl := h3; obtain rfl := h4; have h6 := h5.symm; clear h5; subst h6
    have hk : ((k : Int) != 0) = true := by simp; omega
    have hc := hcn rfl
    have ed : decide (m = m) = true := by simp
    rw [ed] at ex
    have K0 := Lib.hid h2; clear h2 ed
    go_wp2_with fail
    try simp only [List.append_eq, List.cons_append, List.nil_append]
    refine wp_region_class (fun w' => Below w8.heap.size w8 w') (by kernel_rfl) (by kernel_rfl) (Below.refl _ _).drew ?_
    intro Idx hI V hS hcl
    have f_x := fun n => cl4 (q_x.below (hS n) l_x)
    have f_s := fun n => cl4 (q_s.below (hS n) l_s)
    have f_r := fun n => cl4 (q_r.below (hS n) l_r)
    repeat go_big_quiet_step (first | (go_at_call 25; (with_reducible refine Calls.cls (Of_any k _ HK) ?_); intro w' hb; exact hcl w' (bt (hS _) hb)) | (go_at_call 15; (with_reducible refine Calls.cls (Cmp_any r k c _ HD.out) ?_); intro w' hb; exact hcl w' (bt (hS _) hb)))
    refine wpQuiet_nil ?_
    rintro _ ⟨nq, rfl⟩
    have hb := hS nq
    clear hcl hS f_x f_s f_r
    replace q_x : Blk (V nq) (w2.heap.size) 26 (ucells m) := q_x.calls hb
    replace q_y : Blk (V nq) (w3.heap.size) 26 (ucells n) := q_y.calls hb
    replace q_r : Blk (V nq) (g_r) 26 (ucells r) := q_r.calls hb
    replace q_m1 : Blk (V nq) (w6.heap.size) 26 (ucells m1) := q_m1.calls hb
    replace q_s : Blk (V nq) (w7.heap.size) 26 (ucells m) := q_s.calls hb
    replace bb := bt bb hb
    clear hb
    generalize V nq = w9 at *
    replace l_x := q_x.lt
    replace l_y := q_y.lt
    replace l_r := q_r.lt
    replace l_m1 := q_m1.lt
    replace l_s := q_s.lt
    clear q_r l_r
    clear q_m1 l_m1
    clear q_s l_s
    have c_x := cl4 q_x
    have c_y := cl4 q_y
    go_wp2_with fail
    refine (DivU_is m n p t2 is _ HT.out.1).mono ?_
    rintro e w10 ⟨rfl, hb⟩
    simp only [uval]
    clear c_x c_y
    replace q_x : Blk w10 (w2.heap.size) 26 (ucells m) := q_x.calls hb
    replace q_y : Blk w10 (w3.heap.size) 26 (ucells n) := q_y.calls hb
    replace bb := bt bb hb
    replace l_x := q_x.lt
    replace l_y := q_y.lt
    clear hb
    have c_x := cl4 q_x
    go_wp2_with fail
    refine (Sub_any m t2 d bo _ HT.out.2.1).mono ?_
    rintro e w11 ⟨rfl, hb⟩
    simp only [uval]
    clear c_x
    replace q_x : Blk w11 (w2.heap.size) 26 (ucells m) := ((q_x.alloc _).alloc _).calls hb
    replace q_y : Blk w11 (w3.heap.size) 26 (ucells n) := ((q_y.alloc _).alloc _).calls hb
    have q_p : Blk w11 (w10.heap.size) 26 (ucells p) := ((Blk.newAt w10 _ (ucells p) rfl).alloc _).calls hb
    have q_t : Blk w11 (w10.heap.size + 1) 26 (ucells t2) := (Blk.newAt (w10.alloc (Obj.cells (ucells p) 26)) _ (ucells t2) (by simp)).calls hb
    replace bb := bt (ba (ba bb _) _) hb
    replace l_x := q_x.lt
    replace l_y := q_y.lt
    replace l_p := q_p.lt
    replace l_t := q_t.lt
    clear hb
    have c_y := cl4 q_y
    go_wp2_with fail
    refine (DivU_is d n p 0 is _ HT.out.2.2.1).mono ?_
    rintro e w12 ⟨rfl, hb⟩
    simp only [uval]
    clear c_y
    replace q_x : Blk w12 (w2.heap.size) 26 (ucells m) := (q_x.alloc _).calls hb
    replace q_y : Blk w12 (w3.heap.size) 26 (ucells n) := (q_y.alloc _).calls hb
    replace q_p : Blk w12 (w10.heap.size) 26 (ucells p) := (q_p.alloc _).calls hb
    replace q_t : Blk w12 (w10.heap.size + 1) 26 (ucells t2) := (q_t.alloc _).calls hb
    have q_d : Blk w12 (w11.heap.size) 26 (ucells d) := (Blk.newAt w11 _ (ucells d) rfl).calls hb
    replace bb := bt (ba bb _) hb
    replace l_x := q_x.lt
    replace l_y := q_y.lt
    replace l_p := q_p.lt
    replace l_t := q_t.lt
    replace l_d := q_d.lt
    clear hb
    have ep := eqU p p true (Nat.lt_of_le_of_lt HT.out.2.2.2.2.1 HT.out.1.1) (Nat.lt_of_le_of_lt HT.out.2.2.2.2.1 HT.out.1.1) (by simp)
    have ey := eqU0 n (!is) HT.out.1.2.1 HT.out.2.2.2.1
    have ez := eqU0 0 true (by decide) (by simp)
    cases is
    · skip
      have c_y := cl4 q_y
      go_wp2
      go_ret
      exact ⟨rfl, (ba (ba bb _) _)⟩
    · skip
      have c_t := cl4 q_t
      have c_y := cl4 q_y
      go_wp2_with fail
      refine (Cmp_any t2 n c2 _ HT.out.2.2.2.2.2.1).mono ?_
      rintro e w13 ⟨rfl, hb⟩
      clear c_t c_y
      replace q_x : Blk w13 (w2.heap.size) 26 (ucells m) := ((q_x.alloc _).alloc _).calls hb
      replace q_y : Blk w13 (w3.heap.size) 26 (ucells n) := ((q_y.alloc _).alloc _).calls hb
      replace q_p : Blk w13 (w10.heap.size) 26 (ucells p) := ((q_p.alloc _).alloc _).calls hb
      replace q_t : Blk w13 (w10.heap.size + 1) 26 (ucells t2) := ((q_t.alloc _).alloc _).calls hb
      replace q_d : Blk w13 (w11.heap.size) 26 (ucells d) := ((q_d.alloc _).alloc _).calls hb
      have q_o : Blk w13 (w12.heap.size) 26 (ucells p) := ((Blk.newAt w12 _ (ucells p) rfl).alloc _).calls hb
      have q_z : Blk w13 (w12.heap.size + 1) 26 (ucells 0) := (Blk.newAt (w12.alloc (Obj.cells (ucells p) 26)) _ (ucells 0) (by simp)).calls hb
      replace bb := bt (ba (ba bb _) _) hb
      replace l_x := q_x.lt
      replace l_y := q_y.lt
      replace l_p := q_p.lt
      replace l_t := q_t.lt
      replace l_d := q_d.lt
      replace l_o := q_o.lt
      replace l_z := q_z.lt
      clear hb
      have hc2 : c2 < 0 := HT.out.2.2.2.2.2.2 (by simp)
      have c_o := cl4 q_o; have c_p := cl4 q_p; have c_z := cl4 q_z; have c_y := cl4 q_y
      go_wp2
      go_ret
      exact ⟨rfl, bb⟩
end Go.Proofs.Ytlnognioflfknaa
