/- Sums, differences, products are the document's: the walk of U256Is. -/
import Derived.Test.YtlnognioflfknaaRefM
import Derived.Test.YtlnognioflfknaaLaw01Div
namespace Go.Proofs.Ytlnognioflfknaa
open Go.RowKit
set_option linter.unusedVariables false
theorem eqR (m n : Nat) (b : Bool) (hm : m < T) (hn : n < T) (h : decide (m = n) = b) (w : World) : (Op.equalIn 10000 24 (.agg #[.int .u64 (lim m 0), .int .u64 (lim m 1), .int .u64 (lim m 2), .int .u64 (lim m 3)]) (.agg #[.int .u64 (lim n 0), .int .u64 (lim n 1), .int .u64 (lim n 2), .int .u64 (lim n 3)])).run Try.prog w = .ok b w :=
  run_eqInts w .u64 .u64 (by kernel_rfl) Try.underlying22 Try.underlying24 rfl (by kernel_rfl) (fun i => lim m i) (fun i => lim n i) (ucells m) (ucells n)
    (fun i hi => ⟨ucells_at m i hi, ucells_at n i hi⟩) b (parts_eq m n hm hn b h)
set_option maxRecDepth 100000 in
set_option maxHeartbeats 4000000 in
theorem Is_core (m n k s d p r : Nat) (c e g : Bool) (cc : Int) (w : World) (HS : Hid (SumIs m n s c ∧ DiffIs m n d e ∧ ProdIs m k p g ∧ CmpIs m n cc ∧ m + r + 1 = T ∧ m < T ∧ k < W64)) :
    Calls Try.prog 4 #[uval m, uval n, .int .u64 k] w fun e w' => e = .returned (.bool true) ∧ Below w.heap.size w w' := by
  have es := fun w => eqR s s true HS.out.1.2.2.1 HS.out.1.2.2.1 (by simp) w
  have ed := fun w => eqR d d true HS.out.2.1.2.2.1 HS.out.2.1.2.2.1 (by simp) w
  have ep := fun w => eqR p p true HS.out.2.2.1.2.2.1 HS.out.2.2.1.2.2.1 (by simp) w
  have er := fun w => eqR r r true (by have := HS.out.2.2.2.2.1; omega) (by have := HS.out.2.2.2.2.1; omega) (by simp) w
  have ek := fun w => eqR k k true (by have := HS.out.2.2.2.2.2.2; unfold W64 at this; unfold T; omega) (by have := HS.out.2.2.2.2.2.2; unfold W64 at this; unfold T; omega) (by simp) w
  unfold uval
  go_enter Try.func4, Try.ntmps4
  go_wp2_with fail
  refine (Awake01 _).mono ?_
  rintro e w1 ⟨rfl, hb⟩
  have q_a : Blk w1 (w.heap.size) 24 (ucells m) := ((Blk.newAt _ _ (ucells m) rfl).alloc _).calls hb
  have q_b : Blk w1 (w.heap.size + 1) 24 (ucells n) := (Blk.newAt _ _ (ucells n) (by simp)).calls hb
  have bb := bt (ba (ba (Below.refl w.heap.size w) _) _) hb
  replace l_a := q_a.lt
  replace l_b := q_b.lt
  clear hb
  have c_a := cl4 q_a
  go_wp2_with fail
  refine (Ours_any m _).mono ?_
  rintro e w2 ⟨rfl, hb⟩
  simp only [uval]
  clear c_a
  replace q_a : Blk w2 (w.heap.size) 24 (ucells m) := q_a.calls hb
  replace q_b : Blk w2 (w.heap.size + 1) 24 (ucells n) := q_b.calls hb
  replace bb := bt bb hb
  replace l_a := q_a.lt
  replace l_b := q_b.lt
  clear hb
  have c_b := cl4 q_b
  go_wp2_with fail
  refine (Ours_any n _).mono ?_
  rintro e w3 ⟨rfl, hb⟩
  simp only [uval]
  clear c_b
  replace q_a : Blk w3 (w.heap.size) 24 (ucells m) := (q_a.alloc _).calls hb
  replace q_b : Blk w3 (w.heap.size + 1) 24 (ucells n) := (q_b.alloc _).calls hb
  have q_x : Blk w3 (w2.heap.size) 26 (ucells m) := (Blk.newAt w2 _ (ucells m) rfl).calls hb
  replace bb := bt (ba bb _) hb
  replace l_a := q_a.lt
  replace l_b := q_b.lt
  replace l_x := q_x.lt
  clear hb
  have c_x := cl4 q_x
  go_wp2_with fail
  refine (Add_any m n s c _ HS.out.1).mono ?_
  rintro e w4 ⟨rfl, hb⟩
  simp only [uval]
  clear c_x
  replace q_a : Blk w4 (w.heap.size) 24 (ucells m) := (q_a.alloc _).calls hb
  replace q_b : Blk w4 (w.heap.size + 1) 24 (ucells n) := (q_b.alloc _).calls hb
  replace q_x : Blk w4 (w2.heap.size) 26 (ucells m) := (q_x.alloc _).calls hb
  have q_y : Blk w4 (w3.heap.size) 26 (ucells n) := (Blk.newAt w3 _ (ucells n) rfl).calls hb
  replace bb := bt (ba bb _) hb
  replace l_a := q_a.lt
  replace l_b := q_b.lt
  replace l_x := q_x.lt
  replace l_y := q_y.lt
  clear hb
  have c_a := cl4 q_a
  have c_b := cl4 q_b
  go_wp2_with fail
  refine (RAdd_any m n s c _ HS.out.1).mono ?_
  rintro e w5 ⟨rfl, hb⟩
  simp only [uval]
  clear c_a c_b
  replace q_a : Blk w5 (w.heap.size) 24 (ucells m) := (q_a.alloc _).calls hb
  replace q_b : Blk w5 (w.heap.size + 1) 24 (ucells n) := (q_b.alloc _).calls hb
  replace q_x : Blk w5 (w2.heap.size) 26 (ucells m) := (q_x.alloc _).calls hb
  replace q_y : Blk w5 (w3.heap.size) 26 (ucells n) := (q_y.alloc _).calls hb
  have q_s : Blk w5 (w4.heap.size) 26 (ucells s) := (Blk.newAt w4 _ (ucells s) rfl).calls hb
  replace bb := bt (ba bb _) hb
  replace l_a := q_a.lt
  replace l_b := q_b.lt
  replace l_x := q_x.lt
  replace l_y := q_y.lt
  replace l_s := q_s.lt
  clear hb
  have c_x := cl4 q_x
  have c_y := cl4 q_y
  go_wp2_with fail
  refine (Sub_any m n d e _ HS.out.2.1).mono ?_
  rintro e w6 ⟨rfl, hb⟩
  simp only [uval]
  clear c_x c_y
  replace q_a : Blk w6 (w.heap.size) 24 (ucells m) := (q_a.alloc _).calls hb
  replace q_b : Blk w6 (w.heap.size + 1) 24 (ucells n) := (q_b.alloc _).calls hb
  replace q_x : Blk w6 (w2.heap.size) 26 (ucells m) := (q_x.alloc _).calls hb
  replace q_y : Blk w6 (w3.heap.size) 26 (ucells n) := (q_y.alloc _).calls hb
  replace q_s : Blk w6 (w4.heap.size) 26 (ucells s) := (q_s.alloc _).calls hb
  have q_t : Blk w6 (w5.heap.size) 24 (ucells s) := (Blk.newAt w5 _ (ucells s) rfl).calls hb
  replace bb := bt (ba bb _) hb
  replace l_a := q_a.lt
  replace l_b := q_b.lt
  replace l_x := q_x.lt
  replace l_y := q_y.lt
  replace l_s := q_s.lt
  replace l_t := q_t.lt
  clear hb
  have c_a := cl4 q_a
  have c_b := cl4 q_b
  go_wp2_with fail
  refine (RSub_any m n d e _ HS.out.2.1).mono ?_
  rintro e w7 ⟨rfl, hb⟩
  simp only [uval]
  clear c_a c_b
  replace q_a : Blk w7 (w.heap.size) 24 (ucells m) := (q_a.alloc _).calls hb
  replace q_b : Blk w7 (w.heap.size + 1) 24 (ucells n) := (q_b.alloc _).calls hb
  replace q_x : Blk w7 (w2.heap.size) 26 (ucells m) := (q_x.alloc _).calls hb
  replace q_y : Blk w7 (w3.heap.size) 26 (ucells n) := (q_y.alloc _).calls hb
  replace q_s : Blk w7 (w4.heap.size) 26 (ucells s) := (q_s.alloc _).calls hb
  replace q_t : Blk w7 (w5.heap.size) 24 (ucells s) := (q_t.alloc _).calls hb
  have q_u : Blk w7 (w6.heap.size) 26 (ucells d) := (Blk.newAt w6 _ (ucells d) rfl).calls hb
  replace bb := bt (ba bb _) hb
  replace l_a := q_a.lt
  replace l_b := q_b.lt
  replace l_x := q_x.lt
  replace l_y := q_y.lt
  replace l_s := q_s.lt
  replace l_t := q_t.lt
  replace l_u := q_u.lt
  clear hb
  have c_x := cl4 q_x
  go_wp2_with fail
  refine (MulU_any m k p g _ HS.out.2.2.1).mono ?_
  rintro e w8 ⟨rfl, hb⟩
  simp only [uval]
  clear c_x
  replace q_a : Blk w8 (w.heap.size) 24 (ucells m) := (q_a.alloc _).calls hb
  replace q_b : Blk w8 (w.heap.size + 1) 24 (ucells n) := (q_b.alloc _).calls hb
  replace q_x : Blk w8 (w2.heap.size) 26 (ucells m) := (q_x.alloc _).calls hb
  replace q_y : Blk w8 (w3.heap.size) 26 (ucells n) := (q_y.alloc _).calls hb
  replace q_s : Blk w8 (w4.heap.size) 26 (ucells s) := (q_s.alloc _).calls hb
  replace q_t : Blk w8 (w5.heap.size) 24 (ucells s) := (q_t.alloc _).calls hb
  replace q_u : Blk w8 (w6.heap.size) 26 (ucells d) := (q_u.alloc _).calls hb
  have q_v : Blk w8 (w7.heap.size) 24 (ucells d) := (Blk.newAt w7 _ (ucells d) rfl).calls hb
  replace bb := bt (ba bb _) hb
  replace l_a := q_a.lt
  replace l_b := q_b.lt
  replace l_x := q_x.lt
  replace l_y := q_y.lt
  replace l_s := q_s.lt
  replace l_t := q_t.lt
  replace l_u := q_u.lt
  replace l_v := q_v.lt
  clear hb
  have c_a := cl4 q_a
  go_wp2_with fail
  refine (RMul_any m k p g _ HS.out.2.2.1).mono ?_
  rintro e w9 ⟨rfl, hb⟩
  simp only [uval]
  clear c_a
  replace q_a : Blk w9 (w.heap.size) 24 (ucells m) := (q_a.alloc _).calls hb
  replace q_b : Blk w9 (w.heap.size + 1) 24 (ucells n) := (q_b.alloc _).calls hb
  replace q_x : Blk w9 (w2.heap.size) 26 (ucells m) := (q_x.alloc _).calls hb
  replace q_y : Blk w9 (w3.heap.size) 26 (ucells n) := (q_y.alloc _).calls hb
  replace q_s : Blk w9 (w4.heap.size) 26 (ucells s) := (q_s.alloc _).calls hb
  replace q_t : Blk w9 (w5.heap.size) 24 (ucells s) := (q_t.alloc _).calls hb
  replace q_u : Blk w9 (w6.heap.size) 26 (ucells d) := (q_u.alloc _).calls hb
  replace q_v : Blk w9 (w7.heap.size) 24 (ucells d) := (q_v.alloc _).calls hb
  have q_pm : Blk w9 (w8.heap.size) 26 (ucells p) := (Blk.newAt w8 _ (ucells p) rfl).calls hb
  replace bb := bt (ba bb _) hb
  replace l_a := q_a.lt
  replace l_b := q_b.lt
  replace l_x := q_x.lt
  replace l_y := q_y.lt
  replace l_s := q_s.lt
  replace l_t := q_t.lt
  replace l_u := q_u.lt
  replace l_v := q_v.lt
  replace l_pm := q_pm.lt
  clear hb
  go_wp2_with fail
  change Code.wp _ _ _ _ (w9.alloc (Obj.cells (ucells p) 24))
  replace q_a : Blk (w9.alloc (Obj.cells (ucells p) 24)) (w.heap.size) 24 (ucells m) := (q_a.alloc _)
  replace q_b : Blk (w9.alloc (Obj.cells (ucells p) 24)) (w.heap.size + 1) 24 (ucells n) := (q_b.alloc _)
  replace q_x : Blk (w9.alloc (Obj.cells (ucells p) 24)) (w2.heap.size) 26 (ucells m) := (q_x.alloc _)
  replace q_y : Blk (w9.alloc (Obj.cells (ucells p) 24)) (w3.heap.size) 26 (ucells n) := (q_y.alloc _)
  replace q_s : Blk (w9.alloc (Obj.cells (ucells p) 24)) (w4.heap.size) 26 (ucells s) := (q_s.alloc _)
  replace q_t : Blk (w9.alloc (Obj.cells (ucells p) 24)) (w5.heap.size) 24 (ucells s) := (q_t.alloc _)
  replace q_u : Blk (w9.alloc (Obj.cells (ucells p) 24)) (w6.heap.size) 26 (ucells d) := (q_u.alloc _)
  replace q_v : Blk (w9.alloc (Obj.cells (ucells p) 24)) (w7.heap.size) 24 (ucells d) := (q_v.alloc _)
  replace q_pm : Blk (w9.alloc (Obj.cells (ucells p) 24)) (w8.heap.size) 26 (ucells p) := (q_pm.alloc _)
  have q_pn : Blk (w9.alloc (Obj.cells (ucells p) 24)) (w9.heap.size) 24 (ucells p) := (Blk.newAt w9 _ (ucells p) rfl)
  replace bb : Below w.heap.size w (w9.alloc (Obj.cells (ucells p) 24)) := (ba bb _)
  generalize (w9.alloc (Obj.cells (ucells p) 24)) = w10 at *
  replace l_a := q_a.lt
  replace l_b := q_b.lt
  replace l_x := q_x.lt
  replace l_y := q_y.lt
  replace l_s := q_s.lt
  replace l_t := q_t.lt
  replace l_u := q_u.lt
  replace l_v := q_v.lt
  replace l_pm := q_pm.lt
  replace l_pn := q_pn.lt
  go_wp2_with fail
  try simp only [List.append_eq, List.cons_append, List.nil_append]
  refine wp_region_class (fun w' => Below w10.heap.size w10 w') (by kernel_rfl) (by kernel_rfl) (Below.refl _ _).drew ?_
  intro Idx hI V hS hcl
  have f_a := fun n => cl4 (q_a.below (hS n) l_a)
  have f_b := fun n => cl4 (q_b.below (hS n) l_b)
  have f_x := fun n => cl4 (q_x.below (hS n) l_x)
  have f_y := fun n => cl4 (q_y.below (hS n) l_y)
  have f_s := fun n => cl4 (q_s.below (hS n) l_s)
  have f_t := fun n => cl4 (q_t.below (hS n) l_t)
  have f_u := fun n => cl4 (q_u.below (hS n) l_u)
  have f_v := fun n => cl4 (q_v.below (hS n) l_v)
  have f_pm := fun n => cl4 (q_pm.below (hS n) l_pm)
  have f_pn := fun n => cl4 (q_pn.below (hS n) l_pn)
  repeat go_big_quiet_step (first | (go_at_call 20; (with_reducible refine Calls.cls (RTheirs_any _ _) ?_); intro w' hb; exact hcl w' (bt (hS _) hb)) | (go_at_call 15; (with_reducible refine Calls.cls (Cmp_any m n cc _ HS.out.2.2.2.1) ?_); intro w' hb; exact hcl w' (bt (hS _) hb)) | (go_at_call 21; (with_reducible refine Calls.cls (RCmp_any m n cc _ HS.out.2.2.2.1) ?_); intro w' hb; exact hcl w' (bt (hS _) hb)) | (go_at_call 22; (with_reducible refine Calls.cls (Len_any m _ HS.out.2.2.2.2.2.1) ?_); intro w' hb; exact hcl w' (bt (hS _) hb)) | (go_at_call 23; (with_reducible refine Calls.cls (RLen_any m _ HS.out.2.2.2.2.2.1) ?_); intro w' hb; exact hcl w' (bt (hS _) hb)) | (go_at_call 14; (with_reducible refine Calls.cls (Not_any m r _ HS.out.2.2.2.2.1) ?_); intro w' hb; exact hcl w' (bt (hS _) hb)) | (go_at_call 24; (with_reducible refine Calls.cls (RNot_any m r _ HS.out.2.2.2.2.1) ?_); intro w' hb; exact hcl w' (bt (hS _) hb)) | (go_at_call 25; (with_reducible refine Calls.cls (Of_any k _ HS.out.2.2.2.2.2.2) ?_); intro w' hb; exact hcl w' (bt (hS _) hb)) | (go_at_call 26; (with_reducible refine Calls.cls (ROf_any k _ HS.out.2.2.2.2.2.2) ?_); intro w' hb; exact hcl w' (bt (hS _) hb)))
  refine wpQuiet_nil ?_
  rintro _ ⟨nq, rfl⟩
  have hb := hS nq
  clear hcl hS f_a f_b f_x f_y f_s f_t f_u f_v f_pm f_pn
  replace q_a : Blk (V nq) (w.heap.size) 24 (ucells m) := q_a.calls hb
  replace q_b : Blk (V nq) (w.heap.size + 1) 24 (ucells n) := q_b.calls hb
  replace q_x : Blk (V nq) (w2.heap.size) 26 (ucells m) := q_x.calls hb
  replace q_y : Blk (V nq) (w3.heap.size) 26 (ucells n) := q_y.calls hb
  replace q_s : Blk (V nq) (w4.heap.size) 26 (ucells s) := q_s.calls hb
  replace q_t : Blk (V nq) (w5.heap.size) 24 (ucells s) := q_t.calls hb
  replace q_u : Blk (V nq) (w6.heap.size) 26 (ucells d) := q_u.calls hb
  replace q_v : Blk (V nq) (w7.heap.size) 24 (ucells d) := q_v.calls hb
  replace q_pm : Blk (V nq) (w8.heap.size) 26 (ucells p) := q_pm.calls hb
  replace q_pn : Blk (V nq) (w9.heap.size) 24 (ucells p) := q_pn.calls hb
  replace bb := bt bb hb
  clear hb
  generalize V nq = w11 at *
  replace l_a := q_a.lt
  replace l_b := q_b.lt
  replace l_x := q_x.lt
  replace l_y := q_y.lt
  replace l_s := q_s.lt
  replace l_t := q_t.lt
  replace l_u := q_u.lt
  replace l_v := q_v.lt
  replace l_pm := q_pm.lt
  replace l_pn := q_pn.lt
  go_wp2
  go_ret
  exact ⟨rfl, bb⟩
end Go.Proofs.Ytlnognioflfknaa
