/- Moved up is doubled: the walk of U256Shifts. -/
import Derived.Test.YtlnognioflfknaaLaw01Div
namespace Go.Proofs.Ytlnognioflfknaa
open Go.RowKit
set_option linter.unusedVariables false

abbrev ShlIs (m : Nat) (n : Int) (r : Nat) (b : Bool) : Prop := m < T ∧ n ≤ 9223372036854775807 ∧ shlN m n = r ∧ shlB m n = b
theorem Shl_is (m : Nat) (n : Int) (r : Nat) (b : Bool) (w : World) (h : ShlIs m n r b) : Calls Try.prog 37 #[uval m, .int .i64 n] w fun e w' => e = .returned (.tuple #[uval r, .bool b]) ∧ Below w.heap.size w w' := by
  obtain ⟨h1, h2, rfl, rfl⟩ := h
  exact Shl_any m n w h1 h2
abbrev ShrIs (m : Nat) (n : Int) (r : Nat) : Prop := m < T ∧ shrN m n = r
theorem Shr_is (m : Nat) (n : Int) (r : Nat) (w : World) (h : ShrIs m n r) : Calls Try.prog 39 #[uval m, .int .i64 n] w fun e w' => e = .returned (uval r) ∧ Below w.heap.size w w' := by
  obtain ⟨h1, rfl⟩ := h
  exact Shr_any m n w h1

set_option maxRecDepth 100000 in
set_option maxHeartbeats 1000000 in
theorem Shifts_core (m k : Nat) (n : Int) (w : World) (hk : bits .and .i64 n 255 = (k : Int)) (hk2 : k ≤ 255) (d t p q z2 : Nat) (over gone pl z g1 : Bool)
    (HS : Hid (SumIs m m d over ∧ ShlIs m 1 d over ∧ ShlIs m k t gone ∧ ShlIs 1 k p pl ∧ DivIs m p q z2 true ∧ ShrIs m k q ∧ (gone = false → ShrIs t k m))) (b : Int) (HB : Hid (m < T ∧ (bl m : Int) = b)) (hb0 : 0 ≤ b) (hb1 : b ≤ 256)
    (hg : decide (256 < b + (k : Int)) = g1) (hz : (b == 0) = z) (ex : ∀ w, (Op.equalIn 10000 26 (.agg #[.int .u64 (lim m 0), .int .u64 (lim m 1), .int .u64 (lim m 2), .int .u64 (lim m 3)]) (.agg #[.int .u64 0, .int .u64 0, .int .u64 0, .int .u64 0])).run Try.prog w = .ok z w)
    (HC : (g1 = true ∧ z = false ∧ gone = true) ∨ (g1 = false ∧ gone = false)) :
    Calls Try.prog 9 #[uval m, .int .i64 n] w fun e w' => e = .returned (.bool true) ∧ Below w.heap.size w w' := by
  have em := fun w => eqU m m true HB.out.1 HB.out.1 (by simp) w
  have ed := fun w => eqU d d true HS.out.1.2.2.1 HS.out.1.2.2.1 (by simp) w
  have eq2 := fun w => eqU q q true (by have := HS.out; have h := this.2.2.2.2.2.1; have h2 := h.1; have h3 := h.2; unfold shrN at h3; split at h3; omega; rw [← h3]; exact Nat.lt_of_le_of_lt (Nat.div_le_self _ _) h2) (by have := HS.out; have h := this.2.2.2.2.2.1; have h2 := h.1; have h3 := h.2; unfold shrN at h3; split at h3; omega; rw [← h3]; exact Nat.lt_of_le_of_lt (Nat.div_le_self _ _) h2) (by simp) w
  have hsum : IntKind.i64.wrap (b + (k : Int)) = b + (k : Int) := by simp [IntKind.wrap, IntKind.signed, IntKind.bits]; omega
  unfold uval
  go_enter Try.func9, Try.ntmps9
  go_wp2_with fail
  refine (Awake01 _).mono ?_
  rintro e w1 ⟨rfl, hb⟩
  have q_a : Blk w1 (w.heap.size) 24 (ucells m) := (Blk.newAt _ _ (ucells m) rfl).calls hb
  have bb := bt (ba (Below.refl w.heap.size w) _) hb
  replace l_a := q_a.lt
  clear hb
  have c_a := cl4 q_a
  go_wp2_with fail
  refine (Ours_any m _).mono ?_
  rintro e w2 ⟨rfl, hb⟩
  simp only [uval]
  clear c_a
  replace q_a : Blk w2 (w.heap.size) 24 (ucells m) := q_a.calls hb
  replace bb := bt bb hb
  replace l_a := q_a.lt
  clear hb
  clear q_a l_a
  go_wp2_with fail
  refine (Add_any m m d over _ HS.out.1).mono ?_
  rintro e w3 ⟨rfl, hb⟩
  simp only [uval]
  have q_x : Blk w3 (w2.heap.size) 26 (ucells m) := (Blk.newAt w2 _ (ucells m) rfl).calls hb
  replace bb := bt (ba bb _) hb
  replace l_x := q_x.lt
  clear hb
  have c_x := cl4 q_x
  go_wp2_with fail
  refine (Shl_is m 1 d over _ HS.out.2.1).mono ?_
  rintro e w4 ⟨rfl, hb⟩
  simp only [uval]
  clear c_x
  replace q_x : Blk w4 (w2.heap.size) 26 (ucells m) := (q_x.alloc _).calls hb
  have q_d : Blk w4 (w3.heap.size) 26 (ucells d) := (Blk.newAt w3 _ (ucells d) rfl).calls hb
  replace bb := bt (ba bb _) hb
  replace l_x := q_x.lt
  replace l_d := q_d.lt
  clear hb
  have c_x := cl4 q_x
  go_wp2_with fail
  refine (Shl_is m k t gone _ HS.out.2.2.1).mono ?_
  rintro e w5 ⟨rfl, hb⟩
  simp only [uval]
  clear c_x
  replace q_x : Blk w5 (w2.heap.size) 26 (ucells m) := (q_x.alloc _).calls hb
  replace q_d : Blk w5 (w3.heap.size) 26 (ucells d) := (q_d.alloc _).calls hb
  have q_s : Blk w5 (w4.heap.size) 26 (ucells d) := (Blk.newAt w4 _ (ucells d) rfl).calls hb
  replace bb := bt (ba bb _) hb
  replace l_x := q_x.lt
  replace l_d := q_d.lt
  replace l_s := q_s.lt
  clear hb
  go_wp2_with fail
  refine (Of_is 1 _ rfl (by decide) _).mono ?_
  rintro e w6 ⟨rfl, hb⟩
  simp only [uval]
  replace q_x : Blk w6 (w2.heap.size) 26 (ucells m) := (q_x.alloc _).calls hb
  replace q_d : Blk w6 (w3.heap.size) 26 (ucells d) := (q_d.alloc _).calls hb
  replace q_s : Blk w6 (w4.heap.size) 26 (ucells d) := (q_s.alloc _).calls hb
  have q_t : Blk w6 (w5.heap.size) 26 (ucells t) := (Blk.newAt w5 _ (ucells t) rfl).calls hb
  replace bb := bt (ba bb _) hb
  replace l_x := q_x.lt
  replace l_d := q_d.lt
  replace l_s := q_s.lt
  replace l_t := q_t.lt
  clear hb
  go_wp2_with fail
  refine (Shl_is 1 k p pl _ HS.out.2.2.2.1).mono ?_
  rintro e w7 ⟨rfl, hb⟩
  simp only [uval]
  replace q_x : Blk w7 (w2.heap.size) 26 (ucells m) := q_x.calls hb
  replace q_d : Blk w7 (w3.heap.size) 26 (ucells d) := q_d.calls hb
  replace q_s : Blk w7 (w4.heap.size) 26 (ucells d) := q_s.calls hb
  replace q_t : Blk w7 (w5.heap.size) 26 (ucells t) := q_t.calls hb
  replace bb := bt bb hb
  replace l_x := q_x.lt
  replace l_d := q_d.lt
  replace l_s := q_s.lt
  replace l_t := q_t.lt
  clear hb
  have c_x := cl4 q_x
  go_wp2_with fail
  refine (DivU_is m p q z2 true _ HS.out.2.2.2.2.1).mono ?_
  rintro e w8 ⟨rfl, hb⟩
  simp only [uval]
  clear c_x
  replace q_x : Blk w8 (w2.heap.size) 26 (ucells m) := (q_x.alloc _).calls hb
  replace q_d : Blk w8 (w3.heap.size) 26 (ucells d) := (q_d.alloc _).calls hb
  replace q_s : Blk w8 (w4.heap.size) 26 (ucells d) := (q_s.alloc _).calls hb
  replace q_t : Blk w8 (w5.heap.size) 26 (ucells t) := (q_t.alloc _).calls hb
  have q_p : Blk w8 (w7.heap.size) 26 (ucells p) := (Blk.newAt w7 _ (ucells p) rfl).calls hb
  replace bb := bt (ba bb _) hb
  replace l_x := q_x.lt
  replace l_d := q_d.lt
  replace l_s := q_s.lt
  replace l_t := q_t.lt
  replace l_p := q_p.lt
  clear hb
  go_wp2_with fail
  change Code.wp _ _ _ _ ((w8.alloc (Obj.cells (ucells q) 26)).alloc (Obj.cells (ucells z2) 26))
  replace q_x : Blk ((w8.alloc (Obj.cells (ucells q) 26)).alloc (Obj.cells (ucells z2) 26)) (w2.heap.size) 26 (ucells m) := ((q_x.alloc _).alloc _)
  replace q_d : Blk ((w8.alloc (Obj.cells (ucells q) 26)).alloc (Obj.cells (ucells z2) 26)) (w3.heap.size) 26 (ucells d) := ((q_d.alloc _).alloc _)
  replace q_s : Blk ((w8.alloc (Obj.cells (ucells q) 26)).alloc (Obj.cells (ucells z2) 26)) (w4.heap.size) 26 (ucells d) := ((q_s.alloc _).alloc _)
  replace q_t : Blk ((w8.alloc (Obj.cells (ucells q) 26)).alloc (Obj.cells (ucells z2) 26)) (w5.heap.size) 26 (ucells t) := ((q_t.alloc _).alloc _)
  replace q_p : Blk ((w8.alloc (Obj.cells (ucells q) 26)).alloc (Obj.cells (ucells z2) 26)) (w7.heap.size) 26 (ucells p) := ((q_p.alloc _).alloc _)
  have q_q : Blk ((w8.alloc (Obj.cells (ucells q) 26)).alloc (Obj.cells (ucells z2) 26)) (w8.heap.size) 26 (ucells q) := ((Blk.newAt w8 _ (ucells q) rfl).alloc _)
  have q_r : Blk ((w8.alloc (Obj.cells (ucells q) 26)).alloc (Obj.cells (ucells z2) 26)) (w8.heap.size + 1) 26 (ucells z2) := (Blk.newAt (w8.alloc (Obj.cells (ucells q) 26)) _ (ucells z2) (by simp))
  replace bb : Below w.heap.size w ((w8.alloc (Obj.cells (ucells q) 26)).alloc (Obj.cells (ucells z2) 26)) := (ba (ba bb _) _)
  generalize ((w8.alloc (Obj.cells (ucells q) 26)).alloc (Obj.cells (ucells z2) 26)) = w9 at *
  replace l_x := q_x.lt
  replace l_d := q_d.lt
  replace l_s := q_s.lt
  replace l_t := q_t.lt
  replace l_p := q_p.lt
  replace l_q := q_q.lt
  replace l_r := q_r.lt
  rcases HC with ⟨h1, h2, h3⟩ | ⟨h1, h2⟩
  · obtain rfl := h1; obtain rfl := h2; obtain rfl := h3
    go_wp2_with fail
    try simp only [List.append_eq, List.cons_append, List.nil_append]
    refine wp_region_class (fun w' => Below w9.heap.size w9 w') (by kernel_rfl) (by kernel_rfl) (Below.refl _ _).drew ?_
    intro Idx hI V hS hcl
    have f_x := fun n => cl4 (q_x.below (hS n) l_x)
    have f_d := fun n => cl4 (q_d.below (hS n) l_d)
    have f_s := fun n => cl4 (q_s.below (hS n) l_s)
    have f_t := fun n => cl4 (q_t.below (hS n) l_t)
    have f_q := fun n => cl4 (q_q.below (hS n) l_q)
    repeat go_big_quiet_step (first | (go_at_call 39; (with_reducible refine Calls.cls (Shr_is m k q _ HS.out.2.2.2.2.2.1) ?_); intro w' hb; exact hcl w' (bt (hS _) hb)) | (go_at_call 22; (with_reducible refine Calls.cls (Len_is m b HB.out.1 HB.out.2 _) ?_); intro w' hb; exact hcl w' (bt (hS _) hb)))
    refine wpQuiet_nil ?_
    rintro _ ⟨nq, rfl⟩
    have hb := hS nq
    clear hcl hS f_x f_d f_s f_t f_q
    replace q_x : Blk (V nq) (w2.heap.size) 26 (ucells m) := q_x.calls hb
    replace q_d : Blk (V nq) (w3.heap.size) 26 (ucells d) := q_d.calls hb
    replace q_s : Blk (V nq) (w4.heap.size) 26 (ucells d) := q_s.calls hb
    replace q_t : Blk (V nq) (w5.heap.size) 26 (ucells t) := q_t.calls hb
    replace q_p : Blk (V nq) (w7.heap.size) 26 (ucells p) := q_p.calls hb
    replace q_q : Blk (V nq) (w8.heap.size) 26 (ucells q) := q_q.calls hb
    replace q_r : Blk (V nq) (w8.heap.size + 1) 26 (ucells z2) := q_r.calls hb
    replace bb := bt bb hb
    clear hb
    generalize V nq = w10 at *
    replace l_x := q_x.lt
    replace l_d := q_d.lt
    replace l_s := q_s.lt
    replace l_t := q_t.lt
    replace l_p := q_p.lt
    replace l_q := q_q.lt
    replace l_r := q_r.lt
    go_wp2
    go_ret
    exact ⟨rfl, bb⟩
  · obtain rfl := h1; obtain rfl := h2
    go_wp2_with fail
    try simp only [List.append_eq, List.cons_append, List.nil_append]
    refine wp_region_class (fun w' => Below w9.heap.size w9 w') (by kernel_rfl) (by kernel_rfl) (Below.refl _ _).drew ?_
    intro Idx hI V hS hcl
    have f_x := fun n => cl4 (q_x.below (hS n) l_x)
    have f_d := fun n => cl4 (q_d.below (hS n) l_d)
    have f_s := fun n => cl4 (q_s.below (hS n) l_s)
    have f_t := fun n => cl4 (q_t.below (hS n) l_t)
    have f_q := fun n => cl4 (q_q.below (hS n) l_q)
    repeat go_big_quiet_step (first | (go_at_call 39; (with_reducible refine Calls.cls (Shr_is t k m _ (HS.out.2.2.2.2.2.2 (by simp))) ?_); intro w' hb; exact hcl w' (bt (hS _) hb)) | (go_at_call 39; (with_reducible refine Calls.cls (Shr_is m k q _ HS.out.2.2.2.2.2.1) ?_); intro w' hb; exact hcl w' (bt (hS _) hb)) | (go_at_call 22; (with_reducible refine Calls.cls (Len_is m b HB.out.1 HB.out.2 _) ?_); intro w' hb; exact hcl w' (bt (hS _) hb)))
    refine wpQuiet_nil ?_
    rintro _ ⟨nq, rfl⟩
    have hb := hS nq
    clear hcl hS f_x f_d f_s f_t f_q
    replace q_x : Blk (V nq) (w2.heap.size) 26 (ucells m) := q_x.calls hb
    replace q_d : Blk (V nq) (w3.heap.size) 26 (ucells d) := q_d.calls hb
    replace q_s : Blk (V nq) (w4.heap.size) 26 (ucells d) := q_s.calls hb
    replace q_t : Blk (V nq) (w5.heap.size) 26 (ucells t) := q_t.calls hb
    replace q_p : Blk (V nq) (w7.heap.size) 26 (ucells p) := q_p.calls hb
    replace q_q : Blk (V nq) (w8.heap.size) 26 (ucells q) := q_q.calls hb
    replace q_r : Blk (V nq) (w8.heap.size + 1) 26 (ucells z2) := q_r.calls hb
    replace bb := bt bb hb
    clear hb
    generalize V nq = w10 at *
    replace l_x := q_x.lt
    replace l_d := q_d.lt
    replace l_s := q_s.lt
    replace l_t := q_t.lt
    replace l_p := q_p.lt
    replace l_q := q_q.lt
    replace l_r := q_r.lt
    go_wp2
    go_ret
    exact ⟨rfl, bb⟩
end Go.Proofs.Ytlnognioflfknaa
