/- TargetBack: its walk. -/
import Derived.Test.YtlkjcijbmfgjiaaTargH
import Derived.Test.YtlkjcijbmfgjiaaOpsB
namespace Go.Proofs.Ytlkjcijbmfgjiaa
open Go.RowKit
set_option linter.unusedVariables false
set_option maxRecDepth 100000 in
set_option maxHeartbeats 2000000 in
theorem Back_rest (m y b d : Nat) (c1 c2 : Int) (HS : Hid (m < T ∧ shrR m = b ∧ b < 4294967296 ∧ expR b = (y, 0) ∧ decide (m = 0) = false ∧ DiffIs m y d false ∧ CmpIs y m c1 ∧ decide (c1 ≤ 0) = true ∧ shrR y = b ∧ bits .and .u32 (b : Int) 8388608 = 0 ∧ CmpIs d (shrN m 14) c2 ∧ decide (c2 ≤ 0) = true)) (w : World) :
    Calls Try.prog 3 #[uval m] w fun e w' => e = .returned (.bool true) ∧ Below w.heap.size w w' := by
  unfold uval
  go_enter Try.func3, Try.ntmps3
  go_wp2_with fail
  refine (Awake05 _).mono ?_
  rintro e w1 ⟨rfl, hb⟩
  have q_a : Blk w1 (w.heap.size) 24 (ucells m) := (Blk.newAt _ _ (ucells m) rfl).calls hb
  have bb := bt (ba (Below.refl w.heap.size w) _) hb
  replace l_a := q_a.lt
  clear hb
  have c_a := cl4 q_a
  go_wp2_with fail
  refine (Our05_any m _).mono ?_
  rintro e w2 ⟨rfl, hb⟩
  simp only [uval]
  clear c_a
  replace q_a : Blk w2 (w.heap.size) 24 (ucells m) := q_a.calls hb
  replace bb := bt bb hb
  replace l_a := q_a.lt
  clear hb
  go_wp2_with fail
  refine (Shrink_any m b HS.out.1 HS.out.2.1 _).mono ?_
  rintro e w3 ⟨rfl, hb⟩
  simp only [uval]
  replace q_a : Blk w3 (w.heap.size) 24 (ucells m) := (q_a.alloc _).calls hb
  have q_x : Blk w3 (w2.heap.size) 26 (ucells m) := (Blk.newAt w2 _ (ucells m) rfl).calls hb
  replace bb := bt (ba bb _) hb
  replace l_a := q_a.lt
  replace l_x := q_x.lt
  clear hb
  go_wp2_with fail
  refine (Expand_any b y 0 HS.out.2.2.1 HS.out.2.2.2.1 _).mono ?_
  rintro e w4 ⟨rfl, hb⟩
  simp only [uval]
  replace q_a : Blk w4 (w.heap.size) 24 (ucells m) := q_a.calls hb
  replace q_x : Blk w4 (w2.heap.size) 26 (ucells m) := q_x.calls hb
  replace bb := bt bb hb
  replace l_a := q_a.lt
  replace l_x := q_x.lt
  clear hb
  have q0 := fun w => eqU0 m false HS.out.1 HS.out.2.2.2.2.1 w
  have c_x := cl4 q_x
  go_wp2_with fail
  refine (Sub_any m y d false _ HS.out.2.2.2.2.2.1).mono ?_
  rintro e w5 ⟨rfl, hb⟩
  simp only [uval]
  clear c_x
  replace q_a : Blk w5 (w.heap.size) 24 (ucells m) := (q_a.alloc _).calls hb
  replace q_x : Blk w5 (w2.heap.size) 26 (ucells m) := (q_x.alloc _).calls hb
  have q_y : Blk w5 (w4.heap.size) 26 (ucells y) := (Blk.newAt w4 _ (ucells y) rfl).calls hb
  replace bb := bt (ba bb _) hb
  replace l_a := q_a.lt
  replace l_x := q_x.lt
  replace l_y := q_y.lt
  clear hb
  clear q0
  go_wp2_with fail
  change Code.wp _ _ _ _ (w5.alloc (Obj.cells (ucells d) 26))
  replace q_a : Blk (w5.alloc (Obj.cells (ucells d) 26)) (w.heap.size) 24 (ucells m) := (q_a.alloc _)
  replace q_x : Blk (w5.alloc (Obj.cells (ucells d) 26)) (w2.heap.size) 26 (ucells m) := (q_x.alloc _)
  replace q_y : Blk (w5.alloc (Obj.cells (ucells d) 26)) (w4.heap.size) 26 (ucells y) := (q_y.alloc _)
  have q_d : Blk (w5.alloc (Obj.cells (ucells d) 26)) (w5.heap.size) 26 (ucells d) := (Blk.newAt w5 _ (ucells d) rfl)
  replace bb : Below w.heap.size w (w5.alloc (Obj.cells (ucells d) 26)) := (ba bb _)
  generalize (w5.alloc (Obj.cells (ucells d) 26)) = w6 at *
  replace l_a := q_a.lt
  replace l_x := q_x.lt
  replace l_y := q_y.lt
  replace l_d := q_d.lt
  try simp only [List.append_eq, List.cons_append, List.nil_append]
  refine wp_region_g [some 38, some 39, some 40, some 41, some 42, some 43, some 44, some 45, some 46, some 47, some 48, some 49, some 50, some 51, some 52, some 53, some 54, some 55, some 56, some 57, some 58, some 59, some 60, some 61, some 62, some 63, some 64, some 65, some 66, some 2] (FL [
      EqV (.bool true),
      EqV (.bool true),
      EqV (.int .i64 0),
      EqV (.bool true),
      EqV (.bool true),
      EqV (.bool true),
      EqV (.agg (ucells y)),
      EqV (.agg (ucells m)),
      EqV (.int .i64 c1),
      EqV (.bool true),
      EqV (.bool true),
      EqV (.bool true),
      EqV (.agg (ucells y)),
      EqV (.int .u32 b),
      EqV (.int .u32 b),
      EqV (.bool true),
      EqV (.bool true),
      EqV (.bool true),
      EqV (.int .u32 b),
      EqV (.int .u32 0),
      EqV (.bool true),
      EqV (.bool true),
      EqV (.bool true),
      EqV (.agg (ucells d)),
      EqV (.agg (ucells m)),
      EqV (.agg (ucells (shrN m 14))),
      EqV (.int .i64 c2),
      EqV (.bool true),
      EqV (.bool true),
      EqV (.bool true)
    ]) (FL_keeps ⟨keeps_eq _, keeps_eq _, keeps_eq _, keeps_eq _, keeps_eq _, keeps_eq _, keeps_eq _, keeps_eq _, keeps_eq _, keeps_eq _, keeps_eq _, keeps_eq _, keeps_eq _, keeps_eq _, keeps_eq _, keeps_eq _, keeps_eq _, keeps_eq _, keeps_eq _, keeps_eq _, keeps_eq _, keeps_eq _, keeps_eq _, keeps_eq _, keeps_eq _, keeps_eq _, keeps_eq _, keeps_eq _, keeps_eq _, keeps_eq _, trivial⟩) (by kernel_rfl) rfl rfl rfl rfl ⟨
    .inr ⟨gk0 rfl, fun A w' γ hb hF hs => g_eq (op_move (.tmp 3) (.inl rfl) ((hs.2 3 rfl).trans rfl))⟩,
    .inr ⟨gk0 rfl, fun A w' γ hb hF hs => g_eq (op_move (.tmp 38) (.inl rfl) ((hs.1 0 rfl 38 rfl).trans (hF 0 rfl)))⟩,
    .inr ⟨gkT 1 true rfl rfl 39 rfl (fun _ _ h => h), fun A w' γ hb hF hs => g_eq (op_move (.tmp 7) (.inl rfl) ((hs.2 7 rfl).trans rfl))⟩,
    .inr ⟨gkT 1 true rfl rfl 39 rfl (fun _ _ h => h), fun A w' γ hb hF hs => g_eq (op_eq_int 30 _ (.tmp 40) (.const (.int .i64 0)) .i64 (0) (0) true rfl ((hs.1 2 rfl 40 rfl).trans (hF 2 rfl)) rfl (by simp))⟩,
    .inr ⟨gk0 rfl, fun A w' γ hb hF hs => g_eq (op_pick (.tmp 39) (.tmp 41) (.const (.bool false)) true rfl ((hs.1 1 rfl 39 rfl).trans (hF 1 rfl)) ((hs.1 3 rfl 41 rfl).trans (hF 3 rfl)))⟩,
    .inr ⟨gk0 rfl, fun A w' γ hb hF hs => g_eq (op_move (.tmp 42) (.inl rfl) ((hs.1 4 rfl 42 rfl).trans (hF 4 rfl)))⟩,
    .inr ⟨gkT 5 true rfl rfl 43 rfl (fun _ _ h => h), fun A w' γ hb hF hs => g_eq (op_load 26 (.tmp 6) rfl ((hs.2 6 rfl).trans rfl) (q_y.below hb l_y) Try.underlying26 (i26 _))⟩,
    .inr ⟨gkT 5 true rfl rfl 43 rfl (fun _ _ h => h), fun A w' γ hb hF hs => g_eq (op_load 26 (.tmp 4) rfl ((hs.2 4 rfl).trans rfl) (q_x.below hb l_x) Try.underlying26 (i26 _))⟩,
    .inr ⟨gkT 5 true rfl rfl 43 rfl (fun _ _ h => h), fun A w' γ hb hF hs => g_eq (op_call 17 #[.agg (ucells y), .agg (ucells m)] (exec_call _ 17 #[.agg (ucells y), .agg (ucells m)] rfl rfl (args2 ((hs.1 6 rfl 44 rfl).trans (hF 6 rfl)) ((hs.1 7 rfl 45 rfl).trans (hF 7 rfl))) Try.func17 rfl rfl) (Cmp_any y m c1 _ HS.out.2.2.2.2.2.2.1))⟩,
    .inr ⟨gkT 5 true rfl rfl 43 rfl (fun _ _ h => h), fun A w' γ hb hF hs => g_eq (op_leq 3 _ (.tmp 46) (.const (.int .i64 0)) .i64 (c1) (0) true rfl ((hs.1 8 rfl 46 rfl).trans (hF 8 rfl)) rfl (HS.out.2.2.2.2.2.2.2.1))⟩,
    .inr ⟨gk0 rfl, fun A w' γ hb hF hs => g_eq (op_pick (.tmp 43) (.tmp 47) (.const (.bool false)) true rfl ((hs.1 5 rfl 43 rfl).trans (hF 5 rfl)) ((hs.1 9 rfl 47 rfl).trans (hF 9 rfl)))⟩,
    .inr ⟨gk0 rfl, fun A w' γ hb hF hs => g_eq (op_move (.tmp 48) (.inl rfl) ((hs.1 10 rfl 48 rfl).trans (hF 10 rfl)))⟩,
    .inr ⟨gkT 11 true rfl rfl 49 rfl (fun _ _ h => h), fun A w' γ hb hF hs => g_eq (op_load 26 (.tmp 6) rfl ((hs.2 6 rfl).trans rfl) (q_y.below hb l_y) Try.underlying26 (i26 _))⟩,
    .inr ⟨gkT 11 true rfl rfl 49 rfl (fun _ _ h => h), fun A w' γ hb hF hs => g_eq (op_call 14 #[.agg (ucells y)] (exec_call _ 14 #[.agg (ucells y)] rfl rfl (args1 ((hs.1 12 rfl 50 rfl).trans (hF 12 rfl))) Try.func14 rfl rfl) (Shrink_any y b HS.out.2.2.2.2.2.2.1.1 HS.out.2.2.2.2.2.2.2.2.1 _))⟩,
    .inr ⟨gkT 11 true rfl rfl 49 rfl (fun _ _ h => h), fun A w' γ hb hF hs => g_eq (op_move (.tmp 5) (.inl rfl) ((hs.2 5 rfl).trans rfl))⟩,
    .inr ⟨gkT 11 true rfl rfl 49 rfl (fun _ _ h => h), fun A w' γ hb hF hs => g_eq (op_eq_int 28 _ (.tmp 51) (.tmp 52) .u32 (b) (b) true rfl ((hs.1 13 rfl 51 rfl).trans (hF 13 rfl)) ((hs.1 14 rfl 52 rfl).trans (hF 14 rfl)) (by simp))⟩,
    .inr ⟨gk0 rfl, fun A w' γ hb hF hs => g_eq (op_pick (.tmp 49) (.tmp 53) (.const (.bool false)) true rfl ((hs.1 11 rfl 49 rfl).trans (hF 11 rfl)) ((hs.1 15 rfl 53 rfl).trans (hF 15 rfl)))⟩,
    .inr ⟨gk0 rfl, fun A w' γ hb hF hs => g_eq (op_move (.tmp 54) (.inl rfl) ((hs.1 16 rfl 54 rfl).trans (hF 16 rfl)))⟩,
    .inr ⟨gkT 17 true rfl rfl 55 rfl (fun _ _ h => h), fun A w' γ hb hF hs => g_eq (op_move (.tmp 5) (.inl rfl) ((hs.2 5 rfl).trans rfl))⟩,
    .inr ⟨gkT 17 true rfl rfl 55 rfl (fun _ _ h => h), fun A w' γ hb hF hs => g_eq (op_and 28 _ (.tmp 56) (.const (.int .u32 8388608)) .u32 b 8388608 0 rfl (hs.1 18 rfl 56 rfl |>.trans (hF 18 rfl)) rfl HS.out.2.2.2.2.2.2.2.2.2.1)⟩,
    .inr ⟨gkT 17 true rfl rfl 55 rfl (fun _ _ h => h), fun A w' γ hb hF hs => g_eq (op_eq_int 28 _ (.tmp 57) (.const (.int .u32 0)) .u32 (0) (0) true rfl ((hs.1 19 rfl 57 rfl).trans (hF 19 rfl)) rfl (by simp))⟩,
    .inr ⟨gk0 rfl, fun A w' γ hb hF hs => g_eq (op_pick (.tmp 55) (.tmp 58) (.const (.bool false)) true rfl ((hs.1 17 rfl 55 rfl).trans (hF 17 rfl)) ((hs.1 20 rfl 58 rfl).trans (hF 20 rfl)))⟩,
    .inr ⟨gk0 rfl, fun A w' γ hb hF hs => g_eq (op_move (.tmp 59) (.inl rfl) ((hs.1 21 rfl 59 rfl).trans (hF 21 rfl)))⟩,
    .inr ⟨gkT 22 true rfl rfl 60 rfl (fun _ _ h => h), fun A w' γ hb hF hs => g_eq (op_load 26 (.tmp 8) rfl ((hs.2 8 rfl).trans rfl) (q_d.below hb l_d) Try.underlying26 (i26 _))⟩,
    .inr ⟨gkT 22 true rfl rfl 60 rfl (fun _ _ h => h), fun A w' γ hb hF hs => g_eq (op_load 26 (.tmp 4) rfl ((hs.2 4 rfl).trans rfl) (q_x.below hb l_x) Try.underlying26 (i26 _))⟩,
    .inr ⟨gkT 22 true rfl rfl 60 rfl (fun _ _ h => h), fun A w' γ hb hF hs => g_eq (op_call 18 #[.agg (ucells m), .int .i64 14] (exec_call _ 18 #[.agg (ucells m), .int .i64 14] rfl rfl (args2 ((hs.1 24 rfl 62 rfl).trans (hF 24 rfl)) rfl) Try.func18 rfl rfl) (Shr_any m 14 _ HS.out.1))⟩,
    .inr ⟨gkT 22 true rfl rfl 60 rfl (fun _ _ h => h), fun A w' γ hb hF hs => g_eq (op_call 17 #[.agg (ucells d), .agg (ucells (shrN m 14))] (exec_call _ 17 #[.agg (ucells d), .agg (ucells (shrN m 14))] rfl rfl (args2 ((hs.1 23 rfl 61 rfl).trans (hF 23 rfl)) ((hs.1 25 rfl 63 rfl).trans (hF 25 rfl))) Try.func17 rfl rfl) (Cmp_any d (shrN m 14) c2 _ HS.out.2.2.2.2.2.2.2.2.2.2.1))⟩,
    .inr ⟨gkT 22 true rfl rfl 60 rfl (fun _ _ h => h), fun A w' γ hb hF hs => g_eq (op_leq 3 _ (.tmp 64) (.const (.int .i64 0)) .i64 (c2) (0) true rfl ((hs.1 26 rfl 64 rfl).trans (hF 26 rfl)) rfl (HS.out.2.2.2.2.2.2.2.2.2.2.2))⟩,
    .inr ⟨gk0 rfl, fun A w' γ hb hF hs => g_eq (op_pick (.tmp 60) (.tmp 65) (.const (.bool false)) true rfl ((hs.1 22 rfl 60 rfl).trans (hF 22 rfl)) ((hs.1 27 rfl 65 rfl).trans (hF 27 rfl)))⟩,
    .inr ⟨gk0 rfl, fun A w' γ hb hF hs => g_eq (op_move (.tmp 66) (.inr rfl) ((hs.1 28 rfl 66 rfl).trans (hF 28 rfl)))⟩,
    trivial⟩ ?_
  intro γ w' hb hF
  have bz := bt bb hb
  have ez : γ 29 = .bool true := hF 29 (by decide)
  simp only [Fr, if_true, Act.put, List.setIfInBounds_toArray, List.set_cons_zero, List.set_cons_succ]
  rw [ez]
  clear ez hF
  go_wp2
  go_ret
  exact ⟨rfl, bz⟩
theorem and_23z (b : Nat) (hb : b < 4294967296) (h : b / 8388608 % 2 = 0) : bits .and .u32 (b : Int) 8388608 = 0 := by
  rw [(and_23 b hb).1]
  have : b &&& 8388608 = 0 := by
    apply Nat.eq_of_testBit_eq
    intro i
    rw [show (8388608 : Nat) = 2 ^ 23 from rfl, Nat.testBit_and, Nat.testBit_two_pow, Nat.zero_testBit]
    by_cases hi : 23 = i
    · subst hi
      have e : b.testBit 23 = false := by rw [Nat.testBit_eq_decide_div_mod_eq, show (2 : Nat) ^ 23 = 8388608 from rfl, h]; rfl
      rw [e, Bool.false_and]
    · rw [decide_eq_false hi, Bool.and_false]
  rw [this]; rfl
theorem TBack_walk (m : Nat) (hm : m < T) (w : World) :
    Calls Try.prog 3 #[uval m] w fun e w' => e = .returned (.bool true) ∧ Below w.heap.size w w' := by
  by_cases h0 : m = 0
  · subst h0; exact Back_zero w
  · obtain ⟨y, h1, h2, h3, h4, h5, h6⟩ := back_any m h0 hm
    have hT : T ≠ 0 := by decide
    have hsh : shrN m 14 = m / 16384 := rfl
    have hsT : m / 16384 < T := Nat.lt_of_le_of_lt (Nat.div_le_self _ _) hm
    obtain ⟨c1, hc1⟩ := cmp_ex y m (by omega) hm
    obtain ⟨c2, hc2⟩ := cmp_ex (m - y) (shrN m 14) (by omega) (by rw [hsh]; exact hsT)
    have f1 := cmp_facts hc1
    have f2 := cmp_facts hc2
    have g1 : c1 ≤ 0 := by omega
    have g2 : c2 ≤ 0 := by rw [hsh] at f2; omega
    exact Back_rest m y (shrR m) (m - y) c1 c2 ⟨hm, rfl, h6, h1, by simp [h0], ⟨hm, by omega, by omega, by simp; omega⟩, hc1, decide_eq_true g1, h3, and_23z _ h6 h4, hc2, decide_eq_true g2⟩ w
end Go.Proofs.Ytlkjcijbmfgjiaa
