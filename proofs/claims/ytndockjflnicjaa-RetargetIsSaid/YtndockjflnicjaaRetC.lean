/- retarget.Sane. -/
import Derived.Test.YtndockjflnicjaaRetB
import Derived.Test.YtndockjflnicjaaOpsC
import Derived.Test.YtndockjflnicjaaTargA
namespace Go.Proofs.Ytndockjflnicjaa
open Go.RowKit
set_option linter.unusedVariables false
abbrev pcells (lim iv sp fu ix op : Int) (a : Option Addr) (n c : Nat) : Array Value := #[.int .u32 lim, .int .i64 iv, .int .i64 sp, .int .i64 fu, .int .i64 ix, .int .i64 op, .slice a n c]
/-- A slice of these truths. -/
def BSl (bs : List Bool) (v : Value) (w : World) : Prop := ∃ g, v = .slice (some ⟨g, 0, none⟩) bs.length bs.length ∧ Blk w g 4 (bcells bs)
theorem bsl_keeps (bs : List Bool) : Keeps (BSl bs) := fun u w1 w2 h hb => by
  obtain ⟨g, h1, h2⟩ := h
  exact ⟨g, h1, h2.calls hb⟩
theorem bsl_all (bs : List Bool) (v : Value) (w : World) (hn : bs.length = 7) (h : BSl bs v w) : Calls Try.prog 27 #[v] w fun e w' => e = .returned (.bool (bs.all id)) ∧ Below w.heap.size w w' := by
  obtain ⟨g, rfl, hb⟩ := h
  exact All_any bs _ g rfl (by omega) w hb
theorem op_bslice {Q : Exit → Act → World → Prop} {o : Oper} {A : Act} {w : World} (b0 b1 b2 b3 b4 b5 b6 : Bool) (x0 x1 x2 x3 x4 x5 x6 : Operand) (ho : o.op = .buildSlice 68 7 #[(0, x0), (1, x1), (2, x2), (3, x3), (4, x4), (5, x5), (6, x6)])
    (h0 : A.eval x0 = .bool b0) (h1 : A.eval x1 = .bool b1) (h2 : A.eval x2 = .bool b2) (h3 : A.eval x3 = .bool b3) (h4 : A.eval x4 = .bool b4) (h5 : A.eval x5 = .bool b5) (h6 : A.eval x6 = .bool b6) :
    o.wp Try.prog A w (fun a' w'' => ∃ u, a' = A.put o.dst u ∧ Below w.heap.size w w'' ∧ BSl [b0, b1, b2, b3, b4, b5, b6] u w'') Q := by
  have hrun : (execOp A.eval o).run Try.prog w = .ok (.value (.slice (some ⟨w.heap.size, 0, none⟩) 7 7)) (w.alloc (.cells #[.bool b0, .bool b1, .bool b2, .bool b3, .bool b4, .bool b5, .bool b6] 4)) := by
    unfold execOp
    generalize A.eval = ρ at *
    simp only [ho]
    simp [h0, h1, h2, h3, h4, h5, h6, bslice_run, go_sem]
  unfold Oper.wp
  rw [hrun, Oper.upon_value]
  exact ⟨_, rfl, ba (Below.refl _ _) _, _, rfl, Blk.new _ _ _⟩
/-- May rules be? -/
def saneR (lim : Nat) (iv sp fu ix op : Int) (n : Nat) : Bool := [iv == betw iv 1 1048576, sp == betw sp 4 1099511627776, (expR lim).2 == 0, fu == betw fu 0 4294967296, ix == betw ix 0 1048576, op == betw op 0 1048576, decide ((n : Int) ≤ 100)].all id
set_option maxRecDepth 100000 in
set_option maxHeartbeats 2000000 in
theorem Sane_core (lim t : Nat) (e iv sp fu ix op : Int) (a : Option Addr) (n c : Nat) (b0 b1 b2 b3 b4 b5 b6 : Bool) (hl : lim < 4294967296) (he : expR lim = (t, e))
    (HB : Hid ((iv == betw iv 1 1048576) = b0 ∧ (sp == betw sp 4 1099511627776) = b1 ∧ (e == 0) = b2 ∧ (fu == betw fu 0 4294967296) = b3 ∧ (ix == betw ix 0 1048576) = b4 ∧ (op == betw op 0 1048576) = b5 ∧ decide ((n : Int) ≤ 100) = b6)) (w : World) :
    Calls Try.prog 11 #[.agg (pcells lim iv sp fu ix op a n c)] w fun e w' => e = .returned (.bool ([b0, b1, b2, b3, b4, b5, b6].all id)) ∧ Below w.heap.size w w' := by
  have c1 := fun w => Expand_any lim t e hl he w
  clear hl he
  go_enter Try.func11, Try.ntmps11
  go_wp2_with fail
  refine (c1 _).mono ?_
  rintro q w1 ⟨rfl, hb1⟩
  have q_p := (Blk.newAt w 25 (pcells lim iv sp fu ix op a n c) rfl).calls hb1
  have bb := bt (ba (Below.refl w.heap.size w) _) hb1
  clear hb1 c1
  go_wp2_with fail
  replace q_p := q_p.alloc (.cells (ucells t) 34)
  replace bb := ba bb (.cells (ucells t) 34)
  have l_p := q_p.lt
  change Code.wp _ _ _ _ (w1.alloc (.cells (ucells t) 34))
  generalize w1.alloc (.cells (ucells t) 34) = w2 at *
  refine wp_region_g [some 11, some 12, some 13, some 14, some 15, some 16, some 17, some 18, some 19, some 20, some 21, some 22, some 23, some 24, some 25, some 26, some 27, some 28, some 29, some 30, some 31, some 32, some 33, some 2] (FL [
      EqV (.pointer (some ⟨w.heap.size, 1, none⟩)),
      EqV (.int .i64 iv),
      EqV (.bool b0),
      EqV (.pointer (some ⟨w.heap.size, 2, none⟩)),
      EqV (.int .i64 sp),
      EqV (.bool b1),
      EqV (.int .i64 e),
      EqV (.bool b2),
      EqV (.pointer (some ⟨w.heap.size, 3, none⟩)),
      EqV (.int .i64 fu),
      EqV (.bool b3),
      EqV (.pointer (some ⟨w.heap.size, 4, none⟩)),
      EqV (.int .i64 ix),
      EqV (.bool b4),
      EqV (.pointer (some ⟨w.heap.size, 5, none⟩)),
      EqV (.int .i64 op),
      EqV (.bool b5),
      EqV (.pointer (some ⟨w.heap.size, 6, none⟩)),
      EqV (.slice a n c),
      EqV (.int .i64 n),
      EqV (.bool b6),
      BSl [b0, b1, b2, b3, b4, b5, b6],
      EqV (.bool ([b0, b1, b2, b3, b4, b5, b6].all id)),
      EqV (.bool ([b0, b1, b2, b3, b4, b5, b6].all id))
    ]) (FL_keeps ⟨keeps_eq _, keeps_eq _, keeps_eq _, keeps_eq _, keeps_eq _, keeps_eq _, keeps_eq _, keeps_eq _, keeps_eq _, keeps_eq _, keeps_eq _, keeps_eq _, keeps_eq _, keeps_eq _, keeps_eq _, keeps_eq _, keeps_eq _, keeps_eq _, keeps_eq _, keeps_eq _, keeps_eq _, bsl_keeps _, keeps_eq _, keeps_eq _, trivial⟩) (by kernel_rfl) rfl rfl rfl rfl ⟨
    .inr ⟨gk0 rfl, fun A w' γ hb hF hs => g_eq (op_fld 25 (.tmp 1) 1 1 rfl w.heap.size ((hs.2 1 rfl).trans rfl) fun _ _ => by kernel_rfl)⟩,
    .inr ⟨gk0 rfl, fun A w' γ hb hF hs => g_eq (op_cel 3 (.tmp 11) rfl _ ((hs.1 0 rfl 11 rfl).trans (hF 0 rfl)) _ (blk_get (q_p.below hb l_p) 1 _ rfl) _ Try.underlying3 rfl)⟩,
    .inr ⟨gk0 rfl, fun A w' γ hb hF hs => g_eq (op_call 28 #[.int .i64 iv, .int .i64 1, .int .i64 1048576] (exec_call _ 28 #[.int .i64 iv, .int .i64 1, .int .i64 1048576] rfl rfl (oargs3 ((hs.1 1 rfl 12 rfl).trans (hF 1 rfl)) rfl rfl) Try.func28 rfl rfl) (Within_any iv 1 1048576 b0 HB.out.1 _))⟩,
    .inr ⟨gk0 rfl, fun A w' γ hb hF hs => g_eq (op_fld 25 (.tmp 1) 2 2 rfl w.heap.size ((hs.2 1 rfl).trans rfl) fun _ _ => by kernel_rfl)⟩,
    .inr ⟨gk0 rfl, fun A w' γ hb hF hs => g_eq (op_cel 3 (.tmp 14) rfl _ ((hs.1 3 rfl 14 rfl).trans (hF 3 rfl)) _ (blk_get (q_p.below hb l_p) 2 _ rfl) _ Try.underlying3 rfl)⟩,
    .inr ⟨gk0 rfl, fun A w' γ hb hF hs => g_eq (op_call 28 #[.int .i64 sp, .int .i64 4, .int .i64 1099511627776] (exec_call _ 28 #[.int .i64 sp, .int .i64 4, .int .i64 1099511627776] rfl rfl (oargs3 ((hs.1 4 rfl 15 rfl).trans (hF 4 rfl)) rfl rfl) Try.func28 rfl rfl) (Within_any sp 4 1099511627776 b1 HB.out.2.1 _))⟩,
    .inr ⟨gk0 rfl, fun A w' γ hb hF hs => g_eq (op_move (.tmp 4) (.inl rfl) ((hs.2 4 rfl).trans rfl))⟩,
    .inr ⟨gk0 rfl, fun A w' γ hb hF hs => g_eq (op_eq_int 35 _ (.tmp 17) (.const (.int .i64 0)) .i64 (e) (0) b2 rfl ((hs.1 6 rfl 17 rfl).trans (hF 6 rfl)) rfl (HB.out.2.2.1))⟩,
    .inr ⟨gk0 rfl, fun A w' γ hb hF hs => g_eq (op_fld 25 (.tmp 1) 3 3 rfl w.heap.size ((hs.2 1 rfl).trans rfl) fun _ _ => by kernel_rfl)⟩,
    .inr ⟨gk0 rfl, fun A w' γ hb hF hs => g_eq (op_cel 3 (.tmp 19) rfl _ ((hs.1 8 rfl 19 rfl).trans (hF 8 rfl)) _ (blk_get (q_p.below hb l_p) 3 _ rfl) _ Try.underlying3 rfl)⟩,
    .inr ⟨gk0 rfl, fun A w' γ hb hF hs => g_eq (op_call 28 #[.int .i64 fu, .int .i64 0, .int .i64 4294967296] (exec_call _ 28 #[.int .i64 fu, .int .i64 0, .int .i64 4294967296] rfl rfl (oargs3 ((hs.1 9 rfl 20 rfl).trans (hF 9 rfl)) rfl rfl) Try.func28 rfl rfl) (Within_any fu 0 4294967296 b3 HB.out.2.2.2.1 _))⟩,
    .inr ⟨gk0 rfl, fun A w' γ hb hF hs => g_eq (op_fld 25 (.tmp 1) 4 4 rfl w.heap.size ((hs.2 1 rfl).trans rfl) fun _ _ => by kernel_rfl)⟩,
    .inr ⟨gk0 rfl, fun A w' γ hb hF hs => g_eq (op_cel 3 (.tmp 22) rfl _ ((hs.1 11 rfl 22 rfl).trans (hF 11 rfl)) _ (blk_get (q_p.below hb l_p) 4 _ rfl) _ Try.underlying3 rfl)⟩,
    .inr ⟨gk0 rfl, fun A w' γ hb hF hs => g_eq (op_call 28 #[.int .i64 ix, .int .i64 0, .int .i64 1048576] (exec_call _ 28 #[.int .i64 ix, .int .i64 0, .int .i64 1048576] rfl rfl (oargs3 ((hs.1 12 rfl 23 rfl).trans (hF 12 rfl)) rfl rfl) Try.func28 rfl rfl) (Within_any ix 0 1048576 b4 HB.out.2.2.2.2.1 _))⟩,
    .inr ⟨gk0 rfl, fun A w' γ hb hF hs => g_eq (op_fld 25 (.tmp 1) 5 5 rfl w.heap.size ((hs.2 1 rfl).trans rfl) fun _ _ => by kernel_rfl)⟩,
    .inr ⟨gk0 rfl, fun A w' γ hb hF hs => g_eq (op_cel 3 (.tmp 25) rfl _ ((hs.1 14 rfl 25 rfl).trans (hF 14 rfl)) _ (blk_get (q_p.below hb l_p) 5 _ rfl) _ Try.underlying3 rfl)⟩,
    .inr ⟨gk0 rfl, fun A w' γ hb hF hs => g_eq (op_call 28 #[.int .i64 op, .int .i64 0, .int .i64 1048576] (exec_call _ 28 #[.int .i64 op, .int .i64 0, .int .i64 1048576] rfl rfl (oargs3 ((hs.1 15 rfl 26 rfl).trans (hF 15 rfl)) rfl rfl) Try.func28 rfl rfl) (Within_any op 0 1048576 b5 HB.out.2.2.2.2.2.1 _))⟩,
    .inr ⟨gk0 rfl, fun A w' γ hb hF hs => g_eq (op_fld 25 (.tmp 1) 6 6 rfl w.heap.size ((hs.2 1 rfl).trans rfl) fun _ _ => by kernel_rfl)⟩,
    .inr ⟨gk0 rfl, fun A w' γ hb hF hs => g_eq (op_cel 23 (.tmp 28) rfl _ ((hs.1 17 rfl 28 rfl).trans (hF 17 rfl)) _ (blk_get (q_p.below hb l_p) 6 _ rfl) _ Try.underlying23 rfl)⟩,
    .inr ⟨gk0 rfl, fun A w' γ hb hF hs => g_eq (op_len (.tmp 29) 23 _ a n c rfl ((hs.1 18 rfl 29 rfl).trans (hF 18 rfl)) Try.underlying23)⟩,
    .inr ⟨gk0 rfl, fun A w' γ hb hF hs => g_eq (op_leq 3 _ (.tmp 30) (.const (.int .i64 100)) .i64 (n) (100) b6 rfl ((hs.1 19 rfl 30 rfl).trans (hF 19 rfl)) rfl (HB.out.2.2.2.2.2.2))⟩,
    .inr ⟨gk0 rfl, fun A w' γ hb hF hs => op_bslice b0 b1 b2 b3 b4 b5 b6 (.tmp 13) (.tmp 16) (.tmp 18) (.tmp 21) (.tmp 24) (.tmp 27) (.tmp 31) rfl ((hs.1 2 rfl 13 rfl).trans (hF 2 rfl)) ((hs.1 5 rfl 16 rfl).trans (hF 5 rfl)) ((hs.1 7 rfl 18 rfl).trans (hF 7 rfl)) ((hs.1 10 rfl 21 rfl).trans (hF 10 rfl)) ((hs.1 13 rfl 24 rfl).trans (hF 13 rfl)) ((hs.1 16 rfl 27 rfl).trans (hF 16 rfl)) ((hs.1 20 rfl 31 rfl).trans (hF 20 rfl))⟩,
    .inr ⟨gk0 rfl, fun A w' γ hb hF hs => g_eq (op_call 27 #[γ 21] (exec_call _ 27 #[γ 21] rfl rfl (oargs1 (hs.1 21 rfl 32 rfl)) Try.func27 rfl rfl) (bsl_all [b0, b1, b2, b3, b4, b5, b6] (γ 21) _ rfl (hF 21 rfl)))⟩,
    .inr ⟨gk0 rfl, fun A w' γ hb hF hs => g_eq (op_move (.tmp 33) (.inr rfl) ((hs.1 22 rfl 33 rfl).trans (hF 22 rfl)))⟩,
    trivial⟩ ?_
  intro γ w' hb hF
  have bz := bt bb hb
  have ez : γ 23 = .bool ([b0, b1, b2, b3, b4, b5, b6].all id) := hF 23 (by decide)
  simp only [Fr, if_true, Act.put, List.setIfInBounds_toArray, List.set_cons_zero, List.set_cons_succ]
  rw [ez]
  clear ez hF
  go_wp2
  go_ret
  exact ⟨rfl, bz⟩
theorem Sane_any (lim : Nat) (iv sp fu ix op : Int) (a : Option Addr) (n c : Nat) (hl : lim < 4294967296) (r : Bool) (hr : saneR lim iv sp fu ix op n = r) (w : World) :
    Calls Try.prog 11 #[.agg (pcells lim iv sp fu ix op a n c)] w fun e w' => e = .returned (.bool r) ∧ Below w.heap.size w w' := by
  subst hr
  exact Sane_core lim (expR lim).1 (expR lim).2 iv sp fu ix op a n c _ _ _ _ _ _ _ hl rfl ⟨rfl, rfl, rfl, rfl, rfl, rfl, rfl⟩ w
end Go.Proofs.Ytndockjflnicjaa
