/- retarget.Chain. -/
import Derived.Test.YtndockjflnicjaaHdrs
import Derived.Test.YtndockjflnicjaaRetE
import Derived.Test.YtndockjflnicjaaCellSt
import Derived.Test.YtndockjflnicjaaGuardB
namespace Go.Proofs.Ytndockjflnicjaa
open Go.RowKit
set_option linter.unusedVariables false
theorem idx_hdr (b o n c k : Nat) (hk : k < n) (w : World) : (Instr.indexAt 47 (.slice (some ⟨b, o, none⟩) n c) (.int .i64 k)).run Try.prog w = .ok (.pointer (some ⟨b, o + k * 68, none⟩)) w := by
  obtain ⟨i, hi⟩ := Option.isSome_iff_exists.1 (show (Try.prog.info? 29).isSome = true by kernel_rfl)
  have h1 : i.size = 68 := by
    have : (Try.prog.info? 29).map (·.size) = some 68 := by kernel_rfl
    rw [hi] at this
    simpa using this
  have e1 : (0 : Int) ≤ (k : Int) ∧ (k : Int) < (n : Int) := by omega
  simp [Instr.indexAt, go_sem, run_underlying Try.underlying47, asIntOf, sizeOf, typeInfo, hi, h1, e1, Addr.add]
  rw [if_pos hk]
  by_cases h : k = 0
  · simp [h]
  · rw [if_neg (by omega)]
section
variable {P : Program} {Q : Exit → Act → World → Prop} {o : Oper} {A : Act} {w : World} {u : Value}
theorem op_mid (ty : TypeId) (x : Operand) (ho : o.op = .load ty x) (b f : Nat) (hx : A.eval x = .pointer (some ⟨b, f, none⟩)) (cs : List Value) (d : TypeDesc) (hc : w.rangeAt b f cs)
    (hu : P.underlying ty = some d) (hd : d.isRow = true) (hi : (P.info? ty).map (·.size) = some cs.length) : o.wp P A w (fun a' w'' => a' = A.put o.dst (.agg cs.toArray) ∧ Below w.heap.size w w'') Q :=
  wp_load_mid ty x ho b f hx cs d hc hu hd hi ⟨rfl, Below.refl _ _⟩
theorem op_mfld (T : TypeId) (x : Operand) (k off : Nat) (ho : o.op = .fieldAddr T x k) (g f : Nat) (hx : A.eval x = .pointer (some ⟨g, f, none⟩)) (hf : ∀ (g f : Nat) (w : World), (Instr.fieldAt T (.pointer (some ⟨g, f, none⟩)) k).run P w = .ok (.pointer (some ⟨g, f + off, none⟩)) w) :
    o.wp P A w (fun a' w'' => a' = A.put o.dst (.pointer (some ⟨g, f + off, none⟩)) ∧ Below w.heap.size w w'') Q := by
  refine op_run ?_
  unfold execOp
  simp only [ho, hx, Sem.run_bind, hf]
  rfl
end
set_option maxRecDepth 100000 in
set_option maxHeartbeats 8000000 in
theorem Chain_core (lim iv' x tf k1 f b o o1 o2 n c : Nat) (iv sp fu ix op : Int) (ca : Option Addr) (cn cc : Nat) (rf rl : List Value) (hn0 : ((n : Int) == 0) = false) (w : World) (iP : (Try.prog.info? 25).map (·.size) = some (pcells lim iv sp fu ix op ca cn cc).size) (iF : (Try.prog.info? 29).map (·.size) = some rf.toArray.size) (iL : (Try.prog.info? 29).map (·.size) = some rl.length) (iFl : (Try.prog.info? 29).map (·.size) = some rf.length)
    (HR : Hid (w.rangeAt b o1 rf ∧ w.rangeAt b o2 rl ∧ b < w.heap.size)) (HF : Hid (rf.toArray[65]? = some (.int .u32 tf) ∧ rf.toArray.all (·.oneCell') = true ∧ (#[Value.int .u32 0, Value.int .u8 0, Value.int .u8 0, Value.int .u8 0, Value.int .u8 0, Value.int .u8 0, Value.int .u8 0, Value.int .u8 0, Value.int .u8 0, Value.int .u8 0, Value.int .u8 0, Value.int .u8 0, Value.int .u8 0, Value.int .u8 0, Value.int .u8 0, Value.int .u8 0, Value.int .u8 0, Value.int .u8 0, Value.int .u8 0, Value.int .u8 0, Value.int .u8 0, Value.int .u8 0, Value.int .u8 0, Value.int .u8 0, Value.int .u8 0, Value.int .u8 0, Value.int .u8 0, Value.int .u8 0, Value.int .u8 0, Value.int .u8 0, Value.int .u8 0, Value.int .u8 0, Value.int .u8 0, Value.int .u8 0, Value.int .u8 0, Value.int .u8 0, Value.int .u8 0, Value.int .u8 0, Value.int .u8 0, Value.int .u8 0, Value.int .u8 0, Value.int .u8 0, Value.int .u8 0, Value.int .u8 0, Value.int .u8 0, Value.int .u8 0, Value.int .u8 0, Value.int .u8 0, Value.int .u8 0, Value.int .u8 0, Value.int .u8 0, Value.int .u8 0, Value.int .u8 0, Value.int .u8 0, Value.int .u8 0, Value.int .u8 0, Value.int .u8 0, Value.int .u8 0, Value.int .u8 0, Value.int .u8 0, Value.int .u8 0, Value.int .u8 0, Value.int .u8 0, Value.int .u8 0, Value.int .u8 0, .int .u32 0, .int .u32 0, .int .u32 0] : Array Value).size = rf.toArray.size))
    (HI : Hid (∀ w, (Instr.indexAt 47 (.slice (some ⟨b, o, none⟩) n c) (.int .i64 f)).run Try.prog w = .ok (.pointer (some ⟨b, o1, none⟩)) w)) (HE : Hid (IntKind.i64.wrap ((n : Int) - 1) = (k1 : Int) ∧ (∀ w, (Instr.indexAt 47 (.slice (some ⟨b, o, none⟩) n c) (.int .i64 k1)).run Try.prog w = .ok (.pointer (some ⟨b, o2, none⟩)) w)))
    (HFi : Hid (∀ w, Calls Try.prog 14 #[.int .i64 n, .int .i64 iv] w fun e w' => e = .returned (.int .i64 f) ∧ Below w.heap.size w w')) (HN : Hid (∀ w, Calls Try.prog 9 #[.agg (pcells lim iv sp fu ix op ca cn cc), .int .i64 n, .agg rl.toArray, .int .u32 tf] w fun e w' => e = .returned (.int .u32 x) ∧ Below w.heap.size w w')) :
    Calls Try.prog 19 #[.agg (pcells lim iv sp fu ix op ca cn cc), .slice (some ⟨b, o, none⟩) n c] w fun e w' => e = .returned (.int .u32 x) ∧ Below w.heap.size w w' := by
  go_enter Try.func19, Try.ntmps19
  go_wp2_with fail
  refine (HFi.out _).mono ?_
  rintro q w1 ⟨rfl, hb1⟩
  have q_p := (Blk.newAt w 25 (pcells lim iv sp fu ix op ca cn cc) rfl).calls hb1
  have bb := bt (ba (Below.refl w.heap.size w) _) hb1
  clear hb1
  have hix := HI.out
  have hz := zeroHeader
  go_wp2_with (first | with_reducible refine wpList_load_mid rfl _ _ rfl b o1 rfl rf _ (rangeAt_below HR.out.1 bb HR.out.2.2) Try.underlying29 rfl iFl ?_ | with_reducible refine ws_row (Blk.new w1 29 #[Value.int .u32 0, Value.int .u8 0, Value.int .u8 0, Value.int .u8 0, Value.int .u8 0, Value.int .u8 0, Value.int .u8 0, Value.int .u8 0, Value.int .u8 0, Value.int .u8 0, Value.int .u8 0, Value.int .u8 0, Value.int .u8 0, Value.int .u8 0, Value.int .u8 0, Value.int .u8 0, Value.int .u8 0, Value.int .u8 0, Value.int .u8 0, Value.int .u8 0, Value.int .u8 0, Value.int .u8 0, Value.int .u8 0, Value.int .u8 0, Value.int .u8 0, Value.int .u8 0, Value.int .u8 0, Value.int .u8 0, Value.int .u8 0, Value.int .u8 0, Value.int .u8 0, Value.int .u8 0, Value.int .u8 0, Value.int .u8 0, Value.int .u8 0, Value.int .u8 0, Value.int .u8 0, Value.int .u8 0, Value.int .u8 0, Value.int .u8 0, Value.int .u8 0, Value.int .u8 0, Value.int .u8 0, Value.int .u8 0, Value.int .u8 0, Value.int .u8 0, Value.int .u8 0, Value.int .u8 0, Value.int .u8 0, Value.int .u8 0, Value.int .u8 0, Value.int .u8 0, Value.int .u8 0, Value.int .u8 0, Value.int .u8 0, Value.int .u8 0, Value.int .u8 0, Value.int .u8 0, Value.int .u8 0, Value.int .u8 0, Value.int .u8 0, Value.int .u8 0, Value.int .u8 0, Value.int .u8 0, Value.int .u8 0, .int .u32 0, .int .u32 0, .int .u32 0]) _ _ _ _ rfl rfl rfl rfl iF HF.out.2.2 HF.out.2.1 ?_)
  have l0 := q_p.lt
  have q_f : Blk ((w1.alloc (.cells #[Value.int .u32 0, Value.int .u8 0, Value.int .u8 0, Value.int .u8 0, Value.int .u8 0, Value.int .u8 0, Value.int .u8 0, Value.int .u8 0, Value.int .u8 0, Value.int .u8 0, Value.int .u8 0, Value.int .u8 0, Value.int .u8 0, Value.int .u8 0, Value.int .u8 0, Value.int .u8 0, Value.int .u8 0, Value.int .u8 0, Value.int .u8 0, Value.int .u8 0, Value.int .u8 0, Value.int .u8 0, Value.int .u8 0, Value.int .u8 0, Value.int .u8 0, Value.int .u8 0, Value.int .u8 0, Value.int .u8 0, Value.int .u8 0, Value.int .u8 0, Value.int .u8 0, Value.int .u8 0, Value.int .u8 0, Value.int .u8 0, Value.int .u8 0, Value.int .u8 0, Value.int .u8 0, Value.int .u8 0, Value.int .u8 0, Value.int .u8 0, Value.int .u8 0, Value.int .u8 0, Value.int .u8 0, Value.int .u8 0, Value.int .u8 0, Value.int .u8 0, Value.int .u8 0, Value.int .u8 0, Value.int .u8 0, Value.int .u8 0, Value.int .u8 0, Value.int .u8 0, Value.int .u8 0, Value.int .u8 0, Value.int .u8 0, Value.int .u8 0, Value.int .u8 0, Value.int .u8 0, Value.int .u8 0, Value.int .u8 0, Value.int .u8 0, Value.int .u8 0, Value.int .u8 0, Value.int .u8 0, Value.int .u8 0, .int .u32 0, .int .u32 0, .int .u32 0] 29)).setRow w1.heap.size rf.toArray) w1.heap.size 29 rf.toArray := (Blk.new w1 29 #[Value.int .u32 0, Value.int .u8 0, Value.int .u8 0, Value.int .u8 0, Value.int .u8 0, Value.int .u8 0, Value.int .u8 0, Value.int .u8 0, Value.int .u8 0, Value.int .u8 0, Value.int .u8 0, Value.int .u8 0, Value.int .u8 0, Value.int .u8 0, Value.int .u8 0, Value.int .u8 0, Value.int .u8 0, Value.int .u8 0, Value.int .u8 0, Value.int .u8 0, Value.int .u8 0, Value.int .u8 0, Value.int .u8 0, Value.int .u8 0, Value.int .u8 0, Value.int .u8 0, Value.int .u8 0, Value.int .u8 0, Value.int .u8 0, Value.int .u8 0, Value.int .u8 0, Value.int .u8 0, Value.int .u8 0, Value.int .u8 0, Value.int .u8 0, Value.int .u8 0, Value.int .u8 0, Value.int .u8 0, Value.int .u8 0, Value.int .u8 0, Value.int .u8 0, Value.int .u8 0, Value.int .u8 0, Value.int .u8 0, Value.int .u8 0, Value.int .u8 0, Value.int .u8 0, Value.int .u8 0, Value.int .u8 0, Value.int .u8 0, Value.int .u8 0, Value.int .u8 0, Value.int .u8 0, Value.int .u8 0, Value.int .u8 0, Value.int .u8 0, Value.int .u8 0, Value.int .u8 0, Value.int .u8 0, Value.int .u8 0, Value.int .u8 0, Value.int .u8 0, Value.int .u8 0, Value.int .u8 0, Value.int .u8 0, .int .u32 0, .int .u32 0, .int .u32 0]).row _
  replace q_p := (q_p.alloc (.cells #[Value.int .u32 0, Value.int .u8 0, Value.int .u8 0, Value.int .u8 0, Value.int .u8 0, Value.int .u8 0, Value.int .u8 0, Value.int .u8 0, Value.int .u8 0, Value.int .u8 0, Value.int .u8 0, Value.int .u8 0, Value.int .u8 0, Value.int .u8 0, Value.int .u8 0, Value.int .u8 0, Value.int .u8 0, Value.int .u8 0, Value.int .u8 0, Value.int .u8 0, Value.int .u8 0, Value.int .u8 0, Value.int .u8 0, Value.int .u8 0, Value.int .u8 0, Value.int .u8 0, Value.int .u8 0, Value.int .u8 0, Value.int .u8 0, Value.int .u8 0, Value.int .u8 0, Value.int .u8 0, Value.int .u8 0, Value.int .u8 0, Value.int .u8 0, Value.int .u8 0, Value.int .u8 0, Value.int .u8 0, Value.int .u8 0, Value.int .u8 0, Value.int .u8 0, Value.int .u8 0, Value.int .u8 0, Value.int .u8 0, Value.int .u8 0, Value.int .u8 0, Value.int .u8 0, Value.int .u8 0, Value.int .u8 0, Value.int .u8 0, Value.int .u8 0, Value.int .u8 0, Value.int .u8 0, Value.int .u8 0, Value.int .u8 0, Value.int .u8 0, Value.int .u8 0, Value.int .u8 0, Value.int .u8 0, Value.int .u8 0, Value.int .u8 0, Value.int .u8 0, Value.int .u8 0, Value.int .u8 0, Value.int .u8 0, .int .u32 0, .int .u32 0, .int .u32 0] 29)).rowFar (Nat.ne_of_lt l0) rf.toArray
  replace bb := setRow_below (ba bb (.cells #[Value.int .u32 0, Value.int .u8 0, Value.int .u8 0, Value.int .u8 0, Value.int .u8 0, Value.int .u8 0, Value.int .u8 0, Value.int .u8 0, Value.int .u8 0, Value.int .u8 0, Value.int .u8 0, Value.int .u8 0, Value.int .u8 0, Value.int .u8 0, Value.int .u8 0, Value.int .u8 0, Value.int .u8 0, Value.int .u8 0, Value.int .u8 0, Value.int .u8 0, Value.int .u8 0, Value.int .u8 0, Value.int .u8 0, Value.int .u8 0, Value.int .u8 0, Value.int .u8 0, Value.int .u8 0, Value.int .u8 0, Value.int .u8 0, Value.int .u8 0, Value.int .u8 0, Value.int .u8 0, Value.int .u8 0, Value.int .u8 0, Value.int .u8 0, Value.int .u8 0, Value.int .u8 0, Value.int .u8 0, Value.int .u8 0, Value.int .u8 0, Value.int .u8 0, Value.int .u8 0, Value.int .u8 0, Value.int .u8 0, Value.int .u8 0, Value.int .u8 0, Value.int .u8 0, Value.int .u8 0, Value.int .u8 0, Value.int .u8 0, Value.int .u8 0, Value.int .u8 0, Value.int .u8 0, Value.int .u8 0, Value.int .u8 0, Value.int .u8 0, Value.int .u8 0, Value.int .u8 0, Value.int .u8 0, Value.int .u8 0, Value.int .u8 0, Value.int .u8 0, Value.int .u8 0, Value.int .u8 0, Value.int .u8 0, .int .u32 0, .int .u32 0, .int .u32 0] 29)) (by have := bb.size; exact this) rf.toArray
  clear hix hz
  generalize (w1.alloc (.cells #[Value.int .u32 0, Value.int .u8 0, Value.int .u8 0, Value.int .u8 0, Value.int .u8 0, Value.int .u8 0, Value.int .u8 0, Value.int .u8 0, Value.int .u8 0, Value.int .u8 0, Value.int .u8 0, Value.int .u8 0, Value.int .u8 0, Value.int .u8 0, Value.int .u8 0, Value.int .u8 0, Value.int .u8 0, Value.int .u8 0, Value.int .u8 0, Value.int .u8 0, Value.int .u8 0, Value.int .u8 0, Value.int .u8 0, Value.int .u8 0, Value.int .u8 0, Value.int .u8 0, Value.int .u8 0, Value.int .u8 0, Value.int .u8 0, Value.int .u8 0, Value.int .u8 0, Value.int .u8 0, Value.int .u8 0, Value.int .u8 0, Value.int .u8 0, Value.int .u8 0, Value.int .u8 0, Value.int .u8 0, Value.int .u8 0, Value.int .u8 0, Value.int .u8 0, Value.int .u8 0, Value.int .u8 0, Value.int .u8 0, Value.int .u8 0, Value.int .u8 0, Value.int .u8 0, Value.int .u8 0, Value.int .u8 0, Value.int .u8 0, Value.int .u8 0, Value.int .u8 0, Value.int .u8 0, Value.int .u8 0, Value.int .u8 0, Value.int .u8 0, Value.int .u8 0, Value.int .u8 0, Value.int .u8 0, Value.int .u8 0, Value.int .u8 0, Value.int .u8 0, Value.int .u8 0, Value.int .u8 0, Value.int .u8 0, .int .u32 0, .int .u32 0, .int .u32 0] 29)).setRow w1.heap.size rf.toArray = w2 at *
  have l_p := q_p.lt
  have l_f := q_f.lt
  refine wp_region_g [some 19, some 20, some 21, some 22, some 23, some 24, some 25, some 26, some 27, some 28, some 29, some 30, some 4] (FL [
      EqV (.agg (pcells lim iv sp fu ix op ca cn cc)),
      EqV (.slice (some ⟨b, o, none⟩) n c),
      EqV (.int .i64 n),
      EqV (.slice (some ⟨b, o, none⟩) n c),
      EqV (.slice (some ⟨b, o, none⟩) n c),
      EqV (.int .i64 n),
      EqV (.int .i64 ((k1 : Int))),
      EqV (.pointer (some ⟨b, o2, none⟩)),
      EqV (.agg rl.toArray),
      EqV (.pointer (some ⟨w1.heap.size, 65, none⟩)),
      EqV (.int .u32 tf),
      EqV (.int .u32 x),
      EqV (.int .u32 x)
    ]) (FL_keeps ⟨keeps_eq _, keeps_eq _, keeps_eq _, keeps_eq _, keeps_eq _, keeps_eq _, keeps_eq _, keeps_eq _, keeps_eq _, keeps_eq _, keeps_eq _, keeps_eq _, keeps_eq _, trivial⟩) (by kernel_rfl) rfl rfl rfl rfl ⟨
    .inr ⟨gk0 rfl, fun A w' γ hb hF hs => g_eq (op_load_st 25 (.tmp 2) rfl ((hs.2 2 rfl).trans rfl) (q_p.below hb l_p) Try.underlying25 (iP))⟩,
    .inr ⟨gk0 rfl, fun A w' γ hb hF hs => g_eq (op_move (.tmp 1) (.inl rfl) ((hs.2 1 rfl).trans rfl))⟩,
    .inr ⟨gk0 rfl, fun A w' γ hb hF hs => g_eq (op_len (.tmp 20) 47 _ (some ⟨b, o, none⟩) n c rfl ((hs.1 1 rfl 20 rfl).trans (hF 1 rfl)) Try.underlying47)⟩,
    .inr ⟨gk0 rfl, fun A w' γ hb hF hs => g_eq (op_move (.tmp 1) (.inl rfl) ((hs.2 1 rfl).trans rfl))⟩,
    .inr ⟨gk0 rfl, fun A w' γ hb hF hs => g_eq (op_move (.tmp 1) (.inl rfl) ((hs.2 1 rfl).trans rfl))⟩,
    .inr ⟨gk0 rfl, fun A w' γ hb hF hs => g_eq (op_len (.tmp 23) 47 _ (some ⟨b, o, none⟩) n c rfl ((hs.1 4 rfl 23 rfl).trans (hF 4 rfl)) Try.underlying47)⟩,
    .inr ⟨gk0 rfl, fun A w' γ hb hF hs => g_eq (op_sub 3 _ (.tmp 24) (.const (.int .i64 1)) .i64 (n) (1) ((k1 : Int)) rfl ((hs.1 5 rfl 24 rfl).trans (hF 5 rfl)) rfl (HE.out.1))⟩,
    .inr ⟨gk0 rfl, fun A w' γ hb hF hs => g_eq (op_idxa 47 (.tmp 22) (.tmp 25) rfl ((hs.1 3 rfl 22 rfl).trans (hF 3 rfl)) ((hs.1 6 rfl 25 rfl).trans (hF 6 rfl)) (HE.out.2 _))⟩,
    .inr ⟨gk0 rfl, fun A w' γ hb hF hs => g_eq (op_mid 29 (.tmp 26) rfl b o2 ((hs.1 7 rfl 26 rfl).trans (hF 7 rfl)) rl _ (rangeAt_below HR.out.2.1 (bb.trans (hb.mono bb.size)) HR.out.2.2) Try.underlying29 rfl (iL))⟩,
    .inr ⟨gk0 rfl, fun A w' γ hb hF hs => g_eq (op_fld 29 (.tmp 5) 3 65 rfl w1.heap.size ((hs.2 5 rfl).trans rfl) fun _ _ => by kernel_rfl)⟩,
    .inr ⟨gk0 rfl, fun A w' γ hb hF hs => g_eq (op_cel 22 (.tmp 28) rfl _ ((hs.1 9 rfl 28 rfl).trans (hF 9 rfl)) _ (blk_get (q_f.below hb l_f) 65 _ HF.out.1) _ Try.underlying22 rfl)⟩,
    .inr ⟨gk0 rfl, fun A w' γ hb hF hs => g_eq (op_call 9 #[.agg (pcells lim iv sp fu ix op ca cn cc), .int .i64 n, .agg rl.toArray, .int .u32 tf] (exec_call _ 9 #[.agg (pcells lim iv sp fu ix op ca cn cc), .int .i64 n, .agg rl.toArray, .int .u32 tf] rfl rfl (oargs4 ((hs.1 0 rfl 19 rfl).trans (hF 0 rfl)) ((hs.1 2 rfl 21 rfl).trans (hF 2 rfl)) ((hs.1 8 rfl 27 rfl).trans (hF 8 rfl)) ((hs.1 10 rfl 29 rfl).trans (hF 10 rfl))) Try.func9 rfl rfl) (HN.out _))⟩,
    .inr ⟨gk0 rfl, fun A w' γ hb hF hs => g_eq (op_move (.tmp 30) (.inr rfl) ((hs.1 11 rfl 30 rfl).trans (hF 11 rfl)))⟩,
    trivial⟩ ?_
  intro γ w' hb hF
  have bz := bb.trans (hb.mono bb.size)
  have ez : γ 12 = .int .u32 x := hF 12 (by decide)
  simp only [Fr, if_true, Act.put, List.setIfInBounds_toArray, List.set_cons_zero, List.set_cons_succ]
  rw [ez]
  clear ez hF
  go_wp2
  go_ret
  exact ⟨rfl, bz⟩
end Go.Proofs.Ytndockjflnicjaa
