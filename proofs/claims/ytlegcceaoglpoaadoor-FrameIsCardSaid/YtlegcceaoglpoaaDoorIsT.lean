/- The statement FrameIs: for every input the call returns true, and its arguments read as before; the card ties SHA-256's tables to the program's text.  -/
import Derived.Test.YtlegcceaoglpoaaDoorIsC
import Derived.Test.YtlegcceaoglpoaaDoorIsD
import Derived.Test.YtlegcceaoglpoaaDoorIsK
import Derived.Test.YtlegcceaoglpoaaDoorIsS
namespace Go.Proofs.YtlegcceaoglpoaaDoor
open Go.ChangeShapes Go.WideShapes Go.ChangeAt Go.RowKit
open Go.ChangeMaps (open_string shut_string)
set_option linter.unusedVariables false

theorem Is_walk2 (w : World) (hL : Laid w) (a0 : Int) (w0 : (Lit.int .u32 a0).wf = true) (most : Int) (w1 : (Lit.int .i64 most).wf = true) (x2 : MsgT) (a2 : Option Addr) (c2 : Nat) (hC2 : CloV x2.2 (.slice a2 x2.2.length c2) w) (hcm2 : c2 ≤ 140737488355328) (hx2 : x2.1.length ≤ maxLen) (a3 : Option Addr) (l3 : List UInt8) (n3 c3 : Nat) (hl3 : l3.length = n3) (hc3 : n3 ≤ c3) (hm3 : c3 ≤ 140737488355328) (hno3 : a3 = none → n3 = 0 ∧ c3 = 0) (hR3 : RdS w a3 l3) (M4 : Nat) (K4 : Int) (a4 : Option Addr) (c4 : Nat) (l4 : List UInt8) (b4 : Int) (hM4 : M4 < 4294967296) (hK4 : (Lit.int .i64 K4).wf = true) (hb4 : (Lit.int .i64 b4).wf = true) (hC4 : CloV l4 (.slice a4 l4.length c4) w) (hcm4 : c4 ≤ 140737488355328) (a5 : Option Addr) (l5 : List UInt8) (n5 c5 : Nat) (hl5 : l5.length = n5) (hc5 : n5 ≤ c5) (hm5 : c5 ≤ 140737488355328) (hno5 : a5 = none → n5 = 0 ∧ c5 = 0) (hR5 : RdS w a5 l5) :
    Calls Tryd.prog 3 #[.int .u32 a0, .int .i64 most, .agg #[.string (bstr x2.1), .slice a2 x2.2.length c2], .slice a3 n3 c3, .agg #[.int .u32 M4, .int .i64 K4, .slice a4 l4.length c4, .int .i64 b4], .slice a5 n5 c5] w fun e w' => e = .returned (.bool true) ∧ Below w.heap.size w w' := by
  obtain ⟨k, rfl, hk⟩ : ∃ n : Nat, a0 = n ∧ n < 4294967296 := by
    simp [Lit.wf, IntKind.min, IntKind.max, IntKind.signed, IntKind.bits] at w0
    exact ⟨a0.toNat, by omega, by omega⟩
  obtain ⟨a', c', e, r1, r2, r3, r4⟩ := hC2
  injection e with e1 e2 e3
  subst e1 e3
  obtain ⟨a', c', e, t1, t2, t3, t4⟩ := hC4
  injection e with e1 e2 e3
  subst e1 e3
  exact Is_walk w hL k hk most x2 (bstr x2.1) rfl a2 x2.2.length c2 rfl r1 r2 (by omega) r4 a3 n3 c3 l3 hl3 hc3 hm3 hno3 hR3 M4 hM4 K4 b4 a4 l4.length c4 l4 rfl t2 hcm4 t4 t1 a5 n5 c5 l5 hl5 hc5 hm5 hno5 hR5

set_option maxRecDepth 100000 in
theorem contractFrameIs (H : Type) (enc : TypeId × Value → H) (W : World) (base : Nat) (args : Array Value) (ds gs : List (DataW H)) (before : List MemPlace)
    (hval0 : ∀ (j : Nat) t v, Tryd.f3.params[j]? = some t → args[j]? = some v → Value.okWide Tryd.prog W .any base t v)
    (hW : DataW.Whole enc Tryd.prog Tryd.f3.params.toList Rows.frameIsSpec.vars false W args.toList ds gs before)
    (hwt0 : (DataW.weightsEach Tryd.prog (Tryd.f3.params.toList ++ (OpenSpec.ofChange Rows.frameIsSpec).bare.plain.varTypes Tryd.prog) (ds ++ gs)).all (· ≤ reachBytes) = true)
    (hL : Laid W) :
    Calls Tryd.prog 3 args W fun e W' => ∃ v, e = .returned v ∧ Rows.frameIsSpec.post enc Tryd.prog Tryd.f3 false true false false W args v W' := by
  have hval : ∀ (j : Nat) t v, Tryd.f3.params[j]? = some t → args[j]? = some v → Value.okWide Tryd.prog W .any base t v := hval0
  have hW' := hW
  obtain ⟨p, q, hA0, hV, rfl, hfz, hnd⟩ := hW
  have hA : DataW.TrodAll enc Tryd.prog W 0 (fun _ => true) true Tryd.f3.params.toList args.toList ds p := hA0
  rw [Tryd.params3] at hA hval hwt0
  obtain ⟨v0, vs0, d0, ds0, p0, q0, hargs, rfl, rfl, h0, r0⟩ := trodAll_cons hA
  obtain ⟨v1, vs1, d1, ds1, p1, q1, rfl, rfl, rfl, h1, r1⟩ := trodAll_cons r0
  obtain ⟨v2, vs2, d2, ds2, p2, q2, rfl, rfl, rfl, h2, r2⟩ := trodAll_cons r1
  obtain ⟨v3, vs3, d3, ds3, p3, q3, rfl, rfl, rfl, h3, r3⟩ := trodAll_cons r2
  obtain ⟨v4, vs4, d4, ds4, p4, q4, rfl, rfl, rfl, h4, r4⟩ := trodAll_cons r3
  obtain ⟨v5, vs5, d5, ds5, p5, q5, rfl, rfl, rfl, h5, r5⟩ := trodAll_cons r4
  obtain ⟨rfl, rfl, rfl⟩ := trodAll_nil r5
  obtain rfl : args = #[v0, v1, v2, v3, v4, v5] := by cases args; simp_all
  obtain ⟨rfl, rfl⟩ := trodVars_none hV
  have hwt : (DataW.weights Tryd.prog 22 d0).all (· ≤ reachBytes) = true ∧ (DataW.weights Tryd.prog 3 d1).all (· ≤ reachBytes) = true ∧ (DataW.weights Tryd.prog 25 d2).all (· ≤ reachBytes) = true ∧ (DataW.weights Tryd.prog 23 d3).all (· ≤ reachBytes) = true ∧ (DataW.weights Tryd.prog 28 d4).all (· ≤ reachBytes) = true ∧ (DataW.weights Tryd.prog 23 d5).all (· ≤ reachBytes) = true := by
    have h : (DataW.weightsEach Tryd.prog [22, 3, 25, 23, 28, 23] [d0, d1, d2, d3, d4, d5]).all (· ≤ reachBytes) = true := hwt0
    simp only [DataW.weightsEach, List.all_append, Bool.and_eq_true, List.append_nil] at h
    simpa only [and_assoc, List.all_nil, and_true] using h
  obtain ⟨wt0, wt1, wt2, wt3, wt4, wt5⟩ := hwt
  obtain ⟨a0, rfl, rfl, rfl, w0⟩ := open_int Tryd.underlying22 (hval 0 22 v0 rfl rfl) h0
  obtain ⟨a1, rfl, rfl, rfl, w1⟩ := open_int Tryd.underlying3 (hval 1 3 v1 rfl rfl) h1
  have k2 := h2
  have lt2 : ∀ x ∈ p2, x.block < W.heap.size := by obtain ⟨m, hm⟩ := k2; exact DataW.trod_lt m _ _ _ hm
  obtain ⟨x2, a2, c2, rfl, hC2, hc2, hl2⟩ := open_msg (hval 2 25 _ rfl rfl) h2 wt2
  have k3 := h3
  have lt3 : ∀ x ∈ p3, x.block < W.heap.size := by obtain ⟨m, hm⟩ := k3; exact DataW.trod_lt m _ _ _ hm
  obtain ⟨a3, n3, c3, l3, rfl, hn3, hc3, hm3, ho3, hr3⟩ := open_bytes Tryd.underlying23 Tryd.underlying5 (by kernel_rfl) (by kernel_rfl) (hval 3 23 _ rfl rfl) h3 wt3
  have k4 := h4
  have lt4 : ∀ x ∈ p4, x.block < W.heap.size := by obtain ⟨m, hm⟩ := k4; exact DataW.trod_lt m _ _ _ hm
  obtain ⟨M4, K4, a4, c4, l4, b4, rfl, hM4, hK4, hb4, hC4, hc4⟩ := open_buf (hval 4 28 _ rfl rfl) h4 wt4
  have k5 := h5
  have lt5 : ∀ x ∈ p5, x.block < W.heap.size := by obtain ⟨m, hm⟩ := k5; exact DataW.trod_lt m _ _ _ hm
  obtain ⟨a5, n5, c5, l5, rfl, hn5, hc5, hm5, ho5, hr5⟩ := open_bytes Tryd.underlying23 Tryd.underlying5 (by kernel_rfl) (by kernel_rfl) (hval 5 23 _ rfl rfl) h5 wt5
  clear hA0 hval0
  refine (Is_walk2 W hL a0 w0 a1 w1 x2 a2 c2 hC2 hc2 hl2 a3 l3 n3 c3 hn3 hc3 hm3 ho3 hr3 M4 K4 a4 c4 l4 b4 hM4 hK4 hb4 hC4 hc4 a5 l5 n5 c5 hn5 hc5 hm5 ho5 hr5).mono fun e W' ⟨he, bel⟩ => ?_
  subst he
  exact ⟨_, rfl, _, _, _, [], _, [], hW', trodAll_mk1 (shut_bool Tryd.underlying4 _), (trodAll_cons_mk (shut_int Tryd.underlying22 w0) (trodAll_cons_mk (shut_int Tryd.underlying3 w1) (trodAll_cons_mk (Below.trod laidOut (by kernel_rfl) (of_decide_eq_true (by kernel_rfl)) k2 bel lt2) (trodAll_cons_mk (Below.trod laidOut (by kernel_rfl) (of_decide_eq_true (by kernel_rfl)) k3 bel lt3) (trodAll_cons_mk (Below.trod laidOut (by kernel_rfl) (of_decide_eq_true (by kernel_rfl)) k4 bel lt4) (trodAll_cons_mk (Below.trod laidOut (by kernel_rfl) (of_decide_eq_true (by kernel_rfl)) k5 bel lt5) trodAll_mk0)))))), rfl, bel.frame _, fun h => by cases h⟩

theorem laid_metFrameIs (os : Os) : laidMet Tryd.prog Rows.frameIsRow.laid ((laidWorldF os).forCall (fun _ _ => 0) ⟨#[], #[.int .u32 0, .int .i64 0, .agg #[.string ByteArray.empty, .slice none 0 0], .slice none 0 0, .agg #[.int .u32 0, .int .i64 0, .slice none 0 0, .int .i64 0], .slice none 0 0], []⟩).memory :=
  laidMet_of_run' 8 (by kernel_rfl) (by kernel_rfl)
theorem readsFrameIs (os : Os) {H : Type} (enc : TypeId × Value → H) : ∃ places, DataW.whole enc Tryd.prog ((laidWorldF os).forCall (fun _ _ => 0) ⟨#[], #[.int .u32 0, .int .i64 0, .agg #[.string ByteArray.empty, .slice none 0 0], .slice none 0 0, .agg #[.int .u32 0, .int .i64 0, .slice none 0 0, .int .i64 0], .slice none 0 0], []⟩).memory Tryd.f3.params.toList Rows.frameIsSpec.vars false (#[.int .u32 0, .int .i64 0, .agg #[.string ByteArray.empty, .slice none 0 0], .slice none 0 0, .agg #[.int .u32 0, .int .i64 0, .slice none 0 0, .int .i64 0], .slice none 0 0] : Array Value).toList 8 = some ([.lit (.int .u32 0), .lit (.int .i64 0), .agg [.lit (.string []), .nil], .nil, .agg [.lit (.int .u32 0), .lit (.int .i64 0), .nil, .lit (.int .i64 0)], .nil], [], places) :=
  ⟨[], by kernel_rfl⟩
set_option maxRecDepth 100000 in
theorem liftedFrameIs (os : Os) (started : os.Started) (H : Type) (enc : TypeId × Value → H) (F : Stop.Interp) :
    ReturnsInHanded {} Tryd.checked os 3 .any ((OpenSpec.ofChange Rows.frameIsSpec).preRow enc Tryd.prog Tryd.f3 Rows.frameIsRow.domain false Rows.frameIsRow.laid) (((OpenSpec.ofChange Rows.frameIsSpec).at F).post enc Tryd.prog Tryd.f3 false true false false) := by
  obtain ⟨places, hx⟩ := readsFrameIs os enc
  refine returnsInHanded_of_row (C := Tryd.checked) (s := OpenSpec.ofChange Rows.frameIsSpec) own started (by kernel_rfl) Tryd.func3
    (witness_row_at (enc := enc) (C := Tryd.checked) false (laidWorldF os) #[.int .u32 0, .int .i64 0, .agg #[.string ByteArray.empty, .slice none 0 0], .slice none 0 0, .agg #[.int .u32 0, .int .i64 0, .slice none 0 0, .int .i64 0], .slice none 0 0] rfl (by kernel_rfl) (by kernel_rfl) (by kernel_rfl)
      (OpenSpec.preRow_of_cond 8 hx (by kernel_rfl) (fun k hk => by cases hk) (by kernel_rfl) (laid_metFrameIs os))) ?_
  intro W base args ds gs before hval hW _ _ hwt hL _ _
  exact contractFrameIs H enc W base args ds gs before hval hW hwt (LaidF_of hL)
theorem FrameIs_said : Rows.FrameIsSaid :=
  OpenClaim.holds_of_cond 3 Tryd.f3 rfl rfl rfl rfl rfl rfl rfl ⟨rfl, rfl, rfl, rfl, rfl⟩ rfl rfl rfl rfl rfl (by kernel_rfl) Tryd.func3 (by kernel_rfl)
    (of_decide_eq_true (by kernel_rfl)) (by unfold Func.isWrapper; first | (rw [if_pos (by decide +kernel)]; kernel_rfl) | (rw [if_neg (by decide +kernel)]; exact ⟨rfl, rfl⟩))
    (fun os started H enc _ F => by rw [OpenClaim.pre_eq_preRow]; exact liftedFrameIs os started H enc F)
theorem FrameIs_holds : Rows.FrameIsCardSaid :=
  Claim7.holds_tied_plain_at .later [] _ _ _ _ FrameIs_said (fun _ h => by cases h) (by kernel_rfl) (fun _ h => by cases h) frameIs_row_tie rfl ⟨rfl, rfl⟩ (by kernel_rfl) rfl (plain_of (by kernel_rfl) Tryd.func3 (by kernel_rfl)) (by kernel_rfl)
#print axioms FrameIs_holds
end Go.Proofs.YtlegcceaoglpoaaDoor
