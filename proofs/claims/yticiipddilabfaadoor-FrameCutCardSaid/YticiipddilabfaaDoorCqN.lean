/- The statement FrameCut: for every input the call returns true, and its arguments read as before; the card ties SHA-256's tables to the program's text.  -/
import Derived.Test.YticiipddilabfaaDoorCqC
import Derived.Test.YticiipddilabfaaDoorCqD
import Derived.Test.YticiipddilabfaaDoorCqM
namespace Go.Proofs.YticiipddilabfaaDoor
open Go.ChangeShapes Go.WideShapes Go.ChangeAt Go.RowKit
open Go.ChangeMaps (open_string shut_string)
set_option linter.unusedVariables false

theorem Cut_walk2 (w : World) (hL : Laid w) (a0 : Int) (w0 : (Lit.int .u32 a0).wf = true) (most : Int) (w1 : (Lit.int .i64 most).wf = true) (a2 : Option Addr) (l2 : List UInt8) (n2 c2 : Nat) (hl2 : l2.length = n2) (hc2 : n2 ≤ c2) (hm2 : c2 ≤ 140737488355328) (hno2 : a2 = none → n2 = 0 ∧ c2 = 0) (hR2 : RdS w a2 l2) (a3 : Option Addr) (l3 : List UInt8) (n3 c3 : Nat) (hl3 : l3.length = n3) (hc3 : n3 ≤ c3) (hm3 : c3 ≤ 140737488355328) (hno3 : a3 = none → n3 = 0 ∧ c3 = 0) (hR3 : RdS w a3 l3) (a4 : Option Addr) (l4 : List UInt8) (n4 c4 : Nat) (hl4 : l4.length = n4) (hc4 : n4 ≤ c4) (hm4 : c4 ≤ 140737488355328) (hno4 : a4 = none → n4 = 0 ∧ c4 = 0) (hR4 : RdS w a4 l4) :
    Calls Tryd.prog 5 #[.int .u32 a0, .int .i64 most, .slice a2 n2 c2, .slice a3 n3 c3, .slice a4 n4 c4] w fun e w' => e = .returned (.bool true) ∧ Below w.heap.size w w' := by
  obtain ⟨k, rfl, hk⟩ : ∃ n : Nat, a0 = n ∧ n < 4294967296 := by
    simp [Lit.wf, IntKind.min, IntKind.max, IntKind.signed, IntKind.bits] at w0
    exact ⟨a0.toNat, by omega, by omega⟩
  exact Cut_walk w hL k hk most a2 n2 c2 l2 a3 n3 c3 l3 a4 n4 c4 l4 hl2 hl3 hl4 hc2 hm2 hc3 hm3 hc4 hm4 hno2 hno3 hno4 hR2 hR3 hR4

set_option maxRecDepth 100000 in
theorem contractFrameCut (H : Type) (enc : TypeId × Value → H) (W : World) (base : Nat) (args : Array Value) (ds gs : List (DataW H)) (before : List MemPlace)
    (hval0 : ∀ (j : Nat) t v, Tryd.f5.params[j]? = some t → args[j]? = some v → Value.okWide Tryd.prog W .any base t v)
    (hW : DataW.Whole enc Tryd.prog Tryd.f5.params.toList Rows.frameCutSpec.vars false W args.toList ds gs before)
    (hwt0 : (DataW.weightsEach Tryd.prog (Tryd.f5.params.toList ++ (OpenSpec.ofChange Rows.frameCutSpec).bare.plain.varTypes Tryd.prog) (ds ++ gs)).all (· ≤ reachBytes) = true)
    (hL : Laid W) :
    Calls Tryd.prog 5 args W fun e W' => ∃ v, e = .returned v ∧ Rows.frameCutSpec.post enc Tryd.prog Tryd.f5 false true false false W args v W' := by
  have hval : ∀ (j : Nat) t v, Tryd.f5.params[j]? = some t → args[j]? = some v → Value.okWide Tryd.prog W .any base t v := hval0
  have hW' := hW
  obtain ⟨p, q, hA0, hV, rfl, hfz, hnd⟩ := hW
  have hA : DataW.TrodAll enc Tryd.prog W 0 (fun _ => true) true Tryd.f5.params.toList args.toList ds p := hA0
  rw [Tryd.params5] at hA hval hwt0
  obtain ⟨v0, vs0, d0, ds0, p0, q0, hargs, rfl, rfl, h0, r0⟩ := trodAll_cons hA
  obtain ⟨v1, vs1, d1, ds1, p1, q1, rfl, rfl, rfl, h1, r1⟩ := trodAll_cons r0
  obtain ⟨v2, vs2, d2, ds2, p2, q2, rfl, rfl, rfl, h2, r2⟩ := trodAll_cons r1
  obtain ⟨v3, vs3, d3, ds3, p3, q3, rfl, rfl, rfl, h3, r3⟩ := trodAll_cons r2
  obtain ⟨v4, vs4, d4, ds4, p4, q4, rfl, rfl, rfl, h4, r4⟩ := trodAll_cons r3
  obtain ⟨rfl, rfl, rfl⟩ := trodAll_nil r4
  obtain rfl : args = #[v0, v1, v2, v3, v4] := by cases args; simp_all
  obtain ⟨rfl, rfl⟩ := trodVars_none hV
  have hwt : (DataW.weights Tryd.prog 22 d0).all (· ≤ reachBytes) = true ∧ (DataW.weights Tryd.prog 3 d1).all (· ≤ reachBytes) = true ∧ (DataW.weights Tryd.prog 23 d2).all (· ≤ reachBytes) = true ∧ (DataW.weights Tryd.prog 23 d3).all (· ≤ reachBytes) = true ∧ (DataW.weights Tryd.prog 23 d4).all (· ≤ reachBytes) = true := by
    have h : (DataW.weightsEach Tryd.prog [22, 3, 23, 23, 23] [d0, d1, d2, d3, d4]).all (· ≤ reachBytes) = true := hwt0
    simp only [DataW.weightsEach, List.all_append, Bool.and_eq_true, List.append_nil] at h
    simpa only [and_assoc, List.all_nil, and_true] using h
  obtain ⟨wt0, wt1, wt2, wt3, wt4⟩ := hwt
  obtain ⟨a0, rfl, rfl, rfl, w0⟩ := open_int Tryd.underlying22 (hval 0 22 v0 rfl rfl) h0
  obtain ⟨a1, rfl, rfl, rfl, w1⟩ := open_int Tryd.underlying3 (hval 1 3 v1 rfl rfl) h1
  have k2 := h2
  have lt2 : ∀ x ∈ p2, x.block < W.heap.size := by obtain ⟨m, hm⟩ := k2; exact DataW.trod_lt m _ _ _ hm
  obtain ⟨a2, n2, c2, l2, rfl, hn2, hc2, hm2, ho2, hr2⟩ := open_bytes Tryd.underlying23 Tryd.underlying5 (by kernel_rfl) (by kernel_rfl) (hval 2 23 _ rfl rfl) h2 wt2
  have k3 := h3
  have lt3 : ∀ x ∈ p3, x.block < W.heap.size := by obtain ⟨m, hm⟩ := k3; exact DataW.trod_lt m _ _ _ hm
  obtain ⟨a3, n3, c3, l3, rfl, hn3, hc3, hm3, ho3, hr3⟩ := open_bytes Tryd.underlying23 Tryd.underlying5 (by kernel_rfl) (by kernel_rfl) (hval 3 23 _ rfl rfl) h3 wt3
  have k4 := h4
  have lt4 : ∀ x ∈ p4, x.block < W.heap.size := by obtain ⟨m, hm⟩ := k4; exact DataW.trod_lt m _ _ _ hm
  obtain ⟨a4, n4, c4, l4, rfl, hn4, hc4, hm4, ho4, hr4⟩ := open_bytes Tryd.underlying23 Tryd.underlying5 (by kernel_rfl) (by kernel_rfl) (hval 4 23 _ rfl rfl) h4 wt4
  clear hA0 hval0
  refine (Cut_walk2 W hL a0 w0 a1 w1 a2 l2 n2 c2 hn2 hc2 hm2 ho2 hr2 a3 l3 n3 c3 hn3 hc3 hm3 ho3 hr3 a4 l4 n4 c4 hn4 hc4 hm4 ho4 hr4).mono fun e W' ⟨he, bel⟩ => ?_
  subst he
  exact ⟨_, rfl, _, _, _, [], _, [], hW', trodAll_mk1 (shut_bool Tryd.underlying4 _), (trodAll_cons_mk (shut_int Tryd.underlying22 w0) (trodAll_cons_mk (shut_int Tryd.underlying3 w1) (trodAll_cons_mk (Below.trod laidOut (by kernel_rfl) (of_decide_eq_true (by kernel_rfl)) k2 bel lt2) (trodAll_cons_mk (Below.trod laidOut (by kernel_rfl) (of_decide_eq_true (by kernel_rfl)) k3 bel lt3) (trodAll_cons_mk (Below.trod laidOut (by kernel_rfl) (of_decide_eq_true (by kernel_rfl)) k4 bel lt4) trodAll_mk0))))), rfl, bel.frame _, fun h => by cases h⟩

theorem laid_metFrameCut (os : Os) : laidMet Tryd.prog Rows.frameCutRow.laid ((laidWorldF os).forCall (fun _ _ => 0) ⟨#[], #[.int .u32 0, .int .i64 0, .slice none 0 0, .slice none 0 0, .slice none 0 0], []⟩).memory :=
  laidMet_of_run' 8 (by kernel_rfl) (by kernel_rfl)
theorem readsFrameCut (os : Os) {H : Type} (enc : TypeId × Value → H) : ∃ places, DataW.whole enc Tryd.prog ((laidWorldF os).forCall (fun _ _ => 0) ⟨#[], #[.int .u32 0, .int .i64 0, .slice none 0 0, .slice none 0 0, .slice none 0 0], []⟩).memory Tryd.f5.params.toList Rows.frameCutSpec.vars false (#[.int .u32 0, .int .i64 0, .slice none 0 0, .slice none 0 0, .slice none 0 0] : Array Value).toList 8 = some ([.lit (.int .u32 0), .lit (.int .i64 0), .nil, .nil, .nil], [], places) :=
  ⟨[], by kernel_rfl⟩
set_option maxRecDepth 100000 in
theorem liftedFrameCut (os : Os) (started : os.Started) (H : Type) (enc : TypeId × Value → H) (F : Stop.Interp) :
    ReturnsInHanded {} Tryd.checked os 5 .any ((OpenSpec.ofChange Rows.frameCutSpec).preRow enc Tryd.prog Tryd.f5 Rows.frameCutRow.domain false Rows.frameCutRow.laid) (((OpenSpec.ofChange Rows.frameCutSpec).at F).post enc Tryd.prog Tryd.f5 false true false false) := by
  obtain ⟨places, hx⟩ := readsFrameCut os enc
  refine returnsInHanded_of_row (C := Tryd.checked) (s := OpenSpec.ofChange Rows.frameCutSpec) own started (by kernel_rfl) Tryd.func5
    (witness_row_at (enc := enc) (C := Tryd.checked) false (laidWorldF os) #[.int .u32 0, .int .i64 0, .slice none 0 0, .slice none 0 0, .slice none 0 0] rfl (by kernel_rfl) (by kernel_rfl) (by kernel_rfl)
      (OpenSpec.preRow_of_cond 8 hx (by kernel_rfl) (fun k hk => by cases hk) (by kernel_rfl) (laid_metFrameCut os))) ?_
  intro W base args ds gs before hval hW _ _ hwt hL _ _
  exact contractFrameCut H enc W base args ds gs before hval hW hwt (LaidF_of hL)
theorem FrameCut_said : Rows.FrameCutSaid :=
  OpenClaim.holds_of_cond 5 Tryd.f5 rfl rfl rfl rfl rfl rfl rfl ⟨rfl, rfl, rfl, rfl, rfl⟩ rfl rfl rfl rfl rfl (by kernel_rfl) Tryd.func5 (by kernel_rfl)
    (of_decide_eq_true (by kernel_rfl)) (by unfold Func.isWrapper; first | (rw [if_pos (by decide +kernel)]; kernel_rfl) | (rw [if_neg (by decide +kernel)]; exact ⟨rfl, rfl⟩))
    (fun os started H enc _ F => by rw [OpenClaim.pre_eq_preRow]; exact liftedFrameCut os started H enc F)
theorem FrameCut_holds : Rows.FrameCutCardSaid :=
  Claim7.holds_tied_plain_at .later [] _ _ _ _ FrameCut_said (fun _ h => by cases h) (by kernel_rfl) (fun _ h => by cases h) frameCut_row_tie rfl ⟨rfl, rfl⟩ (by kernel_rfl) rfl (plain_of (by kernel_rfl) Tryd.func5 (by kernel_rfl)) (by kernel_rfl)
#print axioms FrameCut_holds
end Go.Proofs.YticiipddilabfaaDoor
