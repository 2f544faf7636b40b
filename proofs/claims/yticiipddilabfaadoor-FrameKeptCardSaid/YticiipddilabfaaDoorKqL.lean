/- The statement FrameKept: for every input the call returns true, and its arguments read as before; the card ties SHA-256's tables to the program's text.  -/
import Derived.Test.YticiipddilabfaaDoorKqC
import Derived.Test.YticiipddilabfaaDoorKqD
import Derived.Test.YticiipddilabfaaDoorKqK
namespace Go.Proofs.YticiipddilabfaaDoor
open Go.ChangeShapes Go.WideShapes Go.ChangeAt Go.RowKit
open Go.ChangeMaps (open_string shut_string)
set_option linter.unusedVariables false

theorem Kept_walk2 (w : World) (hL : Laid w) (a0 : Int) (w0 : (Lit.int .u32 a0).wf = true) (most : Int) (w1 : (Lit.int .i64 most).wf = true) (ac : Option Addr) (cs : List UInt8) (nc cc : Nat) (hl1 : cs.length = nc) (hc1 : nc ≤ cc) (hc2 : cc ≤ 140737488355328) (hno1 : ac = none → nc = 0 ∧ cc = 0) (hR1 : RdS w ac cs)
    (am : Option Addr) (ms : List UInt8) (nm cm : Nat) (hl2 : ms.length = nm) (hm1 : nm ≤ cm) (hm2 : cm ≤ 140737488355328) (hno2 : am = none → nm = 0 ∧ cm = 0) (hR2 : RdS w am ms) :
    Calls Tryd.prog 6 #[.int .u32 a0, .int .i64 most, .slice ac nc cc, .slice am nm cm] w fun e w' => e = .returned (.bool true) ∧ Below w.heap.size w w' := by
  obtain ⟨k, rfl, hk⟩ : ∃ n : Nat, a0 = n ∧ n < 4294967296 := by
    simp [Lit.wf, IntKind.min, IntKind.max, IntKind.signed, IntKind.bits] at w0
    exact ⟨a0.toNat, by omega, by omega⟩
  exact Kept_walk w hL k hk most ac nc cc cs am nm cm ms hl1 hl2 hc1 hc2 hm1 hm2 hno1 hno2 hR1 hR2

set_option maxRecDepth 100000 in
theorem contractFrameKept (H : Type) (enc : TypeId × Value → H) (W : World) (base : Nat) (args : Array Value) (ds gs : List (DataW H)) (before : List MemPlace)
    (hval0 : ∀ (j : Nat) t v, Tryd.f6.params[j]? = some t → args[j]? = some v → Value.okWide Tryd.prog W .any base t v)
    (hW : DataW.Whole enc Tryd.prog Tryd.f6.params.toList Rows.frameKeptSpec.vars false W args.toList ds gs before)
    (hwt0 : (DataW.weightsEach Tryd.prog (Tryd.f6.params.toList ++ (OpenSpec.ofChange Rows.frameKeptSpec).bare.plain.varTypes Tryd.prog) (ds ++ gs)).all (· ≤ reachBytes) = true)
    (hL : Laid W) :
    Calls Tryd.prog 6 args W fun e W' => ∃ v, e = .returned v ∧ Rows.frameKeptSpec.post enc Tryd.prog Tryd.f6 false true false false W args v W' := by
  have hval : ∀ (j : Nat) t v, Tryd.f6.params[j]? = some t → args[j]? = some v → Value.okWide Tryd.prog W .any base t v := hval0
  have hW' := hW
  obtain ⟨p, q, hA0, hV, rfl, hfz, hnd⟩ := hW
  have hA : DataW.TrodAll enc Tryd.prog W 0 (fun _ => true) true Tryd.f6.params.toList args.toList ds p := hA0
  rw [Tryd.params6] at hA hval hwt0
  obtain ⟨v0, vs0, d0, ds0, p0, q0, hargs, rfl, rfl, h0, r0⟩ := trodAll_cons hA
  obtain ⟨v1, vs1, d1, ds1, p1, q1, rfl, rfl, rfl, h1, r1⟩ := trodAll_cons r0
  obtain ⟨v2, vs2, d2, ds2, p2, q2, rfl, rfl, rfl, h2, r2⟩ := trodAll_cons r1
  obtain ⟨v3, vs3, d3, ds3, p3, q3, rfl, rfl, rfl, h3, r3⟩ := trodAll_cons r2
  obtain ⟨rfl, rfl, rfl⟩ := trodAll_nil r3
  obtain rfl : args = #[v0, v1, v2, v3] := by cases args; simp_all
  obtain ⟨rfl, rfl⟩ := trodVars_none hV
  have hwt : (DataW.weights Tryd.prog 22 d0).all (· ≤ reachBytes) = true ∧ (DataW.weights Tryd.prog 3 d1).all (· ≤ reachBytes) = true ∧ (DataW.weights Tryd.prog 23 d2).all (· ≤ reachBytes) = true ∧ (DataW.weights Tryd.prog 23 d3).all (· ≤ reachBytes) = true := by
    have h : (DataW.weightsEach Tryd.prog [22, 3, 23, 23] [d0, d1, d2, d3]).all (· ≤ reachBytes) = true := hwt0
    simp only [DataW.weightsEach, List.all_append, Bool.and_eq_true, List.append_nil] at h
    simpa only [and_assoc, List.all_nil, and_true] using h
  obtain ⟨wt0, wt1, wt2, wt3⟩ := hwt
  obtain ⟨a0, rfl, rfl, rfl, w0⟩ := open_int Tryd.underlying22 (hval 0 22 v0 rfl rfl) h0
  obtain ⟨a1, rfl, rfl, rfl, w1⟩ := open_int Tryd.underlying3 (hval 1 3 v1 rfl rfl) h1
  have k2 := h2
  have lt2 : ∀ x ∈ p2, x.block < W.heap.size := by obtain ⟨m, hm⟩ := k2; exact DataW.trod_lt m _ _ _ hm
  obtain ⟨a2, n2, c2, l2, rfl, hn2, hc2, hm2, ho2, hr2⟩ := open_bytes Tryd.underlying23 Tryd.underlying5 (by kernel_rfl) (by kernel_rfl) (hval 2 23 _ rfl rfl) h2 wt2
  have k3 := h3
  have lt3 : ∀ x ∈ p3, x.block < W.heap.size := by obtain ⟨m, hm⟩ := k3; exact DataW.trod_lt m _ _ _ hm
  obtain ⟨a3, n3, c3, l3, rfl, hn3, hc3, hm3, ho3, hr3⟩ := open_bytes Tryd.underlying23 Tryd.underlying5 (by kernel_rfl) (by kernel_rfl) (hval 3 23 _ rfl rfl) h3 wt3
  clear hA0 hval0
  refine (Kept_walk2 W hL a0 w0 a1 w1 a2 l2 n2 c2 hn2 hc2 hm2 ho2 hr2 a3 l3 n3 c3 hn3 hc3 hm3 ho3 hr3).mono fun e W' ⟨he, bel⟩ => ?_
  subst he
  exact ⟨_, rfl, _, _, _, [], _, [], hW', trodAll_mk1 (shut_bool Tryd.underlying4 _), (trodAll_cons_mk (shut_int Tryd.underlying22 w0) (trodAll_cons_mk (shut_int Tryd.underlying3 w1) (trodAll_cons_mk (Below.trod laidOut (by kernel_rfl) (of_decide_eq_true (by kernel_rfl)) k2 bel lt2) (trodAll_cons_mk (Below.trod laidOut (by kernel_rfl) (of_decide_eq_true (by kernel_rfl)) k3 bel lt3) trodAll_mk0)))), rfl, bel.frame _, fun h => by cases h⟩

theorem laid_metFrameKept (os : Os) : laidMet Tryd.prog Rows.frameKeptRow.laid ((laidWorldF os).forCall (fun _ _ => 0) ⟨#[], #[.int .u32 0, .int .i64 0, .slice none 0 0, .slice none 0 0], []⟩).memory :=
  laidMet_of_run' 8 (by kernel_rfl) (by kernel_rfl)
theorem readsFrameKept (os : Os) {H : Type} (enc : TypeId × Value → H) : ∃ places, DataW.whole enc Tryd.prog ((laidWorldF os).forCall (fun _ _ => 0) ⟨#[], #[.int .u32 0, .int .i64 0, .slice none 0 0, .slice none 0 0], []⟩).memory Tryd.f6.params.toList Rows.frameKeptSpec.vars false (#[.int .u32 0, .int .i64 0, .slice none 0 0, .slice none 0 0] : Array Value).toList 8 = some ([.lit (.int .u32 0), .lit (.int .i64 0), .nil, .nil], [], places) :=
  ⟨[], by kernel_rfl⟩
set_option maxRecDepth 100000 in
theorem liftedFrameKept (os : Os) (started : os.Started) (H : Type) (enc : TypeId × Value → H) (F : Stop.Interp) :
    ReturnsInHanded {} Tryd.checked os 6 .any ((OpenSpec.ofChange Rows.frameKeptSpec).preRow enc Tryd.prog Tryd.f6 Rows.frameKeptRow.domain false Rows.frameKeptRow.laid) (((OpenSpec.ofChange Rows.frameKeptSpec).at F).post enc Tryd.prog Tryd.f6 false true false false) := by
  obtain ⟨places, hx⟩ := readsFrameKept os enc
  refine returnsInHanded_of_row (C := Tryd.checked) (s := OpenSpec.ofChange Rows.frameKeptSpec) own started (by kernel_rfl) Tryd.func6
    (witness_row_at (enc := enc) (C := Tryd.checked) false (laidWorldF os) #[.int .u32 0, .int .i64 0, .slice none 0 0, .slice none 0 0] rfl (by kernel_rfl) (by kernel_rfl) (by kernel_rfl)
      (OpenSpec.preRow_of_cond 8 hx (by kernel_rfl) (fun k hk => by cases hk) (by kernel_rfl) (laid_metFrameKept os))) ?_
  intro W base args ds gs before hval hW _ _ hwt hL _ _
  exact contractFrameKept H enc W base args ds gs before hval hW hwt (LaidF_of hL)
theorem FrameKept_said : Rows.FrameKeptSaid :=
  OpenClaim.holds_of_cond 6 Tryd.f6 rfl rfl rfl rfl rfl rfl rfl ⟨rfl, rfl, rfl, rfl, rfl⟩ rfl rfl rfl rfl rfl (by kernel_rfl) Tryd.func6 (by kernel_rfl)
    (of_decide_eq_true (by kernel_rfl)) (by unfold Func.isWrapper; first | (rw [if_pos (by decide +kernel)]; kernel_rfl) | (rw [if_neg (by decide +kernel)]; exact ⟨rfl, rfl⟩))
    (fun os started H enc _ F => by rw [OpenClaim.pre_eq_preRow]; exact liftedFrameKept os started H enc F)
theorem FrameKept_holds : Rows.FrameKeptCardSaid :=
  Claim7.holds_tied_plain_at .later [] _ _ _ _ FrameKept_said (fun _ h => by cases h) (by kernel_rfl) (fun _ h => by cases h) frameKept_row_tie rfl ⟨rfl, rfl⟩ (by kernel_rfl) rfl (plain_of (by kernel_rfl) Tryd.func6 (by kernel_rfl)) (by kernel_rfl)
#print axioms FrameKept_holds
end Go.Proofs.YticiipddilabfaaDoor
