/- The statement Sha2Is: for every input the call returns true, and its arguments read as before; the card ties SHA-256's tables to the program's text. -/
import Derived.Test.YtfebknplkbeblaaDoorDoor
import Derived.Test.YtfebknplkbeblaaDoorArgs
import Derived.Test.YtfebknplkbeblaaDoorArgsS
import Derived.Test.YtfebknplkbeblaaDoorLaw02Is
namespace Go.Proofs.YtfebknplkbeblaaDoor
open Go.ChangeShapes Go.WideShapes Go.ChangeAt Go.RowKit
open Go.ChangeMaps (open_string shut_string)
set_option linter.unusedVariables false

set_option maxRecDepth 100000 in
theorem contractSha2Is (H : Type) (enc : TypeId × Value → H) (W : World) (base : Nat) (args : Array Value) (ds gs : List (DataW H)) (before : List MemPlace)
    (hval0 : ∀ (j : Nat) t v, Tryd.f7.params[j]? = some t → args[j]? = some v → Value.okWide Tryd.prog W .any base t v)
    (hW : DataW.Whole enc Tryd.prog Tryd.f7.params.toList Rows.sha2IsSpec.vars false W args.toList ds gs before)
    (hwt0 : (DataW.weightsEach Tryd.prog (Tryd.f7.params.toList ++ (OpenSpec.ofChange Rows.sha2IsSpec).bare.plain.varTypes Tryd.prog) (ds ++ gs)).all (· ≤ reachBytes) = true)
    (hL : Laid W) :
    Calls Tryd.prog 7 args W fun e W' => ∃ v, e = .returned v ∧ Rows.sha2IsSpec.post enc Tryd.prog Tryd.f7 false true false false W args v W' := by
  have hval : ∀ (j : Nat) t v, Tryd.f7.params[j]? = some t → args[j]? = some v → Value.okWide Tryd.prog W .any base t v := hval0
  have hW' := hW
  obtain ⟨p, q, hA0, hV, rfl, hfz, hnd⟩ := hW
  have hA : DataW.TrodAll enc Tryd.prog W 0 (fun _ => true) true Tryd.f7.params.toList args.toList ds p := hA0
  rw [Tryd.params7] at hA hval hwt0
  obtain ⟨v0, vs0, d0, ds0, p0, q0, hargs, rfl, rfl, h0, r0⟩ := trodAll_cons hA
  obtain ⟨v1, vs1, d1, ds1, p1, q1, rfl, rfl, rfl, h1, r1⟩ := trodAll_cons r0
  obtain ⟨v2, vs2, d2, ds2, p2, q2, rfl, rfl, rfl, h2, r2⟩ := trodAll_cons r1
  obtain ⟨rfl, rfl, rfl⟩ := trodAll_nil r2
  obtain rfl : args = #[v0, v1, v2] := by cases args; simp_all
  obtain ⟨rfl, rfl⟩ := trodVars_none hV
  have hwt : (DataW.weights Tryd.prog 26 d0).all (· ≤ reachBytes) = true ∧ (DataW.weights Tryd.prog 29 d1).all (· ≤ reachBytes) = true ∧ (DataW.weights Tryd.prog 27 d2).all (· ≤ reachBytes) = true := by
    have h : (DataW.weightsEach Tryd.prog [26, 29, 27] [d0, d1, d2]).all (· ≤ reachBytes) = true := hwt0
    simp only [DataW.weightsEach, List.all_append, Bool.and_eq_true, List.append_nil] at h
    simpa only [and_assoc, List.all_nil, and_true] using h
  obtain ⟨wt0, wt1, wt2⟩ := hwt
  have k0 := h0
  have lt0 : ∀ x ∈ p0, x.block < W.heap.size := by obtain ⟨m, hm⟩ := k0; exact DataW.trod_lt m _ _ _ hm
  obtain ⟨a0, n0, c0, l0, rfl, hn0, hc0, hm0, ho0, hr0⟩ := open_bytes Tryd.underlying26 Tryd.underlying5 (by kernel_rfl) (by kernel_rfl) (hval 0 26 _ rfl rfl) h0 wt0
  have k1 := h1
  have lt1 : ∀ x ∈ p1, x.block < W.heap.size := by obtain ⟨m, hm⟩ := k1; exact DataW.trod_lt m _ _ _ hm
  obtain ⟨H1, a1, n1, c1, l1, N1, rfl, hH1, hN1, hn1, hc1, hm1, ho1, hr1⟩ := open_state (hval 1 29 _ rfl rfl) h1 wt1
  obtain ⟨a2, rfl, rfl, rfl, w2⟩ := open_int Tryd.underlying27 (hval 2 27 v2 rfl rfl) h2
  clear hA0 hval0
  refine (ShaIs_walk W hL a0 l0 n0 c0 hn0 hc0 hm0 ho0 hr0 H1 hH1 N1 hN1 a1 l1 n1 c1 hn1 hc1 hm1 ho1 hr1 a2 w2).mono fun e W' ⟨he, bel⟩ => ?_
  subst he
  exact ⟨_, rfl, _, _, _, [], _, [], hW', trodAll_mk1 (shut_bool Tryd.underlying4 _), (trodAll_cons_mk (Below.trod laidOut (by kernel_rfl) (of_decide_eq_true (by kernel_rfl)) k0 bel lt0) (trodAll_cons_mk (Below.trod laidOut (by kernel_rfl) (of_decide_eq_true (by kernel_rfl)) k1 bel lt1) (trodAll_cons_mk (shut_int Tryd.underlying27 w2) trodAll_mk0))), rfl, bel.frame _, fun h => by cases h⟩

theorem laid_metSha2Is (os : Os) : laidMet Tryd.prog Rows.sha2IsRow.laid ((laidWorld os).forCall (fun _ _ => 0) ⟨#[], #[.slice none 0 0, .agg #[.int .u32 0, .int .u32 0, .int .u32 0, .int .u32 0, .int .u32 0, .int .u32 0, .int .u32 0, .int .u32 0, .slice none 0 0, .int .u64 0], .int .u64 0], []⟩).memory :=
  laidMet_of_run' 8 (by kernel_rfl) (by kernel_rfl)
theorem readsSha2Is (os : Os) {H : Type} (enc : TypeId × Value → H) : ∃ places, DataW.whole enc Tryd.prog ((laidWorld os).forCall (fun _ _ => 0) ⟨#[], #[.slice none 0 0, .agg #[.int .u32 0, .int .u32 0, .int .u32 0, .int .u32 0, .int .u32 0, .int .u32 0, .int .u32 0, .int .u32 0, .slice none 0 0, .int .u64 0], .int .u64 0], []⟩).memory Tryd.f7.params.toList Rows.sha2IsSpec.vars false (#[.slice none 0 0, .agg #[.int .u32 0, .int .u32 0, .int .u32 0, .int .u32 0, .int .u32 0, .int .u32 0, .int .u32 0, .int .u32 0, .slice none 0 0, .int .u64 0], .int .u64 0] : Array Value).toList 8 = some ([.nil, .agg [.agg (List.replicate 8 (.lit (.int .u32 0))), .nil, .lit (.int .u64 0)], .lit (.int .u64 0)], [], places) :=
  ⟨[], by kernel_rfl⟩
set_option maxRecDepth 100000 in
theorem liftedSha2Is (os : Os) (started : os.Started) (H : Type) (enc : TypeId × Value → H) (F : Stop.Interp) :
    ReturnsInHanded {} Tryd.checked os 7 .any ((OpenSpec.ofChange Rows.sha2IsSpec).preRow enc Tryd.prog Tryd.f7 Rows.sha2IsRow.domain false Rows.sha2IsRow.laid) (((OpenSpec.ofChange Rows.sha2IsSpec).at F).post enc Tryd.prog Tryd.f7 false true false false) := by
  obtain ⟨places, hx⟩ := readsSha2Is os enc
  refine returnsInHanded_of_row (C := Tryd.checked) (s := OpenSpec.ofChange Rows.sha2IsSpec) own started (by kernel_rfl) Tryd.func7
    (witness_row_at (enc := enc) (C := Tryd.checked) false (laidWorld os) #[.slice none 0 0, .agg #[.int .u32 0, .int .u32 0, .int .u32 0, .int .u32 0, .int .u32 0, .int .u32 0, .int .u32 0, .int .u32 0, .slice none 0 0, .int .u64 0], .int .u64 0] rfl (by kernel_rfl) (by kernel_rfl) (by kernel_rfl)
      (OpenSpec.preRow_of_cond 8 hx (by kernel_rfl) (fun k hk => by cases hk) (by kernel_rfl) (laid_metSha2Is os))) ?_
  intro W base args ds gs before hval hW _ _ hwt hL _ _
  exact contractSha2Is H enc W base args ds gs before hval hW hwt (Laid_of hL)
theorem Sha2Is_said : Rows.Sha2IsSaid :=
  OpenClaim.holds_of_cond 7 Tryd.f7 rfl rfl rfl rfl rfl rfl rfl ⟨rfl, rfl, rfl, rfl, rfl⟩ rfl rfl rfl rfl rfl (by kernel_rfl) Tryd.func7 (by kernel_rfl)
    (of_decide_eq_true (by kernel_rfl)) (by unfold Func.isWrapper; first | (rw [if_pos (by decide +kernel)]; kernel_rfl) | (rw [if_neg (by decide +kernel)]; exact ⟨rfl, rfl⟩))
    (fun os started H enc _ F => by rw [OpenClaim.pre_eq_preRow]; exact liftedSha2Is os started H enc F)
theorem Sha2Is_holds : Rows.Sha2IsCardSaid :=
  Claim7.holds_tied_plain_at .later [] _ _ _ _ Sha2Is_said (fun _ h => by cases h) (by kernel_rfl) (fun _ h => by cases h) sha2Is_row_tie rfl ⟨rfl, rfl⟩ (by kernel_rfl) rfl (plain_of (by kernel_rfl) Tryd.func7 (by kernel_rfl)) (by kernel_rfl)
#print axioms Sha2Is_holds
end Go.Proofs.YtfebknplkbeblaaDoor
