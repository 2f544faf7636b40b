/- The statement HashIs: for every input the call returns true, and its arguments read as before; the card ties SHA-256's tables to the program's text.  -/
import Derived.Test.YtfebknplkbeblaaDoorHiD
import Derived.Test.YtfebknplkbeblaaDoorHiE
import Derived.Test.YtfebknplkbeblaaDoorHiP
namespace Go.Proofs.YtfebknplkbeblaaDoor
open Go.ChangeShapes Go.WideShapes Go.ChangeAt Go.RowKit
open Go.ChangeMaps (open_string shut_string)
set_option linter.unusedVariables false

set_option maxRecDepth 100000 in
theorem contractHashIs (H : Type) (enc : TypeId × Value → H) (W : World) (base : Nat) (args : Array Value) (ds gs : List (DataW H)) (before : List MemPlace)
    (hval0 : ∀ (j : Nat) t v, Tryd.f10.params[j]? = some t → args[j]? = some v → Value.okWide Tryd.prog W .any base t v)
    (hW : DataW.Whole enc Tryd.prog Tryd.f10.params.toList Rows.hashIsSpec.vars false W args.toList ds gs before)
    (hwt0 : (DataW.weightsEach Tryd.prog (Tryd.f10.params.toList ++ (OpenSpec.ofChange Rows.hashIsSpec).bare.plain.varTypes Tryd.prog) (ds ++ gs)).all (· ≤ reachBytes) = true)
    (hL : Laid W) :
    Calls Tryd.prog 10 args W fun e W' => ∃ v, e = .returned v ∧ Rows.hashIsSpec.post enc Tryd.prog Tryd.f10 false true false false W args v W' := by
  have hval : ∀ (j : Nat) t v, Tryd.f10.params[j]? = some t → args[j]? = some v → Value.okWide Tryd.prog W .any base t v := hval0
  have hW' := hW
  obtain ⟨p, q, hA0, hV, rfl, hfz, hnd⟩ := hW
  have hA : DataW.TrodAll enc Tryd.prog W 0 (fun _ => true) true Tryd.f10.params.toList args.toList ds p := hA0
  rw [Tryd.params10] at hA hval hwt0
  obtain ⟨v0, vs0, d0, ds0, p0, q0, hargs, rfl, rfl, h0, r0⟩ := trodAll_cons hA
  obtain ⟨v1, vs1, d1, ds1, p1, q1, rfl, rfl, rfl, h1, r1⟩ := trodAll_cons r0
  obtain ⟨v2, vs2, d2, ds2, p2, q2, rfl, rfl, rfl, h2, r2⟩ := trodAll_cons r1
  obtain ⟨v3, vs3, d3, ds3, p3, q3, rfl, rfl, rfl, h3, r3⟩ := trodAll_cons r2
  obtain ⟨v4, vs4, d4, ds4, p4, q4, rfl, rfl, rfl, h4, r4⟩ := trodAll_cons r3
  obtain ⟨v5, vs5, d5, ds5, p5, q5, rfl, rfl, rfl, h5, r5⟩ := trodAll_cons r4
  obtain ⟨rfl, rfl, rfl⟩ := trodAll_nil r5
  obtain rfl : args = #[v0, v1, v2, v3, v4, v5] := by cases args; simp_all
  obtain ⟨rfl, rfl⟩ := trodVars_none hV
  have hwt : (DataW.weights Tryd.prog 38 d0).all (· ≤ reachBytes) = true ∧ (DataW.weights Tryd.prog 38 d1).all (· ≤ reachBytes) = true ∧ (DataW.weights Tryd.prog 9 d2).all (· ≤ reachBytes) = true ∧ (DataW.weights Tryd.prog 58 d3).all (· ≤ reachBytes) = true ∧ (DataW.weights Tryd.prog 26 d4).all (· ≤ reachBytes) = true ∧ (DataW.weights Tryd.prog 26 d5).all (· ≤ reachBytes) = true := by
    have h : (DataW.weightsEach Tryd.prog [38, 38, 9, 58, 26, 26] [d0, d1, d2, d3, d4, d5]).all (· ≤ reachBytes) = true := hwt0
    simp only [DataW.weightsEach, List.all_append, Bool.and_eq_true, List.append_nil] at h
    simpa only [and_assoc, List.all_nil, and_true] using h
  obtain ⟨wt0, wt1, wt2, wt3, wt4, wt5⟩ := hwt
  have k0 := h0
  have lt0 : ∀ x ∈ p0, x.block < W.heap.size := by obtain ⟨m, hm⟩ := k0; exact DataW.trod_lt m _ _ _ hm
  obtain ⟨zs0, hz0, rfl, hw0⟩ := open_arrInts Tryd.underlying38 Tryd.underlying5 (by kernel_rfl) (by kernel_rfl) (hval 0 38 _ rfl rfl) h0
  obtain ⟨m0, hm0, e0⟩ := hash_of zs0 hz0 hw0
  rw [e0] at k0 hW'
  rw [e0]
  have k1 := h1
  have lt1 : ∀ x ∈ p1, x.block < W.heap.size := by obtain ⟨m, hm⟩ := k1; exact DataW.trod_lt m _ _ _ hm
  obtain ⟨zs1, hz1, rfl, hw1⟩ := open_arrInts Tryd.underlying38 Tryd.underlying5 (by kernel_rfl) (by kernel_rfl) (hval 1 38 _ rfl rfl) h1
  obtain ⟨m1, hm1, e1⟩ := hash_of zs1 hz1 hw1
  rw [e1] at k1 hW'
  rw [e1]
  have k2 := h2
  have lt2 : ∀ x ∈ p2, x.block < W.heap.size := by obtain ⟨m, hm⟩ := k2; exact DataW.trod_lt m _ _ _ hm
  obtain ⟨s2, rfl, _, _, hs2⟩ := open_string Tryd.underlying9 (hval 2 9 _ rfl rfl) h2
  have k3 := h3
  have lt3 : ∀ x ∈ p3, x.block < W.heap.size := by obtain ⟨m, hm⟩ := k3; exact DataW.trod_lt m _ _ _ hm
  obtain ⟨zs3, hz3, rfl, hw3⟩ := open_arrInts Tryd.underlying58 Tryd.underlying27 (by kernel_rfl) (by kernel_rfl) (hval 3 58 _ rfl rfl) h3
  obtain ⟨m3, hm3, e3⟩ := uval_of zs3 hz3 hw3
  rw [e3] at k3 hW'
  rw [e3]
  have k4 := h4
  have lt4 : ∀ x ∈ p4, x.block < W.heap.size := by obtain ⟨m, hm⟩ := k4; exact DataW.trod_lt m _ _ _ hm
  obtain ⟨a4, n4, c4, l4, rfl, hn4, hc4, hm4, ho4, hr4⟩ := open_bytes Tryd.underlying26 Tryd.underlying5 (by kernel_rfl) (by kernel_rfl) (hval 4 26 _ rfl rfl) h4 wt4
  have k5 := h5
  have lt5 : ∀ x ∈ p5, x.block < W.heap.size := by obtain ⟨m, hm⟩ := k5; exact DataW.trod_lt m _ _ _ hm
  obtain ⟨a5, n5, c5, l5, rfl, hn5, hc5, hm5, ho5, hr5⟩ := open_bytes Tryd.underlying26 Tryd.underlying5 (by kernel_rfl) (by kernel_rfl) (hval 5 26 _ rfl rfl) h5 wt5
  clear hA0 hval0
  refine (HIs_walk W hL m0 hm0 m1 hm1 s2 hs2 m3 hm3 a4 l4 n4 c4 hn4 hc4 hm4 ho4 hr4 a5 l5 n5 c5 hn5 hc5 hm5 ho5 hr5).mono fun e W' ⟨he, bel⟩ => ?_
  subst he
  exact ⟨_, rfl, _, _, _, [], _, [], hW', trodAll_mk1 (shut_bool Tryd.underlying4 _), (trodAll_cons_mk (Below.trod laidOut (by kernel_rfl) (of_decide_eq_true (by kernel_rfl)) k0 bel lt0) (trodAll_cons_mk (Below.trod laidOut (by kernel_rfl) (of_decide_eq_true (by kernel_rfl)) k1 bel lt1) (trodAll_cons_mk (Below.trod laidOut (by kernel_rfl) (of_decide_eq_true (by kernel_rfl)) k2 bel lt2) (trodAll_cons_mk (Below.trod laidOut (by kernel_rfl) (of_decide_eq_true (by kernel_rfl)) k3 bel lt3) (trodAll_cons_mk (Below.trod laidOut (by kernel_rfl) (of_decide_eq_true (by kernel_rfl)) k4 bel lt4) (trodAll_cons_mk (Below.trod laidOut (by kernel_rfl) (of_decide_eq_true (by kernel_rfl)) k5 bel lt5) trodAll_mk0)))))), rfl, bel.frame _, fun h => by cases h⟩

theorem laid_metHashIs (os : Os) : laidMet Tryd.prog Rows.hashIsRow.laid ((laidWorld os).forCall (fun _ _ => 0) ⟨#[], #[.agg (Array.replicate 32 (.int .u8 0)), .agg (Array.replicate 32 (.int .u8 0)), .string ByteArray.empty, .agg #[.int .u64 0, .int .u64 0, .int .u64 0, .int .u64 0], .slice none 0 0, .slice none 0 0], []⟩).memory :=
  laidMet_of_run' 8 (by kernel_rfl) (by kernel_rfl)
theorem readsHashIs (os : Os) {H : Type} (enc : TypeId × Value → H) : ∃ places, DataW.whole enc Tryd.prog ((laidWorld os).forCall (fun _ _ => 0) ⟨#[], #[.agg (Array.replicate 32 (.int .u8 0)), .agg (Array.replicate 32 (.int .u8 0)), .string ByteArray.empty, .agg #[.int .u64 0, .int .u64 0, .int .u64 0, .int .u64 0], .slice none 0 0, .slice none 0 0], []⟩).memory Tryd.f10.params.toList Rows.hashIsSpec.vars false (#[.agg (Array.replicate 32 (.int .u8 0)), .agg (Array.replicate 32 (.int .u8 0)), .string ByteArray.empty, .agg #[.int .u64 0, .int .u64 0, .int .u64 0, .int .u64 0], .slice none 0 0, .slice none 0 0] : Array Value).toList 8 = some ([.agg (List.replicate 32 (.lit (.int .u8 0))), .agg (List.replicate 32 (.lit (.int .u8 0))), .lit (.string []), .agg [.lit (.int .u64 0), .lit (.int .u64 0), .lit (.int .u64 0), .lit (.int .u64 0)], .nil, .nil], [], places) :=
  ⟨[], by kernel_rfl⟩
set_option maxRecDepth 100000 in
theorem liftedHashIs (os : Os) (started : os.Started) (H : Type) (enc : TypeId × Value → H) (F : Stop.Interp) :
    ReturnsInHanded {} Tryd.checked os 10 .any ((OpenSpec.ofChange Rows.hashIsSpec).preRow enc Tryd.prog Tryd.f10 Rows.hashIsRow.domain false Rows.hashIsRow.laid) (((OpenSpec.ofChange Rows.hashIsSpec).at F).post enc Tryd.prog Tryd.f10 false true false false) := by
  obtain ⟨places, hx⟩ := readsHashIs os enc
  refine returnsInHanded_of_row (C := Tryd.checked) (s := OpenSpec.ofChange Rows.hashIsSpec) own started (by kernel_rfl) Tryd.func10
    (witness_row_at (enc := enc) (C := Tryd.checked) false (laidWorld os) #[.agg (Array.replicate 32 (.int .u8 0)), .agg (Array.replicate 32 (.int .u8 0)), .string ByteArray.empty, .agg #[.int .u64 0, .int .u64 0, .int .u64 0, .int .u64 0], .slice none 0 0, .slice none 0 0] rfl (by kernel_rfl) (by kernel_rfl) (by kernel_rfl)
      (OpenSpec.preRow_of_cond 8 hx (by kernel_rfl) (fun k hk => by cases hk) (by kernel_rfl) (laid_metHashIs os))) ?_
  intro W base args ds gs before hval hW _ _ hwt hL _ _
  exact contractHashIs H enc W base args ds gs before hval hW hwt (Laid_of hL)
theorem HashIs_said : Rows.HashIsSaid :=
  OpenClaim.holds_of_cond 10 Tryd.f10 rfl rfl rfl rfl rfl rfl rfl ⟨rfl, rfl, rfl, rfl, rfl⟩ rfl rfl rfl rfl rfl (by kernel_rfl) Tryd.func10 (by kernel_rfl)
    (of_decide_eq_true (by kernel_rfl)) (by unfold Func.isWrapper; first | (rw [if_pos (by decide +kernel)]; kernel_rfl) | (rw [if_neg (by decide +kernel)]; exact ⟨rfl, rfl⟩))
    (fun os started H enc _ F => by rw [OpenClaim.pre_eq_preRow]; exact liftedHashIs os started H enc F)
theorem HashIs_holds : Rows.HashIsCardSaid :=
  Claim7.holds_tied_plain_at .later [] _ _ _ _ HashIs_said (fun _ h => by cases h) (by kernel_rfl) (fun _ h => by cases h) hashIs_row_tie rfl ⟨rfl, rfl⟩ (by kernel_rfl) rfl (plain_of (by kernel_rfl) Tryd.func10 (by kernel_rfl)) (by kernel_rfl)
#print axioms HashIs_holds
end Go.Proofs.YtfebknplkbeblaaDoor
