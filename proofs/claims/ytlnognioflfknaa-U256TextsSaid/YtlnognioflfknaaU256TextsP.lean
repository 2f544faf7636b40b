/- The statement U256Texts: for every input the call returns true, and its arguments read as before. -/
import Derived.Test.YtlnognioflfknaaFrame
import Derived.SizedLaws
import Derived.Test.YtlnognioflfknaaLaw01Texts
import Derived.Test.YtlnognioflfknaaArgsL
namespace Go.Proofs.Ytlnognioflfknaa
open Go.ChangeShapes Go.WideShapes Go.ChangeAt Go.RowKit
open Go.ChangeMaps (open_string shut_string)
set_option linter.unusedVariables false

theorem Texts_walk (w : World) (m : Nat) (hm : m < T) (a : Option Addr) (l : List UInt8) (n c : Nat) (hn : l.length = n) (hc : n ≤ c) (hcm : c ≤ 140737488355328) (ho : a = none → n = 0 ∧ c = 0) (hr : RdL w a l) (s : ByteArray) (hs : s.size ≤ maxLen) :
    Calls Try.prog 5 #[uval m, .slice a n c, .string s] w fun e w' => e = .returned (.bool true) ∧ Below w.heap.size w w' := by
  have e1 : s = bstr s.data.toList := ByteArray.ext (show s.data = s.data.toList.toArray by simp)
  have e2 : s.data.toList.length = s.size := Array.length_toList
  obtain ⟨x, e, hx⟩ : ∃ x e, fbR l = (x, e) := ⟨_, _, rfl⟩
  obtain ⟨z, g, hz⟩ : ∃ z g, hexR s.data.toList = (z, g) := ⟨_, _, rfl⟩
  have hxT : x < T := by
    unfold fbR at hx
    split at hx
    · injection hx with h1 h2
      subst h1
      decide
    · injection hx with h1 h2
      subst h1
      exact fbV_T l (by omega)
  have hzT : z < T := by
    unfold hexR at hz
    split at hz
    · injection hz with h1 h2
      subst h1
      decide
    · split at hz
      · injection hz with h1 h2
        subst h1
        decide
      · injection hz with h1 h2
        subst h1
        omega
  exact Texts_core m a l n c s s.data.toList s.size x z e g _ _ w rfl ⟨hm, hr, hn, by omega, e1, hx, hz, hxT, hzT, rfl, rfl, e2⟩

set_option maxRecDepth 100000 in
theorem liftedU256Texts (os : Os) (started : os.Started) (H : Type) (enc : TypeId × Value → H) :
    ReturnsInHanded {} Try.checked os 5 .any (Rows.u256TextsSpec.pre6 enc Try.prog Try.f5 Rows.u256TextsRow.domain false) (Rows.u256TextsSpec.post enc Try.prog Try.f5 false true false false) := by
  refine returnsInHanded_of_change_sized (C := Try.checked) own started (by kernel_rfl) Try.func5
    (ChangeSpec.witness6 (enc := enc) (C := Try.checked) false ⟨#[], #[.agg #[.int .u64 0, .int .u64 0, .int .u64 0, .int .u64 0], .slice none 0 0, .string ByteArray.empty], []⟩ 8 (by kernel_rfl) (by kernel_rfl) (by kernel_rfl) (by kernel_rfl)) ?_
  intro W base args ds gs before hval0 hW hcnd hwt0 _
  have hval : ∀ (j : Nat) t v, Try.f5.params[j]? = some t → args[j]? = some v → Value.okWide Try.prog W .any base t v := hval0
  have hW' := hW
  obtain ⟨p, q, hA0, hV, rfl, hfz, hnd⟩ := hW
  have hA : DataW.TrodAll enc Try.prog W 0 (fun _ => true) true Try.f5.params.toList args.toList ds p := hA0
  rw [Try.params5] at hA hval hwt0
  obtain ⟨v0, vs0, d0, ds0, p0, q0, hargs, rfl, rfl, h0, r0⟩ := trodAll_cons hA
  obtain ⟨v1, vs1, d1, ds1, p1, q1, rfl, rfl, rfl, h1, r1⟩ := trodAll_cons r0
  obtain ⟨v2, vs2, d2, ds2, p2, q2, rfl, rfl, rfl, h2, r2⟩ := trodAll_cons r1
  obtain ⟨rfl, rfl, rfl⟩ := trodAll_nil r2
  obtain rfl : args = #[v0, v1, v2] := by cases args; simp_all
  obtain ⟨rfl, rfl⟩ := trodVars_none hV
  have hwt : (DataW.weights Try.prog 24 d0).all (· ≤ reachBytes) = true ∧ (DataW.weights Try.prog 45 d1).all (· ≤ reachBytes) = true ∧ (DataW.weights Try.prog 9 d2).all (· ≤ reachBytes) = true := by
    have h : (DataW.weightsEach Try.prog [24, 45, 9] [d0, d1, d2]).all (· ≤ reachBytes) = true := hwt0
    simp only [DataW.weightsEach, List.all_append, Bool.and_eq_true, List.append_nil] at h
    simpa only [and_assoc, List.all_nil, and_true] using h
  obtain ⟨wt0, wt1, wt2⟩ := hwt
  have k0 := h0
  have lt0 : ∀ x ∈ p0, x.block < W.heap.size := by obtain ⟨m, hm⟩ := k0; exact DataW.trod_lt m _ _ _ hm
  obtain ⟨zs0, hz0, rfl, hw0⟩ := open_arrInts Try.underlying24 Try.underlying22 (by kernel_rfl) (by kernel_rfl) (hval 0 24 _ rfl rfl) h0
  obtain ⟨m0, hm0, e0⟩ := uval_of zs0 hz0 hw0
  rw [e0] at k0 hW'
  rw [e0]
  have k1 := h1
  have lt1 : ∀ x ∈ p1, x.block < W.heap.size := by obtain ⟨m, hm⟩ := k1; exact DataW.trod_lt m _ _ _ hm
  obtain ⟨a1, n1, c1, l1, rfl, hn1, hc1, hm1, ho1, hr1⟩ := open_bytesL Try.underlying45 Try.underlying5 (by kernel_rfl) (by kernel_rfl) (hval 1 45 _ rfl rfl) h1 wt1
  have k2 := h2
  have lt2 : ∀ x ∈ p2, x.block < W.heap.size := by obtain ⟨m, hm⟩ := k2; exact DataW.trod_lt m _ _ _ hm
  obtain ⟨s2, rfl, _, _, hs2⟩ := open_string Try.underlying9 (hval 2 9 _ rfl rfl) h2
  clear hA0 hval0
  refine (Texts_walk W m0 hm0 a1 l1 n1 c1 hn1 hc1 hm1 ho1 hr1 s2 hs2).mono fun e W' ⟨he, bel⟩ => ?_
  subst he
  exact ⟨_, rfl, _, _, _, [], _, [], hW', trodAll_mk1 (shut_bool Try.underlying4 _), (trodAll_cons_mk (Below.trod laidOut (by kernel_rfl) (of_decide_eq_true (by kernel_rfl)) k0 bel lt0) (trodAll_cons_mk (Below.trod laidOut (by kernel_rfl) (of_decide_eq_true (by kernel_rfl)) k1 bel lt1) (trodAll_cons_mk (Below.trod laidOut (by kernel_rfl) (of_decide_eq_true (by kernel_rfl)) k2 bel lt2) trodAll_mk0))), rfl, bel.frame _, fun h => by cases h⟩

theorem U256Texts_holds : Rows.U256TextsSaid :=
  OpenClaim.holds_of_wide 5 Try.f5 rfl rfl rfl rfl rfl rfl rfl ⟨rfl, rfl, rfl, rfl, rfl⟩ rfl rfl rfl rfl rfl (by kernel_rfl) Try.func5 (by kernel_rfl)
    (of_decide_eq_true (by kernel_rfl)) (by unfold Func.isWrapper; first | (rw [if_pos (by decide +kernel)]; kernel_rfl) | (rw [if_neg (by decide +kernel)]; exact ⟨rfl, rfl⟩))
    (fun os started H enc _ => liftedU256Texts os started H enc)
#print axioms U256Texts_holds
end Go.Proofs.Ytlnognioflfknaa
