/- The statement U256Is: for every input the call returns true, and its arguments read as before. -/
import Derived.Test.YtlnognioflfknaaFrame
import Derived.Test.YtlnognioflfknaaLaw01Is
namespace Go.Proofs.Ytlnognioflfknaa
open Go.ChangeShapes Go.WideShapes Go.ChangeAt Go.RowKit
open Go.ChangeMaps (open_string shut_string)
set_option linter.unusedVariables false

theorem u64_nat {k : Int} (h : (Lit.int .u64 k).wf = true) : ∃ n : Nat, k = n ∧ n < W64 := by
  simp [Lit.wf, IntKind.min, IntKind.max, IntKind.signed, IntKind.bits] at h
  exact ⟨k.toNat, by omega, by unfold W64; omega⟩
theorem Is_walk (m : Nat) (hm : m < T) (n : Nat) (hn : n < T) (k : Int) (hw : (Lit.int .u64 k).wf = true) (w : World) :
    Calls Try.prog 4 #[uval m, uval n, .int .u64 k] w fun e w' => e = .returned (.bool true) ∧ Below w.heap.size w w' := by
  obtain ⟨k, rfl, hk⟩ := u64_nat hw
  obtain ⟨s, c, hs⟩ := sum_ex m n hm hn
  obtain ⟨d, e, hd⟩ := diff_ex m n hm hn
  obtain ⟨p, g, hp⟩ := prod_ex m k hm hk
  obtain ⟨cc, hc⟩ := cmp_ex m n hm hn
  exact Is_core m n k s d p (T - 1 - m) c e g cc w ⟨hs, hd, hp, hc, by omega, hm, hk⟩

set_option maxRecDepth 100000 in
theorem liftedU256Is (os : Os) (started : os.Started) (H : Type) (enc : TypeId × Value → H) :
    ReturnsInHanded {} Try.checked os 4 .any (Rows.u256IsSpec.pre6 enc Try.prog Try.f4 Rows.u256IsRow.domain false) (Rows.u256IsSpec.post enc Try.prog Try.f4 false true false false) := by
  refine returnsInHanded_of_change (C := Try.checked) own started (by kernel_rfl) Try.func4
    (ChangeSpec.witness6 (enc := enc) (C := Try.checked) false ⟨#[], #[.agg #[.int .u64 0, .int .u64 0, .int .u64 0, .int .u64 0], .agg #[.int .u64 0, .int .u64 0, .int .u64 0, .int .u64 0], .int .u64 0], []⟩ 8 (by kernel_rfl) (by kernel_rfl) (by kernel_rfl) (by kernel_rfl)) ?_
  intro W base args ds gs before hval0 hW hcnd _
  have hval : ∀ (j : Nat) t v, Try.f4.params[j]? = some t → args[j]? = some v → Value.okWide Try.prog W .any base t v := hval0
  have hW' := hW
  obtain ⟨p, q, hA0, hV, rfl, hfz, hnd⟩ := hW
  have hA : DataW.TrodAll enc Try.prog W 0 (fun _ => true) true Try.f4.params.toList args.toList ds p := hA0
  rw [Try.params4] at hA hval
  obtain ⟨v0, vs0, d0, ds0, p0, q0, hargs, rfl, rfl, h0, r0⟩ := trodAll_cons hA
  obtain ⟨v1, vs1, d1, ds1, p1, q1, rfl, rfl, rfl, h1, r1⟩ := trodAll_cons r0
  obtain ⟨v2, vs2, d2, ds2, p2, q2, rfl, rfl, rfl, h2, r2⟩ := trodAll_cons r1
  obtain ⟨rfl, rfl, rfl⟩ := trodAll_nil r2
  obtain rfl : args = #[v0, v1, v2] := by cases args; simp_all
  obtain ⟨rfl, rfl⟩ := trodVars_none hV
  have k0 := h0
  have lt0 : ∀ x ∈ p0, x.block < W.heap.size := by obtain ⟨m, hm⟩ := k0; exact DataW.trod_lt m _ _ _ hm
  obtain ⟨zs0, hz0, rfl, hw0⟩ := open_arrInts Try.underlying24 Try.underlying22 (by kernel_rfl) (by kernel_rfl) (hval 0 24 _ rfl rfl) h0
  obtain ⟨m0, hm0, e0⟩ := uval_of zs0 hz0 hw0
  rw [e0] at k0 hW'
  rw [e0]
  have k1 := h1
  have lt1 : ∀ x ∈ p1, x.block < W.heap.size := by obtain ⟨m, hm⟩ := k1; exact DataW.trod_lt m _ _ _ hm
  obtain ⟨zs1, hz1, rfl, hw1⟩ := open_arrInts Try.underlying24 Try.underlying22 (by kernel_rfl) (by kernel_rfl) (hval 1 24 _ rfl rfl) h1
  obtain ⟨m1, hm1, e1⟩ := uval_of zs1 hz1 hw1
  rw [e1] at k1 hW'
  rw [e1]
  obtain ⟨a2, rfl, rfl, rfl, w2⟩ := open_int Try.underlying22 (hval 2 22 v2 rfl rfl) h2
  clear hA0 hval0
  refine (Is_walk m0 hm0 m1 hm1 a2 w2 W).mono fun e W' ⟨he, bel⟩ => ?_
  subst he
  exact ⟨_, rfl, _, _, _, [], _, [], hW', trodAll_mk1 (shut_bool Try.underlying4 _), (trodAll_cons_mk (Below.trod laidOut (by kernel_rfl) (of_decide_eq_true (by kernel_rfl)) k0 bel lt0) (trodAll_cons_mk (Below.trod laidOut (by kernel_rfl) (of_decide_eq_true (by kernel_rfl)) k1 bel lt1) (trodAll_cons_mk (shut_int Try.underlying22 w2) trodAll_mk0))), rfl, bel.frame _, fun h => by cases h⟩

theorem U256Is_holds : Rows.U256IsSaid :=
  OpenClaim.holds_of_wide 4 Try.f4 rfl rfl rfl rfl rfl rfl rfl ⟨rfl, rfl, rfl, rfl, rfl⟩ rfl rfl rfl rfl rfl (by kernel_rfl) Try.func4 (by kernel_rfl)
    (of_decide_eq_true (by kernel_rfl)) (by unfold Func.isWrapper; first | (rw [if_pos (by decide +kernel)]; kernel_rfl) | (rw [if_neg (by decide +kernel)]; exact ⟨rfl, rfl⟩))
    (fun os started H enc _ => liftedU256Is os started H enc)
#print axioms U256Is_holds
end Go.Proofs.Ytlnognioflfknaa
