/- The statement U256Order: for every input the call returns true, and its arguments read as before. -/
import Derived.Test.YtlnognioflfknaaFrame
import Derived.Test.YtlnognioflfknaaLaw01Order
namespace Go.Proofs.Ytlnognioflfknaa
open Go.ChangeShapes Go.WideShapes Go.ChangeAt Go.RowKit
open Go.ChangeMaps (open_string shut_string)
set_option linter.unusedVariables false

theorem Order_walk (m : Nat) (hm : m < T) (n : Nat) (hn : n < T) (k : Nat) (hk : k < T) (w : World) :
    Calls Try.prog 3 #[uval m, uval n, uval k] w fun e w' => e = .returned (.bool true) ∧ Below w.heap.size w w' := by
  obtain ⟨s, ov, hs⟩ := sum_ex m n hm hn
  obtain ⟨d, un, hd⟩ := diff_ex m n hm hn
  obtain ⟨vs, hvs⟩ := cmp_ex s m hs.2.2.1 hm
  obtain ⟨cm, hcm⟩ := cmp_ex m n hm hn
  obtain ⟨vn, hvn⟩ := cmp_ex n k hn hk
  obtain ⟨vk, hvk⟩ := cmp_ex m k hm hk
  have hT : 0 < T := by decide
  obtain ⟨_, _, hsT, hs1⟩ := hs
  obtain ⟨_, _, hdT, hd1⟩ := hd
  have f1 := cmp_facts hvs
  have f2 := cmp_facts hcm
  have f3 := cmp_facts hvn
  have f4 := cmp_facts hvk
  refine Order_core m n k s d (T - 1 - m) ov un w cm vn vk ⟨⟨hm, hn, hsT, hs1⟩, ⟨hn, hm, hsT, by omega⟩, ⟨hsT, hn, hm, by omega⟩, ⟨hm, hn, hdT, hd1⟩, ⟨hdT, hn, hm, by omega⟩, by omega, ⟨hm, by omega, by omega, by simp; omega⟩, hm, hn, hk, hsT⟩ vs
    ⟨hvs, hcm, cmp_swap hcm, hvn, hvk⟩ ?_ ?_ f2.2.2.1 f2.2.2.2 (by omega)
  · cases ov <;> simp at hs1 ⊢ <;> omega
  · cases un <;> simp at hd1 ⊢ <;> omega

set_option maxRecDepth 100000 in
theorem liftedU256Order (os : Os) (started : os.Started) (H : Type) (enc : TypeId × Value → H) :
    ReturnsInHanded {} Try.checked os 3 .any (Rows.u256OrderSpec.pre6 enc Try.prog Try.f3 Rows.u256OrderRow.domain false) (Rows.u256OrderSpec.post enc Try.prog Try.f3 false true false false) := by
  refine returnsInHanded_of_change (C := Try.checked) own started (by kernel_rfl) Try.func3
    (ChangeSpec.witness6 (enc := enc) (C := Try.checked) false ⟨#[], #[.agg #[.int .u64 0, .int .u64 0, .int .u64 0, .int .u64 0], .agg #[.int .u64 0, .int .u64 0, .int .u64 0, .int .u64 0], .agg #[.int .u64 0, .int .u64 0, .int .u64 0, .int .u64 0]], []⟩ 8 (by kernel_rfl) (by kernel_rfl) (by kernel_rfl) (by kernel_rfl)) ?_
  intro W base args ds gs before hval0 hW hcnd _
  have hval : ∀ (j : Nat) t v, Try.f3.params[j]? = some t → args[j]? = some v → Value.okWide Try.prog W .any base t v := hval0
  have hW' := hW
  obtain ⟨p, q, hA0, hV, rfl, hfz, hnd⟩ := hW
  have hA : DataW.TrodAll enc Try.prog W 0 (fun _ => true) true Try.f3.params.toList args.toList ds p := hA0
  rw [Try.params3] at hA hval
  obtain ⟨v0, vs0, d0, ds0, p0, q0, hargs, rfl, rfl, h0, r0⟩ := trodAll_cons hA
  obtain ⟨v1, vs1, d1, ds1, p1, q1, rfl, rfl, rfl, h1, r1⟩ := trodAll_cons r0
  obtain ⟨v2, vs2, d2, ds2, p2, q2, rfl, rfl, rfl, h2, r2⟩ := trodAll_cons r1
  obtain ⟨rfl, rfl, rfl⟩ := trodAll_nil r2
  obtain rfl : args = #[v0, v1, v2] := by cases args; simp_all
  obtain ⟨rfl, rfl⟩ := trodVars_none hV
  have k0 := h0
  have lt0 : ∀ x ∈ p0, x.block < W.heap.size := by obtain ⟨m, hm⟩ := k0; exact DataW.trod_lt m _ _ _ hm
  obtain ⟨zs0, hz0, rfl, hw0⟩ := open_arrInts Try.underlying24 Try.underlying22 (by kernel_rfl) (by kernel_rfl) (hval 0 24 _ rfl rfl) h0
  obtain ⟨m0, hm0, e0⟩ := uval_of zs0 hz0 hw0
  rw [e0] at k0 hW'
  rw [e0]
  have k1 := h1
  have lt1 : ∀ x ∈ p1, x.block < W.heap.size := by obtain ⟨m, hm⟩ := k1; exact DataW.trod_lt m _ _ _ hm
  obtain ⟨zs1, hz1, rfl, hw1⟩ := open_arrInts Try.underlying24 Try.underlying22 (by kernel_rfl) (by kernel_rfl) (hval 1 24 _ rfl rfl) h1
  obtain ⟨m1, hm1, e1⟩ := uval_of zs1 hz1 hw1
  rw [e1] at k1 hW'
  rw [e1]
  have k2 := h2
  have lt2 : ∀ x ∈ p2, x.block < W.heap.size := by obtain ⟨m, hm⟩ := k2; exact DataW.trod_lt m _ _ _ hm
  obtain ⟨zs2, hz2, rfl, hw2⟩ := open_arrInts Try.underlying24 Try.underlying22 (by kernel_rfl) (by kernel_rfl) (hval 2 24 _ rfl rfl) h2
  obtain ⟨m2, hm2, e2⟩ := uval_of zs2 hz2 hw2
  rw [e2] at k2 hW'
  rw [e2]
  clear hA0 hval0
  refine (Order_walk m0 hm0 m1 hm1 m2 hm2 W).mono fun e W' ⟨he, bel⟩ => ?_
  subst he
  exact ⟨_, rfl, _, _, _, [], _, [], hW', trodAll_mk1 (shut_bool Try.underlying4 _), (trodAll_cons_mk (Below.trod laidOut (by kernel_rfl) (of_decide_eq_true (by kernel_rfl)) k0 bel lt0) (trodAll_cons_mk (Below.trod laidOut (by kernel_rfl) (of_decide_eq_true (by kernel_rfl)) k1 bel lt1) (trodAll_cons_mk (Below.trod laidOut (by kernel_rfl) (of_decide_eq_true (by kernel_rfl)) k2 bel lt2) trodAll_mk0))), rfl, bel.frame _, fun h => by cases h⟩

theorem U256Order_holds : Rows.U256OrderSaid :=
  OpenClaim.holds_of_wide 3 Try.f3 rfl rfl rfl rfl rfl rfl rfl ⟨rfl, rfl, rfl, rfl, rfl⟩ rfl rfl rfl rfl rfl (by kernel_rfl) Try.func3 (by kernel_rfl)
    (of_decide_eq_true (by kernel_rfl)) (by unfold Func.isWrapper; first | (rw [if_pos (by decide +kernel)]; kernel_rfl) | (rw [if_neg (by decide +kernel)]; exact ⟨rfl, rfl⟩))
    (fun os started H enc _ => liftedU256Order os started H enc)
#print axioms U256Order_holds
end Go.Proofs.Ytlnognioflfknaa
