/- The statement U256Divides: for every input the call returns true, and its arguments read as before. -/
import Derived.Test.YtlnognioflfknaaFrame
import Derived.Test.YtlnognioflfknaaLaw01Div
namespace Go.Proofs.Ytlnognioflfknaa
open Go.ChangeShapes Go.WideShapes Go.ChangeAt Go.RowKit
open Go.ChangeMaps (open_string shut_string)
set_option linter.unusedVariables false

theorem u64_nat {k : Int} (h : (Lit.int .u64 k).wf = true) : ∃ n : Nat, k = n ∧ n < W64 := by
  simp [Lit.wf, IntKind.min, IntKind.max, IntKind.signed, IntKind.bits] at h
  exact ⟨k.toNat, by omega, by unfold W64; omega⟩
theorem Divides_walk (m : Nat) (hm : m < T) (n : Nat) (hn : n < T) (k : Int) (hw : (Lit.int .u64 k).wf = true) (w : World) :
    Calls Try.prog 7 #[uval m, uval n, .int .u64 k] w fun e w' => e = .returned (.bool true) ∧ Below w.heap.size w w' := by
  obtain ⟨k, rfl, hk⟩ := u64_nat hw
  have hkT : k < T := by unfold W64 at hk; unfold T; omega
  obtain ⟨q, r, ok, hd⟩ := div_ex m k hm hkT
  have hq : q ≤ m := by
    rcases hd.2.2 with ⟨_, h, _⟩ | ⟨_, h, _⟩
    · omega
    · rw [h]; exact Nat.div_le_self _ _
  have hr : r < T := by
    rcases hd.2.2 with ⟨_, _, h, _⟩ | ⟨h0, _, h, _⟩
    · omega
    · rw [h]; exact Nat.lt_trans (Nat.mod_lt _ h0) hkT
  have hprod : q * k + r ≤ m ∧ (ok = true → q * k + r = m) := by
    rcases hd.2.2 with ⟨_, h1, h2, h3⟩ | ⟨h0, h1, h2, _⟩
    · subst h1 h2 h3; simp
    · have := Nat.div_add_mod m k
      rw [Nat.mul_comm] at this
      rw [h1, h2]
      omega
  obtain ⟨m1, lost, hp⟩ := prod_ex q k (by omega) hk
  have hm1 : m1 = q * k := by rw [hp.2.2.2.1, Nat.mod_eq_of_lt (by omega)]
  have hlost : lost = false := by rw [hp.2.2.2.2]; simp; omega
  obtain ⟨s, over, hs⟩ := sum_ex m1 r (by omega) hr
  have hover : over = false ∧ s = q * k + r := by
    have h1 := hs.2.2.2
    cases over
    · simp at h1; exact ⟨rfl, by omega⟩
    · simp at h1; have := hs.2.2.1; omega
  obtain ⟨c, hc⟩ := cmp_ex r k hr hkT
  obtain ⟨p, t2, is, hd2⟩ := div_ex m n hm hn
  have hp2 : p ≤ m := by
    rcases hd2.2.2 with ⟨_, h, _⟩ | ⟨_, h, _⟩
    · omega
    · rw [h]; exact Nat.div_le_self _ _
  have ht2 : t2 ≤ m := by
    rcases hd2.2.2 with ⟨_, _, h, _⟩ | ⟨h0, _, h, _⟩
    · omega
    · rw [h]; exact Nat.mod_le _ _
  obtain ⟨d, bo, hdf⟩ := diff_ex m t2 hm (by omega)
  have hdd : d = m - t2 := by
    have h1 := hdf.2.2.2
    cases bo
    · simp at h1; omega
    · simp at h1; have := hdf.2.2.1; omega
  obtain ⟨c2, hc2⟩ := cmp_ex t2 n (by omega) hn
  have hd3 : DivIs d n p 0 is := by
    refine ⟨by omega, hn, ?_⟩
    rcases hd2.2.2 with ⟨h1, h2, h3, h4⟩ | ⟨h0, h1, h2, h3⟩
    · exact .inl ⟨h1, h2, rfl, h4⟩
    · have hdm := Nat.div_add_mod m n
      have e : d = n * (m / n) := by omega
      refine .inr ⟨h0, ?_, ?_, h3⟩
      · rw [e, Nat.mul_div_cancel_left _ h0, h1]
      · rw [e, Nat.mul_mod_right]
  refine Divides_core m n k w q r ok hk (Lib.hid hd) m1 s lost over c ⟨hp, hs⟩ (Lib.hid hc) ?_ ?_ p t2 d is bo c2 ⟨hd2, hdf, hd3, ?_, hp2, hc2, ?_⟩
  · intro h
    rcases hd.2.2 with ⟨_, _, _, h1⟩ | ⟨h0, _, h2, _⟩
    · rw [h] at h1; cases h1
    · exact (cmp_facts hc).1.2 (by rw [h2]; exact Nat.mod_lt _ h0)
  · rcases hd.2.2 with ⟨h1, _, _, h2⟩ | ⟨h0, _, _, h2⟩
    · exact .inl ⟨h2, h1⟩
    · exact .inr ⟨h2, h0, hlost, hover.1, by rw [hover.2]; exact hprod.2 h2⟩
  · rcases hd2.2.2 with ⟨h1, _, _, h2⟩ | ⟨h0, _, _, h2⟩
    · rw [h2, h1]; rfl
    · rw [h2]; simp; omega
  · intro h
    rcases hd2.2.2 with ⟨_, _, _, h1⟩ | ⟨h0, _, h2, _⟩
    · rw [h] at h1; cases h1
    · exact (cmp_facts hc2).1.2 (by rw [h2]; exact Nat.mod_lt _ h0)

set_option maxRecDepth 100000 in
theorem liftedU256Divides (os : Os) (started : os.Started) (H : Type) (enc : TypeId × Value → H) :
    ReturnsInHanded {} Try.checked os 7 .any (Rows.u256DividesSpec.pre6 enc Try.prog Try.f7 Rows.u256DividesRow.domain false) (Rows.u256DividesSpec.post enc Try.prog Try.f7 false true false false) := by
  refine returnsInHanded_of_change (C := Try.checked) own started (by kernel_rfl) Try.func7
    (ChangeSpec.witness6 (enc := enc) (C := Try.checked) false ⟨#[], #[.agg #[.int .u64 0, .int .u64 0, .int .u64 0, .int .u64 0], .agg #[.int .u64 0, .int .u64 0, .int .u64 0, .int .u64 0], .int .u64 0], []⟩ 8 (by kernel_rfl) (by kernel_rfl) (by kernel_rfl) (by kernel_rfl)) ?_
  intro W base args ds gs before hval0 hW hcnd _
  have hval : ∀ (j : Nat) t v, Try.f7.params[j]? = some t → args[j]? = some v → Value.okWide Try.prog W .any base t v := hval0
  have hW' := hW
  obtain ⟨p, q, hA0, hV, rfl, hfz, hnd⟩ := hW
  have hA : DataW.TrodAll enc Try.prog W 0 (fun _ => true) true Try.f7.params.toList args.toList ds p := hA0
  rw [Try.params7] at hA hval
  obtain ⟨v0, vs0, d0, ds0, p0, q0, hargs, rfl, rfl, h0, r0⟩ := trodAll_cons hA
  obtain ⟨v1, vs1, d1, ds1, p1, q1, rfl, rfl, rfl, h1, r1⟩ := trodAll_cons r0
  obtain ⟨v2, vs2, d2, ds2, p2, q2, rfl, rfl, rfl, h2, r2⟩ := trodAll_cons r1
  obtain ⟨rfl, rfl, rfl⟩ := trodAll_nil r2
  obtain rfl : args = #[v0, v1, v2] := by cases args; simp_all
  obtain ⟨rfl, rfl⟩ := trodVars_none hV
  have k0 := h0
  have lt0 : ∀ x ∈ p0, x.block < W.heap.size := by obtain ⟨m, hm⟩ := k0; exact DataW.trod_lt m _ _ _ hm
  obtain ⟨zs0, hz0, rfl, hw0⟩ := open_arrInts Try.underlying24 Try.underlying22 (by kernel_rfl) (by kernel_rfl) (hval 0 24 _ rfl rfl) h0
  obtain ⟨m0, hm0, e0⟩ := uval_of zs0 hz0 hw0
  rw [e0] at k0 hW'
  rw [e0]
  have k1 := h1
  have lt1 : ∀ x ∈ p1, x.block < W.heap.size := by obtain ⟨m, hm⟩ := k1; exact DataW.trod_lt m _ _ _ hm
  obtain ⟨zs1, hz1, rfl, hw1⟩ := open_arrInts Try.underlying24 Try.underlying22 (by kernel_rfl) (by kernel_rfl) (hval 1 24 _ rfl rfl) h1
  obtain ⟨m1, hm1, e1⟩ := uval_of zs1 hz1 hw1
  rw [e1] at k1 hW'
  rw [e1]
  obtain ⟨a2, rfl, rfl, rfl, w2⟩ := open_int Try.underlying22 (hval 2 22 v2 rfl rfl) h2
  clear hA0 hval0
  refine (Divides_walk m0 hm0 m1 hm1 a2 w2 W).mono fun e W' ⟨he, bel⟩ => ?_
  subst he
  exact ⟨_, rfl, _, _, _, [], _, [], hW', trodAll_mk1 (shut_bool Try.underlying4 _), (trodAll_cons_mk (Below.trod laidOut (by kernel_rfl) (of_decide_eq_true (by kernel_rfl)) k0 bel lt0) (trodAll_cons_mk (Below.trod laidOut (by kernel_rfl) (of_decide_eq_true (by kernel_rfl)) k1 bel lt1) (trodAll_cons_mk (shut_int Try.underlying22 w2) trodAll_mk0))), rfl, bel.frame _, fun h => by cases h⟩

theorem U256Divides_holds : Rows.U256DividesSaid :=
  OpenClaim.holds_of_wide 7 Try.f7 rfl rfl rfl rfl rfl rfl rfl ⟨rfl, rfl, rfl, rfl, rfl⟩ rfl rfl rfl rfl rfl (by kernel_rfl) Try.func7 (by kernel_rfl)
    (of_decide_eq_true (by kernel_rfl)) (by unfold Func.isWrapper; first | (rw [if_pos (by decide +kernel)]; kernel_rfl) | (rw [if_neg (by decide +kernel)]; exact ⟨rfl, rfl⟩))
    (fun os started H enc _ => liftedU256Divides os started H enc)
#print axioms U256Divides_holds
end Go.Proofs.Ytlnognioflfknaa
