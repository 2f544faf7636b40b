/- The statement U256Shifts: for every input the call returns true, and its arguments read as before. -/
import Derived.Test.YtlnognioflfknaaFrame
import Derived.Test.YtlnognioflfknaaLaw01Shifts
namespace Go.Proofs.Ytlnognioflfknaa
open Go.ChangeShapes Go.WideShapes Go.ChangeAt Go.RowKit
open Go.ChangeMaps (open_string shut_string)
set_option linter.unusedVariables false

theorem and255 (n : Int) (h : (Lit.int .i64 n).wf = true) : bits .and .i64 n 255 = ((n % 256).toNat : Int) := by
  have h255 : (255 : Int) = ((255 : Nat) : Int) := rfl
  show IntKind.i64.wrap ((BitVec.ofInt 64 n &&& BitVec.ofInt 64 255).toNat : Int) = _
  have e1 : (BitVec.ofInt 64 (255 : Int)).toNat = 255 := by decide
  rw [BitVec.toNat_and, e1]
  have e2 : (BitVec.ofInt 64 n).toNat = (n % 2 ^ 64).toNat := BitVec.toNat_ofInt n
  rw [e2]
  have e3 : (n % 2 ^ 64).toNat &&& 255 = (n % 2 ^ 64).toNat % 256 := Nat.and_two_pow_sub_one_eq_mod _ 8
  rw [e3]
  have e4 : (n % 2 ^ 64).toNat % 256 = (n % 256).toNat := by omega
  rw [e4]
  simp [IntKind.wrap, IntKind.signed, IntKind.bits]
  omega
theorem shl_back (m k : Nat) (hm : m < T) (hk : k < 256) (h : shlB m k = false) : shrN (shlN m k) k = m := by
  unfold shlB at h
  unfold shrN shlN
  by_cases h0 : (k : Int) ≤ 0
  · rw [if_pos h0, if_pos h0]
  · rw [if_neg h0, if_neg (by omega)] at h
    rw [if_neg h0, if_neg h0, Int.toNat_natCast]
    have h1 : bl m ≤ 256 - k := by simp at h; omega
    have h2 := (bl_lt m (256 - k)).1 h1
    have hp : 0 < 2 ^ k := Nat.two_pow_pos k
    have hT : T = 2 ^ (256 - k) * 2 ^ k := by rw [← Nat.pow_add, show 256 - k + k = 256 by omega]; decide
    rw [Nat.mod_eq_of_lt (by rw [hT]; exact Nat.mul_lt_mul_of_pos_right h2 hp), Nat.mul_div_cancel _ hp]
theorem Shifts_walk (m : Nat) (hm : m < T) (n : Int) (hw : (Lit.int .i64 n).wf = true) (w : World) :
    Calls Try.prog 9 #[uval m, .int .i64 n] w fun e w' => e = .returned (.bool true) ∧ Below w.heap.size w w' := by
  have hk := and255 n hw
  have hk2 : (n % 256).toNat ≤ 255 := by omega
  generalize (n % 256).toNat = k at *
  obtain ⟨d, over, hs⟩ := sum_ex m m hm hm
  have hb := (bl_lt m 256).2 hm
  have h1T : 1 < T := by decide
  have hl := bl_lt m 255
  have hT2 : T = 2 ^ 255 * 2 := by decide
  have hdov : shlN m 1 = d ∧ shlB m 1 = over := by
    have e1 : shlN m 1 = m * 2 % T := rfl
    have e2 : shlB m 1 = decide (256 < (bl m : Int) + 1) := rfl
    rw [e1, e2]
    obtain ⟨_, _, hd, he⟩ := hs
    rw [hT2] at hd he ⊢
    generalize (2 : Nat) ^ 255 = z at *
    cases over
    · simp at he
      refine ⟨by rw [Nat.mod_eq_of_lt (by omega)]; omega, ?_⟩
      simp; omega
    · simp at he
      refine ⟨?_, ?_⟩
      · rw [show m * 2 = d + z * 2 by omega, Nat.add_mod_right, Nat.mod_eq_of_lt hd]
      · simp; omega
  have hp2 : shlN 1 k = 2 ^ k := by
    unfold shlN
    by_cases h0 : (k : Int) ≤ 0
    · obtain rfl : k = 0 := by omega
      rfl
    · rw [if_neg h0, Int.toNat_natCast, Nat.one_mul, Nat.mod_eq_of_lt]
      have : (2 : Nat) ^ k < 2 ^ 256 := Nat.pow_lt_pow_right (by decide) (by omega)
      rw [show T = 2 ^ 256 from by decide]; exact this
  have hpT : (2 : Nat) ^ k < T := by rw [show T = 2 ^ 256 from by decide]; exact Nat.pow_lt_pow_right (by decide) (by omega)
  have hpp : 0 < (2 : Nat) ^ k := Nat.two_pow_pos k
  have hshr : shrN m k = m / 2 ^ k := by
    unfold shrN
    by_cases h0 : (k : Int) ≤ 0
    · obtain rfl : k = 0 := by omega
      rw [if_pos h0, Nat.pow_zero, Nat.div_one]
    · rw [if_neg h0, Int.toNat_natCast]
  have hz : ((bl m : Int) == 0) = decide (m = 0) := by
    have h0 := bl_lt m 0
    rw [Bool.eq_iff_iff]
    simp at h0 ⊢
    constructor <;> intro h <;> omega
  obtain ⟨z, hzz⟩ : ∃ z, decide (m = 0) = z := ⟨_, rfl⟩
  have ex := fun w => eqU0 m z hm hzz w
  refine Shifts_core m k n w hk hk2 d (shlN m k) (shlN 1 k) (m / 2 ^ k) (m % 2 ^ k) over (shlB m k) (shlB 1 k) z _
    (Lib.hid ⟨hs, ⟨hm, by omega, hdov.1, hdov.2⟩, ⟨hm, by omega, rfl, rfl⟩, ⟨h1T, by omega, rfl, rfl⟩, ⟨hm, by rw [hp2]; exact hpT, .inr ⟨by rw [hp2]; exact hpp, by rw [hp2], by rw [hp2], rfl⟩⟩, ⟨hm, hshr⟩, fun h => ⟨?_, shl_back m k hm (by omega) h⟩⟩)
    (bl m) (Lib.hid ⟨hm, rfl⟩) (by omega) (by omega) rfl (by rw [hz, hzz]) ex ?_
  · unfold shlN
    split
    · exact hm
    · exact Nat.mod_lt _ (by decide)
  · unfold shlB
    by_cases h0 : (k : Int) ≤ 0
    · rw [if_pos h0]
      exact .inr ⟨by simp; omega, rfl⟩
    · rw [if_neg h0, if_neg (by omega)]
      by_cases hg : 256 < (bl m : Int) + (k : Int)
      · refine .inl ⟨by simpa using hg, ?_, by simpa using hg⟩
        rw [← hzz]
        have h0 := bl_lt m 0
        simp at h0 ⊢
        intro e
        have := h0.2 e
        omega
      · exact .inr ⟨by simpa using hg, by simpa using hg⟩

set_option maxRecDepth 100000 in
theorem liftedU256Shifts (os : Os) (started : os.Started) (H : Type) (enc : TypeId × Value → H) :
    ReturnsInHanded {} Try.checked os 9 .any (Rows.u256ShiftsSpec.pre6 enc Try.prog Try.f9 Rows.u256ShiftsRow.domain false) (Rows.u256ShiftsSpec.post enc Try.prog Try.f9 false true false false) := by
  refine returnsInHanded_of_change (C := Try.checked) own started (by kernel_rfl) Try.func9
    (ChangeSpec.witness6 (enc := enc) (C := Try.checked) false ⟨#[], #[.agg #[.int .u64 0, .int .u64 0, .int .u64 0, .int .u64 0], .int .i64 0], []⟩ 8 (by kernel_rfl) (by kernel_rfl) (by kernel_rfl) (by kernel_rfl)) ?_
  intro W base args ds gs before hval0 hW hcnd _
  have hval : ∀ (j : Nat) t v, Try.f9.params[j]? = some t → args[j]? = some v → Value.okWide Try.prog W .any base t v := hval0
  have hW' := hW
  obtain ⟨p, q, hA0, hV, rfl, hfz, hnd⟩ := hW
  have hA : DataW.TrodAll enc Try.prog W 0 (fun _ => true) true Try.f9.params.toList args.toList ds p := hA0
  rw [Try.params9] at hA hval
  obtain ⟨v0, vs0, d0, ds0, p0, q0, hargs, rfl, rfl, h0, r0⟩ := trodAll_cons hA
  obtain ⟨v1, vs1, d1, ds1, p1, q1, rfl, rfl, rfl, h1, r1⟩ := trodAll_cons r0
  obtain ⟨rfl, rfl, rfl⟩ := trodAll_nil r1
  obtain rfl : args = #[v0, v1] := by cases args; simp_all
  obtain ⟨rfl, rfl⟩ := trodVars_none hV
  have k0 := h0
  have lt0 : ∀ x ∈ p0, x.block < W.heap.size := by obtain ⟨m, hm⟩ := k0; exact DataW.trod_lt m _ _ _ hm
  obtain ⟨zs0, hz0, rfl, hw0⟩ := open_arrInts Try.underlying24 Try.underlying22 (by kernel_rfl) (by kernel_rfl) (hval 0 24 _ rfl rfl) h0
  obtain ⟨m0, hm0, e0⟩ := uval_of zs0 hz0 hw0
  rw [e0] at k0 hW'
  rw [e0]
  obtain ⟨a1, rfl, rfl, rfl, w1⟩ := open_int Try.underlying3 (hval 1 3 v1 rfl rfl) h1
  clear hA0 hval0
  refine (Shifts_walk m0 hm0 a1 w1 W).mono fun e W' ⟨he, bel⟩ => ?_
  subst he
  exact ⟨_, rfl, _, _, _, [], _, [], hW', trodAll_mk1 (shut_bool Try.underlying4 _), (trodAll_cons_mk (Below.trod laidOut (by kernel_rfl) (of_decide_eq_true (by kernel_rfl)) k0 bel lt0) (trodAll_cons_mk (shut_int Try.underlying3 w1) trodAll_mk0)), rfl, bel.frame _, fun h => by cases h⟩

theorem U256Shifts_holds : Rows.U256ShiftsSaid :=
  OpenClaim.holds_of_wide 9 Try.f9 rfl rfl rfl rfl rfl rfl rfl ⟨rfl, rfl, rfl, rfl, rfl⟩ rfl rfl rfl rfl rfl (by kernel_rfl) Try.func9 (by kernel_rfl)
    (of_decide_eq_true (by kernel_rfl)) (by unfold Func.isWrapper; first | (rw [if_pos (by decide +kernel)]; kernel_rfl) | (rw [if_neg (by decide +kernel)]; exact ⟨rfl, rfl⟩))
    (fun os started H enc _ => liftedU256Shifts os started H enc)
#print axioms U256Shifts_holds
end Go.Proofs.Ytlnognioflfknaa
