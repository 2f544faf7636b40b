/- florinref05: the document's Expand, for all bits. -/
import Derived.Test.YtndockjflnicjaaIsA
import Derived.Test.YtndockjflnicjaaTargB
namespace Go.Proofs.Ytndockjflnicjaa
open Go.RowKit
set_option linter.unusedVariables false
theorem eqRZ (m : Nat) (b : Bool) (hm : m < T) (h : decide (m = 0) = b) (w : World) : (Op.equalIn 10000 63 (.agg #[.int .u64 (lim m 0), .int .u64 (lim m 1), .int .u64 (lim m 2), .int .u64 (lim m 3)]) (.agg #[.int .u64 0, .int .u64 0, .int .u64 0, .int .u64 0])).run Try.prog w = .ok b w := by
  obtain ⟨i, hi⟩ := Option.isSome_iff_exists.1 (show (Try.prog.info? 32).isSome = true by kernel_rfl)
  have q := run_eqInts w .u64 .u64 (by kernel_rfl) Try.underlying32 Try.underlying63 hi (by kernel_rfl) (fun i => lim m i) (fun i => lim 0 i) (ucells m) (ucells 0)
    (fun i hi => ⟨ucells_at m i hi, ucells_at 0 i hi⟩) b (parts_eq m 0 hm (by decide) b h)
  unfold ucells at q
  rw [show lim 0 0 = 0 by rfl, show lim 0 1 = 0 by rfl, show lim 0 2 = 0 by rfl, show lim 0 3 = 0 by rfl] at q
  exact q
theorem and_bit (b : Nat) : b &&& 8388608 = if b / 8388608 % 2 = 0 then 0 else 8388608 := by
  have key : ∀ c : Bool, b.testBit 23 = c → b &&& 2 ^ 23 = if c then 2 ^ 23 else 0 := by
    intro c hb
    apply Nat.eq_of_testBit_eq
    intro i
    rw [Nat.testBit_and, Nat.testBit_two_pow]
    by_cases hi : 23 = i
    · subst hi
      rw [hb]
      cases c
      · rfl
      · rw [if_pos rfl, Nat.testBit_two_pow]; rfl
    · rw [decide_eq_false hi, Bool.and_false]
      cases c
      · exact (Nat.zero_testBit i).symm
      · rw [if_pos rfl, Nat.testBit_two_pow, decide_eq_false hi]
  by_cases hs : b / 8388608 % 2 = 0
  · have := key false (by rw [Nat.testBit_eq_decide_div_mod_eq, show (2 : Nat) ^ 23 = 8388608 from rfl, hs]; rfl)
    rw [if_pos hs]
    exact this
  · have := key true (by rw [Nat.testBit_eq_decide_div_mod_eq, show (2 : Nat) ^ 23 = 8388608 from rfl, show b / 8388608 % 2 = 1 by omega]; rfl)
    rw [if_neg hs]
    exact this
theorem shl_small (m n : Nat) (h : ¬ T ≤ m * 2 ^ n) : shlN m (n : Int) = m * 2 ^ n := by
  unfold shlN
  by_cases h0 : (n : Int) ≤ 0
  · rw [if_pos h0, show n = 0 by omega, Nat.pow_zero, Nat.mul_one]
  · rw [if_neg h0, Int.toNat_natCast, Nat.mod_eq_of_lt (by omega)]
theorem shl_lt (m : Nat) (n : Int) (hm : m < T) : shlN m n < T := by
  unfold shlN
  split
  · exact hm
  · exact Nat.mod_lt _ (by decide)
theorem shr_lt (m : Nat) (n : Int) (hm : m < T) : shrN m n < T := by
  unfold shrN
  split
  · exact hm
  · exact Nat.lt_of_le_of_lt (Nat.div_le_self _ _) hm
theorem RExpand_any (b v : Nat) (r : Int) (hb : b < 4294967296) (h : expR b = (v, r)) (w : World) :
    Calls Try.prog 33 #[.int .u32 b] w fun q w' => q = .returned (.tuple #[uval v, .int .i64 r]) ∧ Below w.heap.size w w' := by
  obtain ⟨e, he⟩ : ∃ e, e = b / 16777216 := ⟨_, rfl⟩
  obtain ⟨m, hm⟩ : ∃ m, m = b % 8388608 := ⟨_, rfl⟩
  have he' : (b : Int) / 16777216 = (e : Int) := by omega
  have hm' : bits .and .u32 (b : Int) 8388607 = (m : Int) := by
    have := u32_and_nat b 8388607 (by omega) (by omega)
    rw [show ((8388607 : Nat) : Int) = 8388607 from rfl] at this
    rw [this, show b &&& 8388607 = b % 8388608 from Nat.and_two_pow_sub_one_eq_mod _ 23, hm]
  have he256 : e < 256 := by omega
  have hm23 : m < 8388608 := by omega
  have hmT : m < T := by unfold T; omega
  have w1 : IntKind.i64.wrap (e : Int) = (e : Int) := by simp [IntKind.wrap, IntKind.signed, IntKind.bits]; omega
  have w2 : IntKind.u64.wrap (m : Int) = (m : Int) := by rw [IntKind.wrap_u64]; omega
  have w3 : IntKind.i64.wrap (3 - (e : Int)) = 3 - (e : Int) := by simp [IntKind.wrap, IntKind.signed, IntKind.bits]; omega
  have w4 : IntKind.i64.wrap (8 * (3 - (e : Int))) = 8 * (3 - (e : Int)) := by simp [IntKind.wrap, IntKind.signed, IntKind.bits]; omega
  have hO := fun w => ROf_any m w (by unfold W64; omega)
  have hR := fun w => RShr_any m (8 * (3 - (e : Int))) w hmT (by omega)
  have hs : bits .and .u32 (b : Int) 8388608 = ((b &&& 8388608 : Nat) : Int) := (and_23 b hb).1
  have hsn : ∀ c : Bool, (b / 8388608 % 2 == 1) = c → ((((b &&& 8388608 : Nat) : Int) != 0) = c) := by
    intro c hc
    rw [and_bit, ← hc]
    by_cases hz : b / 8388608 % 2 = 0
    · rw [if_pos hz, hz]; rfl
    · rw [if_neg hz, show b / 8388608 % 2 = 1 by omega]; rfl
  obtain ⟨sn, hsn'⟩ : ∃ sn, (b / 8388608 % 2 == 1) = sn := ⟨_, rfl⟩
  unfold expR at h
  rw [← he, ← hm] at h
  by_cases h3 : 3 < e
  · have w5 : IntKind.i64.wrap ((e : Int) - 3) = (e : Int) - 3 := by simp [IntKind.wrap, IntKind.signed, IntKind.bits]; omega
    obtain ⟨n, hn⟩ : ∃ n, n = 8 * (e - 3) := ⟨_, rfl⟩
    have w6 : IntKind.i64.wrap (8 * ((e : Int) - 3)) = (n : Int) := by simp [IntKind.wrap, IntKind.signed, IntKind.bits]; omega
    have hL := fun w => RShl_any m (n : Int) w hmT (by omega)
    have hx : expV e m = m * 2 ^ n := by unfold expV; rw [if_neg (by omega), hn]
    have ho := shlB_over m n hmT
    have htT := shl_lt m (n : Int) hmT
    refine RExpand_hi b e m (shrN m (8 * (3 - (e : Int)))) (shlN m (n : Int)) v r _ _ _ (decide (shlN m (n : Int) = 0)) sn (shlB m (n : Int)) he' w1 hm' w2 w3 w4 hs (Lib.hid hO) (Lib.hid hR) (decide_eq_true (by omega)) _ _ w5 w6 (Lib.hid hL) ⟨fun w => eqRZ _ _ htT rfl w, hsn _ hsn'⟩ ⟨?_, ?_⟩ w
    · intro hh
      have hbad : (m ≠ 0 ∧ b / 8388608 % 2 = 1) ∨ (T ≤ expV e m ∨ expV e m = 0) := by
        rw [hx]
        by_cases hov : T ≤ m * 2 ^ n
        · exact .inr (.inl hov)
        · rw [ho, decide_eq_false hov, shl_small m n hov] at hh
          rcases hh with hh | hh | hh
          · exact .inr (.inr (of_decide_eq_true hh))
          · cases hh
          · by_cases hm0 : m = 0
            · exact .inr (.inr (by rw [hm0, Nat.zero_mul]))
            · rw [hh] at hsn'
              exact .inl ⟨hm0, by simpa using hsn'⟩
      by_cases hA : m ≠ 0 ∧ b / 8388608 % 2 = 1
      · rw [if_pos hA] at h; injection h with h1 h2; exact ⟨h1.symm, h2.symm⟩
      · rw [if_neg hA, if_pos (hbad.resolve_left hA)] at h; injection h with h1 h2; exact ⟨h1.symm, h2.symm⟩
    · intro hz hl hsf
      have hov : ¬ T ≤ m * 2 ^ n := by rw [ho] at hl; exact of_decide_eq_false hl
      rw [shl_small m n hov] at hz ⊢
      have hz' := of_decide_eq_false hz
      rw [hsf] at hsn'
      rw [if_neg (by rintro ⟨_, k⟩; rw [k] at hsn'; simp at hsn'), if_neg (by rw [hx]; intro k; rcases k with k | k; exact hov k; exact hz' k), hx] at h
      injection h with h1 h2
      exact ⟨h1, h2.symm⟩
  · have hx : expV e m = shrN m (8 * (3 - (e : Int))) := by
      unfold expV shrN
      by_cases he3 : e < 3
      · rw [if_pos he3, if_neg (by omega)]
        congr 2
        omega
      · have : e = 3 := by omega
        subst this
        simp
    have htT := shr_lt m (8 * (3 - (e : Int))) hmT
    refine RExpand_lo b e m (shrN m (8 * (3 - (e : Int)))) _ v r _ _ _ (decide (shrN m (8 * (3 - (e : Int))) = 0)) sn false he' w1 hm' w2 w3 w4 hs (Lib.hid hO) (Lib.hid hR) (decide_eq_false (by omega)) rfl rfl ⟨fun w => eqRZ _ _ htT rfl w, hsn _ hsn'⟩ ⟨?_, ?_⟩ w
    · intro hh
      have hbad : (m ≠ 0 ∧ b / 8388608 % 2 = 1) ∨ (T ≤ expV e m ∨ expV e m = 0) := by
        rcases hh with hh | hh | hh
        · exact .inr (.inr (by rw [hx]; exact of_decide_eq_true hh))
        · cases hh
        · by_cases hm0 : m = 0
          · refine .inr (.inr ?_)
            rw [hx, hm0]
            unfold shrN
            split
            · rfl
            · exact Nat.zero_div _
          · rw [hh] at hsn'
            exact .inl ⟨hm0, by simpa using hsn'⟩
      by_cases hA : m ≠ 0 ∧ b / 8388608 % 2 = 1
      · rw [if_pos hA] at h; injection h with h1 h2; exact ⟨h1.symm, h2.symm⟩
      · rw [if_neg hA, if_pos (hbad.resolve_left hA)] at h; injection h with h1 h2; exact ⟨h1.symm, h2.symm⟩
    · intro hz _ hsf
      have hz' := of_decide_eq_false hz
      rw [hsf] at hsn'
      rw [if_neg (by rintro ⟨_, k⟩; rw [k] at hsn'; simp at hsn'), if_neg (by rw [hx]; intro k; rcases k with k | k; omega; exact hz' k), hx] at h
      injection h with h1 h2
      exact ⟨h1, h2.symm⟩
end Go.Proofs.Ytndockjflnicjaa
