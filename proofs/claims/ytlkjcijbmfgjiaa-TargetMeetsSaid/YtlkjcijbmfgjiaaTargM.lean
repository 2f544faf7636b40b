/- TargetMeets: its walk, for all arguments. -/
import Derived.Test.YtlkjcijbmfgjiaaTargL
namespace Go.Proofs.Ytlkjcijbmfgjiaa
open Go.RowKit
set_option linter.unusedVariables false
theorem meets_le (h t : Nat) (c : Int) (f : CmpIs h t c) : ((if t < h then (6 : Int) else 0) == 0) = decide (c ≤ 0) := by
  have f1 := cmp_facts f
  clear f
  by_cases hb : t < h
  · have z : ¬ c ≤ 0 := by omega
    simp [hb, z]
  · have z : c ≤ 0 := by omega
    simp [hb, z]
theorem leN_leBk (m k : Nat) (hk : k ≤ 32) : leN (leB m) k = m % 256 ^ k := by
  induction k with
  | zero => simp [leN_0, Nat.mod_one]
  | succ k ih =>
    have e : ((leB m).getD k 0).toNat = m / 256 ^ k % 256 := by
      simp [leB, List.getD, List.getElem?_range (show k < 32 by omega)]
    rw [leN_succ, ih (by omega), e, Nat.pow_succ, Nat.mod_mul, Nat.mul_comm (m / 256 ^ k % 256)]
theorem leN_leB (m : Nat) (hm : m < T) : leN (leB m) 32 = m := by
  have hT : T = 256 ^ 32 := by decide +kernel
  rw [hT] at hm
  rw [leN_leBk m 32 (Nat.le_refl _)]
  generalize 256 ^ 32 = P at *
  exact Nat.mod_eq_of_lt hm
theorem TMeets_walk (k : List UInt8) (hk : k.length = 32) (a : Int) (ha : (Lit.int .u32 a).wf = true) (b : Int) (hb : (Lit.int .u32 b).wf = true) (c : Int) (hc : (Lit.int .u32 c).wf = true) (w : World) :
    Calls Try.prog 6 #[.agg (u8cells k), .int .u32 a, .int .u32 b, .int .u32 c] w fun e w' => e = .returned (.bool true) ∧ Below w.heap.size w w' := by
  obtain ⟨a, rfl, ka⟩ := u32_nat ha
  obtain ⟨b, rfl, kb⟩ := u32_nat hb
  obtain ⟨c, rfl, kc⟩ := u32_nat hc
  obtain ⟨t, e, h⟩ : ∃ t e, expR a = (t, e) := ⟨_, _, rfl⟩
  obtain ⟨s, f, h1⟩ : ∃ s f, expR b = (s, f) := ⟨_, _, rfl⟩
  obtain ⟨l, g, h2⟩ : ∃ l g, expR c = (l, g) := ⟨_, _, rfl⟩
  have ht : t < T := by have := expR_lt a; rw [h] at this; exact this
  have hs : s < T := by have := expR_lt b; rw [h1] at this; exact this
  have hl : l < T := by have := expR_lt c; rw [h2] at this; exact this
  have hh := leN_T k 32 (Nat.le_refl _)
  obtain ⟨c1, hc1⟩ := cmp_ex t l ht hl
  obtain ⟨c2, hc2⟩ := cmp_ex t s ht hs
  obtain ⟨c3, hc3⟩ := cmp_ex s l hs hl
  obtain ⟨c4, hc4⟩ := cmp_ex (leN k 32) t hh ht
  have f1 := cmp_facts hc1
  have f2 := cmp_facts hc2
  have f3 := cmp_facts hc3
  have f4 := cmp_facts hc4
  have m1 := fun w => Meets_any k hk a c ka kc _ rfl w
  have m2 := fun w => Meets_any k hk b c kb kc _ rfl w
  have u1 : ∀ n, meetsR n a c = if e ≠ 0 then 7 else if g ≠ 0 ∨ l < t then 7 else if t < n then 6 else 0 := by intro n; unfold meetsR; rw [h, h2]
  have u2 : ∀ n, meetsR n b c = if f ≠ 0 then 7 else if g ≠ 0 ∨ l < s then 7 else if s < n then 6 else 0 := by intro n; unfold meetsR; rw [h1, h2]
  refine TMeets_core k (Lib.hid hk) (isH k hk) a b c t s l (t + 1) e f g c1 c2 c3 c4 _ _ ⟨ka, h, kb, h1, kc, h2⟩ ⟨m1, m2, trivial⟩ ⟨hc1, hc2, hc3, hc4⟩ (Lib.hid ?_) ⟨?_, ?_, ?_, ?_⟩ w
  · intro he hg hc
    subst he hg
    obtain ⟨t1, t2⟩ := expR_good a t h
    have hlt : ¬ l < t := fun h => hc (f1.2.1.2 h)
    have w1 : ∀ n, meetsR n a c = if t < n then 6 else 0 := by intro n; rw [u1, if_neg (by simp), if_neg (by simp; omega)]
    refine ⟨⟨ht, by omega, t2, by simp⟩, ht, ?_, t2, ?_, ?_⟩
    · intro w
      exact Meets_any (leB t) (leB_length t) a c ka kc 0 (by rw [leN_leB t ht, w1, if_neg (by omega)]) w
    · intro w
      exact Meets_any (leB (t + 1)) (leB_length _) a c ka kc 6 (by rw [leN_leB _ t2, w1, if_pos (by omega)]) w
    · rw [w1]; exact meets_le _ _ _ hc4
  · intro he; rw [u1, if_pos he]
  · intro he hg; rw [u1, if_neg (by simp [he]), if_pos (.inl hg)]
  · intro he hg hc; rw [u1, if_neg (by simp [he]), if_pos (.inr (f1.2.1.1 hc))]
  · intro hf hd hh hx
    rw [u2, if_neg (by simp [hf])]
    rw [u1] at hx
    by_cases he : e = 0
    · rw [if_neg (by simp [he])] at hx
      by_cases hg : g ≠ 0 ∨ l < t
      · rw [if_pos hg] at hx; cases hx
      · rw [if_neg hg] at hx
        by_cases hn : t < leN k 32
        · rw [if_pos hn] at hx; cases hx
        · rw [if_neg (by intro h; rcases h with h | h; exact hg (.inl h); omega), if_neg (by omega)]
    · rw [if_pos he] at hx; cases hx
end Go.Proofs.Ytlkjcijbmfgjiaa
