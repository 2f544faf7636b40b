/- What sha2.Write comes to, of any state; and of a state that has taken up a text. -/
import Derived.Test.YtfebknplkbeblaaDoorShaJ
namespace Go.Proofs.YtfebknplkbeblaaDoor
open Go.RowKit
set_option linter.unusedVariables false

/-- The state that Write goes on from. -/
def effH (H : List Wd) (len n : Nat) : List Wd := if len = n % 64 then H else HI
def effR (r : List UInt8) (len n : Nat) : List UInt8 := if len = n % 64 then r else []
def effN (len n : Nat) : Nat := if len = n % 64 then n else 0
theorem Write_any (H : List Wd) (hH : H.length = 8) (a : Option Addr) (rest : List UInt8) (len c n : Nat) (hn : n < W64) (hrl : rest.length = len) (hlc : len ≤ c) (hcm : c ≤ maxLen)
    (a' : Option Addr) (t : List UInt8) (m c' : Nat) (hm : t.length = m) (hc : m ≤ c') (hc2 : m ≤ 140737488355328 ∧ c' ≤ 9223372036854775807) (hno : a' = none → m = 0 ∧ c' = 0) (w : World) (hrr : RdS w a rest) (hr : RdS w a' t) (hL : Laid w) :
    Calls Tryd.prog 22 #[.agg (stC H (.slice a len c) n), .slice a' m c'] w (WrPost w (effH H len n) (effR rest len n ++ t) ((effN len n + m) % W64)) := by
  have hl9 : len ≤ 9223372036854775807 := by unfold maxLen at hcm; omega
  unfold effH effR effN
  by_cases h : len = n % 64
  · rw [if_pos h, if_pos h, if_pos h]
    by_cases h0 : len = 0
    · have hr0 : rest = [] := List.length_eq_zero_iff.1 (by omega)
      rw [hr0, List.nil_append]
      exact Write_empty H hH a len c n hn hl9 H hH a c n hn hcm (.inl ⟨h, rfl, rfl, rfl, rfl, h0⟩) a' t m c' hm hc hc2 hno w hr hL
    · rcases hrr with hrr | ⟨g, off, ha, hg, hrd⟩
      · rw [hrr] at hrl; exact absurd hrl.symm h0
      · subst ha
        by_cases hf : len + m < 64
        · exact Write_few H hH _ rest len c n hn h (by omega) hrl hlc hcm a' t m c' hm hc hc2 hno hf w (.inr ⟨g, off, rfl, hg, hrd⟩) hr hL
        · exact Write_many H hH _ rest len c n hn h (by omega) hrl hlc hcm a' t m c' hm hc hc2 hno (by omega) w (.inr ⟨g, off, rfl, hg, hrd⟩) hr hL
  · rw [if_neg h, if_neg h, if_neg h, List.nil_append]
    exact Write_empty H hH a len c n hn hl9 HI HI_length none 0 0 (by unfold W64; omega) (by omega) (.inr ⟨h, rfl, rfl, rfl, rfl⟩) a' t m c' hm hc hc2 hno w hr hL

/-! ## Taking up in parts is taking up at once -/
theorem abs_app (H : List Wd) (t : List UInt8) : ∀ (k : Nat) (l : List UInt8), l.length ≤ k → ∀ H, absH H (l ++ t) = absH (absH H l) (absR l ++ t) ∧ absR (l ++ t) = absR (absR l ++ t)
  | 0, l, h, H => by
    have : l = [] := List.length_eq_zero_iff.1 (by omega)
    subst this
    exact ⟨rfl, rfl⟩
  | k + 1, l, h, H => by
    by_cases h64 : l.length < 64
    · rw [absH_few H l h64, absR_few l h64]
      exact ⟨rfl, rfl⟩
    · have hlt : 64 ≤ (l ++ t).length := by rw [List.length_append]; omega
      have e1 : (l ++ t).take 64 = l.take 64 := List.take_append_of_le_length (by omega)
      have e2 : (l ++ t).drop 64 = l.drop 64 ++ t := List.drop_append_of_le_length (by omega)
      have ih := abs_app H t k (l.drop 64) (by rw [List.length_drop]; omega) (blk H (l.take 64))
      rw [absH_cons H (l ++ t) hlt, absR_cons (l ++ t) hlt, e1, e2, absH_cons H l (by omega), absR_cons l (by omega)]
      exact ih
theorem absH_app (H : List Wd) (l t : List UInt8) : absH H (l ++ t) = absH (absH H l) (absR l ++ t) := (abs_app H t l.length l (Nat.le_refl _) H).1
theorem absR_app (l t : List UInt8) : absR (l ++ t) = absR (absR l ++ t) := (abs_app [] t l.length l (Nat.le_refl _) []).2
theorem absH_length (H : List Wd) (l : List UInt8) (h : H.length = 8) : (absH H l).length = 8 := blks_length _ _ _ h

/-- v is the state that has taken up txt, from the beginning on. -/
def StAt (w : World) (v : Value) (txt : List UInt8) : Prop :=
  ∃ (a : Option Addr) (c : Nat), v = .agg (stC (absH HI txt) (.slice a (absR txt).length c) (txt.length % W64)) ∧ RdS w a (absR txt) ∧ (absR txt).length ≤ c ∧ c ≤ maxLen
theorem StAt.below {w w' : World} {v : Value} {txt : List UInt8} (h : StAt w v txt) (hb : Below w.heap.size w w') : StAt w' v txt := by
  obtain ⟨a, c, e, hr, h1, h2⟩ := h
  exact ⟨a, c, e, hr.calls hb, h1, h2⟩
theorem StAt.start (w : World) : StAt w (.agg (stC HI (.slice none 0 0) 0)) [] := ⟨none, 0, rfl, .inl rfl, Nat.le_refl _, Nat.zero_le _⟩
/-- Write goes on with a text. -/
theorem Write_at (v : Value) (txt : List UInt8) (a' : Option Addr) (t : List UInt8) (m c' : Nat) (hm : t.length = m) (hc : m ≤ c') (hc2 : m ≤ 140737488355328 ∧ c' ≤ 9223372036854775807) (hno : a' = none → m = 0 ∧ c' = 0) (w : World) (hv : StAt w v txt) (hr : RdS w a' t) (hL : Laid w) :
    Calls Tryd.prog 22 #[v, .slice a' m c'] w fun e w' => ∃ v', e = .returned v' ∧ StAt w' v' (txt ++ t) ∧ Below w.heap.size w w' := by
  obtain ⟨a, c, rfl, hra, h1, h2⟩ := hv
  have hW : txt.length % W64 < W64 := Nat.mod_lt _ W64_pos
  have hs : (absR txt).length = txt.length % W64 % 64 := by rw [absR_length]; unfold W64; omega
  refine (Write_any (absH HI txt) (absH_length _ _ HI_length) a (absR txt) _ c _ hW rfl h1 h2 a' t m c' hm hc hc2 hno w hra hr hL).mono ?_
  rintro e w' ⟨a2, c2, rfl, hr2, h3, h4, hb⟩
  refine ⟨_, rfl, ?_, hb⟩
  simp only [effH, effR, effN, if_pos hs] at hr2 h3 ⊢
  refine ⟨a2, c2, ?_, by rw [absR_app]; exact hr2, by rw [absR_app]; exact h3, h4⟩
  rw [absH_app HI txt t, absR_app txt t, List.length_append, hm]
  have e : (txt.length % W64 + m) % W64 = (txt.length + m) % W64 := by unfold W64; omega
  rw [e]
end Go.Proofs.YtfebknplkbeblaaDoor
