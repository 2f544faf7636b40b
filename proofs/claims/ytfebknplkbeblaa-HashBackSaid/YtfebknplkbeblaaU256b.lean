/- What u256's turned numbers, comparisons and lengths come to. -/
import Derived.Test.YtfebknplkbeblaaU256a
import Derived.Test.YtfebknplkbeblaaBits
import Derived.Laws.DeepNot64
namespace Go.Proofs.Ytfebknplkbeblaa
open Go.RowKit
set_option linter.unusedVariables false


abbrev CmpIs (m n : Nat) (c : Int) : Prop := m < T ∧ n < T ∧ c = if m < n then -1 else if n < m then 1 else 0

theorem cmp_ex (m n : Nat) (hm : m < T) (hn : n < T) : ∃ c, CmpIs m n c := ⟨_, hm, hn, rfl⟩
theorem cmp_facts {m n : Nat} {c : Int} (h : CmpIs m n c) : (c < 0 ↔ m < n) ∧ (0 < c ↔ n < m) ∧ -1 ≤ c ∧ c ≤ 1 := by
  obtain ⟨_, _, rfl⟩ := h
  by_cases a : m < n
  · rw [if_pos a]; omega
  · rw [if_neg a]
    by_cases b : n < m
    · rw [if_pos b]; omega
    · rw [if_neg b]; omega
theorem cmp_swap {m n : Nat} {c : Int} (h : CmpIs m n c) : CmpIs n m (-c) := by
  have hf := cmp_facts h
  refine ⟨h.2.1, h.1, ?_⟩
  by_cases a : m < n
  · rw [if_neg (by omega), if_pos a]; omega
  · by_cases b : n < m
    · rw [if_pos b]; omega
    · rw [if_neg b, if_neg a]; omega
theorem parts_lt {m n j : Nat} (hm : m < T) (hn : n < T) (hj : j < 4) (h : ∀ k, j < k → k < 4 → lim m k = lim n k) (hlt : lim m j < lim n j) : m < n := by
  have a0 := lim_lt m 0
  have a1 := lim_lt m 1
  have a2 := lim_lt m 2
  have a3 := lim_lt m 3
  have b0 := lim_lt n 0
  have b1 := lim_lt n 1
  have b2 := lim_lt n 2
  have b3 := lim_lt n 3
  rw [lim_sum m hm, lim_sum n hn]
  unfold W64 at *
  rcases (show j = 0 ∨ j = 1 ∨ j = 2 ∨ j = 3 from by omega) with rfl | rfl | rfl | rfl
  · have := h 1; have := h 2; have := h 3; omega
  · have := h 2; have := h 3; omega
  · have := h 3; omega
  · omega


theorem lim_not (n k : Nat) (h : n < T) (hk : k < 4) : lim (T - 1 - n) k = W64 - 1 - lim n k := by
  unfold lim T at *
  unfold W64
  rcases (show k = 0 ∨ k = 1 ∨ k = 2 ∨ k = 3 from by omega) with rfl | rfl | rfl | rfl <;> omega

theorem not_u64 (n : Nat) (h : n < 18446744073709551616) : bits .xor .u64 IntKind.u64.max (n : Int) = ((18446744073709551615 - n : Nat) : Int) := by
  show IntKind.u64.wrap ((BitVec.ofInt 64 IntKind.u64.max ^^^ BitVec.ofInt 64 (n : Int)).toNat : Int) = _
  have h1 : BitVec.ofInt 64 IntKind.u64.max = BitVec.allOnes 64 := by decide
  rw [h1, BitVec.allOnes_xor, BitVec.toNat_not, ofInt_u64 n h, IntKind.wrap_u64]
  omega


set_option maxHeartbeats 400000 in
theorem Of_any (n : Nat) (w : World) (h : n < W64) :
    Calls Try.prog 10 #[.int .u64 n] w fun e w' => e = .returned (uval n) ∧ Below w.heap.size w w' := by
  have e0 : lim n 0 = n := by unfold lim; rw [Nat.pow_zero, Nat.div_one, Nat.mod_eq_of_lt h]
  have e1 : lim n 1 = 0 := by unfold lim; rw [Nat.pow_one, Nat.div_eq_of_lt h]; rfl
  have e2 : lim n 2 = 0 := by unfold lim; rw [Nat.div_eq_of_lt (by unfold W64 at *; omega)]; rfl
  have e3 : lim n 3 = 0 := by unfold lim; rw [Nat.div_eq_of_lt (by unfold W64 at *; omega)]; rfl
  have HE := Lib.hid (And.intro e0 (And.intro e1 (And.intro e2 e3))); clear e0 e1 e2 e3
  go_enter Try.func10, Try.ntmps10
  go_wp2
  obtain ⟨e0, e1, e2, e3⟩ := HE.out
  refine bodyPost_ret (v := uval n) ?_ rfl ⟨rfl, ?_⟩
  · simp [results, Try.results10, go_sem, uval, e0, e1, e2, e3]
  · exact (Below.refl _ _).alloc (Nat.le_refl _) _


theorem bl_top (m j : Nat) (hm : m < T) (hj : j < 4) (h : ∀ k, j < k → k < 4 → lim m k = 0) (h0 : lim m j ≠ 0) : bl m = 64 * j + bl (lim m j) := by
  have h1 : ∀ i, bl m ≤ 64 * j + i ↔ bl (lim m j) ≤ i := by
    intro i
    rw [bl_lt, bl_lt, Nat.pow_add]
    have a0 := lim_lt m 0
    have a1 := lim_lt m 1
    have a2 := lim_lt m 2
    have a3 := lim_lt m 3
    have hs := lim_sum m hm
    have hp : 0 < 2 ^ i := Nat.two_pow_pos i
    generalize 2 ^ i = I at *
    rcases (show j = 0 ∨ j = 1 ∨ j = 2 ∨ j = 3 from by omega) with rfl | rfl | rfl | rfl
    · have e1 := h 1 (by omega) (by omega); have e2 := h 2 (by omega) (by omega); have e3 := h 3 (by omega) (by omega)
      rw [e1, e2, e3] at hs
      simp at hs ⊢
      rw [← hs]
    · have e2 := h 2 (by omega) (by omega); have e3 := h 3 (by omega) (by omega)
      rw [e2, e3] at hs
      have : (2 : Nat) ^ (64 * 1) = W64 := by decide
      rw [this]
      unfold W64 at *
      omega
    · have e3 := h 3 (by omega) (by omega)
      rw [e3] at hs
      have : (2 : Nat) ^ (64 * 2) = W64 * W64 := by decide
      rw [this]
      unfold W64 at *
      omega
    · have : (2 : Nat) ^ (64 * 3) = W64 * W64 * W64 := by decide
      rw [this]
      unfold W64 at *
      omega
  have h2 : 64 * j ≤ bl m := by
    rcases Nat.lt_or_ge (bl m) (64 * j) with hlt | hge
    · have := (h1 0).1 (by omega)
      rw [bl_lt] at this
      omega
    · exact hge
  have h3 := (h1 (bl (lim m j))).2 (Nat.le_refl _)
  have h4 := (h1 (bl m - 64 * j)).1 (by omega)
  omega

end Go.Proofs.Ytfebknplkbeblaa
