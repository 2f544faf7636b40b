/- What u256's turned numbers, comparisons and lengths come to. -/
import Derived.Test.YtfebknplkbeblaaDoorU256a
import Derived.Test.YtfebknplkbeblaaDoorBits
import Derived.Laws.DeepNot64
namespace Go.Proofs.YtfebknplkbeblaaDoor
open Go.RowKit
set_option linter.unusedVariables false


abbrev CmpIs (m n : Nat) (c : Int) : Prop := m < T ∧ n < T ∧ c = if m < n then -1 else if n < m then 1 else 0

theorem cmp_ex (m n : Nat) (hm : m < T) (hn : n < T) : ∃ c, CmpIs m n c := ⟨_, hm, hn, rfl⟩
theorem cmp_facts {m n : Nat} {c : Int} (h : CmpIs m n c) : (c < 0 ↔ m < n) ∧ (0 < c ↔ n < m) ∧ -1 ≤ c ∧ c ≤ 1 := by
  obtain ⟨_, _, rfl⟩ := h
  by_cases a : m < n
  · rw [if_pos a]; omega
  · rw [if_neg a]
    by_cases b : n < m
    · rw [if_pos b]; omega
    · rw [if_neg b]; omega
theorem cmp_swap {m n : Nat} {c : Int} (h : CmpIs m n c) : CmpIs n m (-c) := by
  have hf := cmp_facts h
  refine ⟨h.2.1, h.1, ?_⟩
  by_cases a : m < n
  · rw [if_neg (by omega), if_pos a]; omega
  · by_cases b : n < m
    · rw [if_pos b]; omega
    · rw [if_neg b, if_neg a]; omega
theorem parts_lt {m n j : Nat} (hm : m < T) (hn : n < T) (hj : j < 4) (h : ∀ k, j < k → k < 4 → lim m k = lim n k) (hlt : lim m j < lim n j) : m < n := by
  have a0 := lim_lt m 0
  have a1 := lim_lt m 1
  have a2 := lim_lt m 2
  have a3 := lim_lt m 3
  have b0 := lim_lt n 0
  have b1 := lim_lt n 1
  have b2 := lim_lt n 2
  have b3 := lim_lt n 3
  rw [lim_sum m hm, lim_sum n hn]
  unfold W64 at *
  rcases (show j = 0 ∨ j = 1 ∨ j = 2 ∨ j = 3 from by omega) with rfl | rfl | rfl | rfl
  · have := h 1; have := h 2; have := h 3; omega
  · have := h 2; have := h 3; omega
  · have := h 3; omega
  · omega

set_option maxHeartbeats 400000 in
theorem Cmp_any (m n : Nat) (c : Int) (w : World) (h : CmpIs m n c) :
    Calls Tryd.prog 56 #[uval m, uval n] w fun e w' => e = .returned (.int .i64 c) ∧ Below w.heap.size w w' := by
  obtain ⟨hm, hn, hc⟩ := h
  unfold uval
  go_enter Tryd.func56, Tryd.ntmps56
  have HC := Lib.hid hc; clear hc
  go_wp2
  go_loopw [5] (fun i wr => ∃ j : Nat, j ≤ 4 ∧ i = .int .i64 ((j : Int) - 1) ∧ (∀ k, j ≤ k → k < 4 → lim m k = lim n k) ∧ Blk wr (w.heap.size) 62 (ucells m) ∧ Blk wr (w.heap.size + 1) 62 (ucells n) ∧ Below w.heap.size w wr) (fun i _ => (intOf i + 1).toNat)
  case atStart =>
    refine ⟨4, by omega, rfl, fun k h1 h2 => by omega, ?_, ?_, ?_⟩
    · exact (Blk.newAt _ _ _ (by simp)).alloc _
    · exact Blk.newAt _ _ _ (by simp)
    · exact ((Below.refl _ _).alloc (Nat.le_refl _) _).alloc (by simp) _
  case round =>
    obtain ⟨j, hj, rfl, heq, h1, h2, hb⟩ := hrel
    have HE := Lib.hid heq; clear heq
    by_cases hlt : 0 < j
    · obtain ⟨i, rfl⟩ : ∃ i, j = i + 1 := ⟨j - 1, by omega⟩
      have hi : i < 4 := by omega
      have c1 := blk_get h1 i _ (ucells_at m i hi)
      have c2 := blk_get h2 i _ (ucells_at n i hi)
      have H := Lib.hid (And.intro h1 (And.intro h2 hb)); clear h1 h2 hb
      rw [show ((i + 1 : Nat) : Int) - 1 = (i : Int) by omega]
      by_cases hl : lim m i < lim n i
      · have hl' : ((lim m i : Nat) : Int) < (lim n i : Int) := by omega
        go_wp2
        go_quiet (fail)
        go_wp2
        obtain ⟨h1, h2, hb⟩ := H.out
        have hlt' := parts_lt hm hn hi (fun k a b => HE.out k (by omega) b) hl
        go_ret
        exact ⟨ret_int (by rw [HC.out, if_pos hlt']), bdN hb _⟩
      · have hl' : ¬ ((lim m i : Nat) : Int) < (lim n i : Int) := by omega
        by_cases hg : lim n i < lim m i
        · have hg' : ((lim n i : Nat) : Int) < (lim m i : Int) := by omega
          go_wp2
          go_quiet (fail)
          go_wp2
          go_quiet (fail)
          go_wp2
          obtain ⟨h1, h2, hb⟩ := H.out
          have hlt' := parts_lt hn hm hi (fun k a b => (HE.out k (by omega) b).symm) hg
          go_ret
          exact ⟨ret_int (by rw [HC.out, if_neg (by omega), if_pos hlt']), bdN (bdN hb _) _⟩
        · have hg' : ¬ ((lim n i : Nat) : Int) < (lim m i : Int) := by omega
          go_wp2
          go_quiet (fail)
          go_wp2
          go_quiet (fail)
          go_wp2
          obtain ⟨h1, h2, hb⟩ := H.out
          go_roundw
          case rel =>
            refine ⟨i, by omega, rfl, fun k a b => ?_, h1.drewN _, h2.drewN _, bdN hb _⟩
            by_cases e : k = i
            · subst e; omega
            · exact HE.out k (by omega) b
          case measure => simp [intOf]
    · obtain rfl : j = 0 := by omega
      have e : m = n := lim_ext m n hm hn fun k hk => HE.out k (Nat.zero_le _) hk
      have HB := Lib.hid hb
      clear hb h1 h2
      go_wp2
      go_ret
      exact ⟨ret_int (by rw [HC.out, e]; simp), HB.out⟩

theorem lim_not (n k : Nat) (h : n < T) (hk : k < 4) : lim (T - 1 - n) k = W64 - 1 - lim n k := by
  unfold lim T at *
  unfold W64
  rcases (show k = 0 ∨ k = 1 ∨ k = 2 ∨ k = 3 from by omega) with rfl | rfl | rfl | rfl <;> omega

theorem not_u64 (n : Nat) (h : n < 18446744073709551616) : bits .xor .u64 IntKind.u64.max (n : Int) = ((18446744073709551615 - n : Nat) : Int) := by
  show IntKind.u64.wrap ((BitVec.ofInt 64 IntKind.u64.max ^^^ BitVec.ofInt 64 (n : Int)).toNat : Int) = _
  have h1 : BitVec.ofInt 64 IntKind.u64.max = BitVec.allOnes 64 := by decide
  rw [h1, BitVec.allOnes_xor, BitVec.toNat_not, ofInt_u64 n h, IntKind.wrap_u64]
  omega


set_option maxHeartbeats 400000 in
theorem Of_any (n : Nat) (w : World) (h : n < W64) :
    Calls Tryd.prog 55 #[.int .u64 n] w fun e w' => e = .returned (uval n) ∧ Below w.heap.size w w' := by
  have e0 : lim n 0 = n := by unfold lim; rw [Nat.pow_zero, Nat.div_one, Nat.mod_eq_of_lt h]
  have e1 : lim n 1 = 0 := by unfold lim; rw [Nat.pow_one, Nat.div_eq_of_lt h]; rfl
  have e2 : lim n 2 = 0 := by unfold lim; rw [Nat.div_eq_of_lt (by unfold W64 at *; omega)]; rfl
  have e3 : lim n 3 = 0 := by unfold lim; rw [Nat.div_eq_of_lt (by unfold W64 at *; omega)]; rfl
  have HE := Lib.hid (And.intro e0 (And.intro e1 (And.intro e2 e3))); clear e0 e1 e2 e3
  go_enter Tryd.func55, Tryd.ntmps55
  go_wp2
  obtain ⟨e0, e1, e2, e3⟩ := HE.out
  refine bodyPost_ret (v := uval n) ?_ rfl ⟨rfl, ?_⟩
  · simp [results, Tryd.results55, go_sem, uval, e0, e1, e2, e3]
  · exact (Below.refl _ _).alloc (Nat.le_refl _) _


theorem bl_top (m j : Nat) (hm : m < T) (hj : j < 4) (h : ∀ k, j < k → k < 4 → lim m k = 0) (h0 : lim m j ≠ 0) : bl m = 64 * j + bl (lim m j) := by
  have h1 : ∀ i, bl m ≤ 64 * j + i ↔ bl (lim m j) ≤ i := by
    intro i
    rw [bl_lt, bl_lt, Nat.pow_add]
    have a0 := lim_lt m 0
    have a1 := lim_lt m 1
    have a2 := lim_lt m 2
    have a3 := lim_lt m 3
    have hs := lim_sum m hm
    have hp : 0 < 2 ^ i := Nat.two_pow_pos i
    generalize 2 ^ i = I at *
    rcases (show j = 0 ∨ j = 1 ∨ j = 2 ∨ j = 3 from by omega) with rfl | rfl | rfl | rfl
    · have e1 := h 1 (by omega) (by omega); have e2 := h 2 (by omega) (by omega); have e3 := h 3 (by omega) (by omega)
      rw [e1, e2, e3] at hs
      simp at hs ⊢
      rw [← hs]
    · have e2 := h 2 (by omega) (by omega); have e3 := h 3 (by omega) (by omega)
      rw [e2, e3] at hs
      have : (2 : Nat) ^ (64 * 1) = W64 := by decide
      rw [this]
      unfold W64 at *
      omega
    · have e3 := h 3 (by omega) (by omega)
      rw [e3] at hs
      have : (2 : Nat) ^ (64 * 2) = W64 * W64 := by decide
      rw [this]
      unfold W64 at *
      omega
    · have : (2 : Nat) ^ (64 * 3) = W64 * W64 * W64 := by decide
      rw [this]
      unfold W64 at *
      omega
  have h2 : 64 * j ≤ bl m := by
    rcases Nat.lt_or_ge (bl m) (64 * j) with hlt | hge
    · have := (h1 0).1 (by omega)
      rw [bl_lt] at this
      omega
    · exact hge
  have h3 := (h1 (bl (lim m j))).2 (Nat.le_refl _)
  have h4 := (h1 (bl m - 64 * j)).1 (by omega)
  omega

set_option maxHeartbeats 400000 in
theorem Len_any (m : Nat) (w : World) (hm : m < T) :
    Calls Tryd.prog 73 #[uval m] w fun e w' => e = .returned (.int .i64 (bl m)) ∧ Below w.heap.size w w' := by
  unfold uval
  go_enter Tryd.func73, Tryd.ntmps73
  go_wp2
  go_loopw [3] (fun i wr => ∃ j : Nat, j ≤ 4 ∧ i = .int .i64 ((j : Int) - 1) ∧ (∀ k, j ≤ k → k < 4 → lim m k = 0) ∧ Blk wr (w.heap.size) 62 (ucells m) ∧ Below w.heap.size w wr) (fun i _ => (intOf i + 1).toNat)
  case atStart =>
    refine ⟨4, by omega, rfl, fun k h1 h2 => by omega, ?_, ?_⟩
    · exact Blk.newAt _ _ _ rfl
    · exact (Below.refl _ _).alloc (Nat.le_refl _) _
  case round =>
    obtain ⟨j, hj, rfl, heq, h1, hb⟩ := hrel
    have HE := Lib.hid heq; clear heq
    by_cases hlt : 0 < j
    · obtain ⟨i, rfl⟩ : ∃ i, j = i + 1 := ⟨j - 1, by omega⟩
      have hi : i < 4 := by omega
      have c1 := blk_get h1 i _ (ucells_at m i hi)
      have H := Lib.hid (And.intro h1 hb); clear h1 hb
      rw [show ((i + 1 : Nat) : Int) - 1 = (i : Int) by omega]
      by_cases hl : lim m i = 0
      · have hl' : (((lim m i : Nat) : Int) != 0) = false := by simp [hl]
        have HL := Lib.hid hl; clear hl
        go_wp2
        obtain ⟨h1, hb⟩ := H.out
        go_roundw
        case rel =>
          refine ⟨i, by omega, rfl, fun k a b => ?_, h1, hb⟩
          by_cases e : k = i
          · subst e; exact HL.out
          · exact HE.out k (by omega) b
        case measure => simp [intOf]
      · have hl' : (((lim m i : Nat) : Int) != 0) = true := by simp [hl]
        have htop := Lib.hid (bl_top m i hm hi (fun k a b => HE.out k (by omega) b) hl)
        have hb64 : bl (lim m i) ≤ 64 := by rw [bl_lt]; have := lim_lt m i; unfold W64 at this; omega
        clear hl
        go_wp2_with (go_at_call 80; refine (Len64_any _ _ (lim_lt m i)).mono ?_; rintro e w' ⟨rfl, rfl⟩)
        obtain ⟨h1, hb⟩ := H.out
        go_ret
        refine ⟨ret_int ?_, hb⟩
        rw [htop.out]
        omega
    · obtain rfl : j = 0 := by omega
      have e : m = 0 := lim_ext m 0 hm (by decide) fun k hk => by rw [HE.out k (Nat.zero_le _) hk]; simp [lim]
      have HB := Lib.hid hb
      clear hb h1
      go_wp2
      go_ret
      exact ⟨ret_int (by rw [e]; rfl), HB.out⟩
end Go.Proofs.YtfebknplkbeblaaDoor
