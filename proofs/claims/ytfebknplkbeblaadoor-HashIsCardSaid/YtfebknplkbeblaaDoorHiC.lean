/- What u256's turned numbers, comparisons and lengths come to. What u256's texts and bytes come to. A number as bytes. What u256's product with a small number comes to. What u256's moves come to. What u256.Shl comes to. -/
import Derived.Test.YtfebknplkbeblaaDoorHiB
import Derived.Laws.DeepNot64
import Derived.Laws.BytesArg
import Derived.Test.YtfebknplkbeblaaDoorHiA
namespace Go.Proofs.YtfebknplkbeblaaDoor
open Go.RowKit
set_option linter.unusedVariables false


abbrev CmpIs (m n : Nat) (c : Int) : Prop := m < T ∧ n < T ∧ c = if m < n then -1 else if n < m then 1 else 0

theorem cmp_ex (m n : Nat) (hm : m < T) (hn : n < T) : ∃ c, CmpIs m n c := ⟨_, hm, hn, rfl⟩
theorem cmp_facts {m n : Nat} {c : Int} (h : CmpIs m n c) : (c < 0 ↔ m < n) ∧ (0 < c ↔ n < m) ∧ -1 ≤ c ∧ c ≤ 1 := by
  obtain ⟨_, _, rfl⟩ := h
  by_cases a : m < n
  · rw [if_pos a]; omega
  · rw [if_neg a]
    by_cases b : n < m
    · rw [if_pos b]; omega
    · rw [if_neg b]; omega
theorem cmp_swap {m n : Nat} {c : Int} (h : CmpIs m n c) : CmpIs n m (-c) := by
  have hf := cmp_facts h
  refine ⟨h.2.1, h.1, ?_⟩
  by_cases a : m < n
  · rw [if_neg (by omega), if_pos a]; omega
  · by_cases b : n < m
    · rw [if_pos b]; omega
    · rw [if_neg b, if_neg a]; omega
theorem parts_lt {m n j : Nat} (hm : m < T) (hn : n < T) (hj : j < 4) (h : ∀ k, j < k → k < 4 → lim m k = lim n k) (hlt : lim m j < lim n j) : m < n := by
  have a0 := lim_lt m 0
  have a1 := lim_lt m 1
  have a2 := lim_lt m 2
  have a3 := lim_lt m 3
  have b0 := lim_lt n 0
  have b1 := lim_lt n 1
  have b2 := lim_lt n 2
  have b3 := lim_lt n 3
  rw [lim_sum m hm, lim_sum n hn]
  unfold W64 at *
  rcases (show j = 0 ∨ j = 1 ∨ j = 2 ∨ j = 3 from by omega) with rfl | rfl | rfl | rfl
  · have := h 1; have := h 2; have := h 3; omega
  · have := h 2; have := h 3; omega
  · have := h 3; omega
  · omega

set_option maxHeartbeats 400000 in
theorem Cmp_any (m n : Nat) (c : Int) (w : World) (h : CmpIs m n c) :
    Calls Tryd.prog 56 #[uval m, uval n] w fun e w' => e = .returned (.int .i64 c) ∧ Below w.heap.size w w' := by
  obtain ⟨hm, hn, hc⟩ := h
  unfold uval
  go_enter Tryd.func56, Tryd.ntmps56
  have HC := Lib.hid hc; clear hc
  go_wp2
  go_loopw [5] (fun i wr => ∃ j : Nat, j ≤ 4 ∧ i = .int .i64 ((j : Int) - 1) ∧ (∀ k, j ≤ k → k < 4 → lim m k = lim n k) ∧ Blk wr (w.heap.size) 62 (ucells m) ∧ Blk wr (w.heap.size + 1) 62 (ucells n) ∧ Below w.heap.size w wr) (fun i _ => (intOf i + 1).toNat)
  case atStart =>
    refine ⟨4, by omega, rfl, fun k h1 h2 => by omega, ?_, ?_, ?_⟩
    · exact (Blk.newAt _ _ _ (by simp)).alloc _
    · exact Blk.newAt _ _ _ (by simp)
    · exact ((Below.refl _ _).alloc (Nat.le_refl _) _).alloc (by simp) _
  case round =>
    obtain ⟨j, hj, rfl, heq, h1, h2, hb⟩ := hrel
    have HE := Lib.hid heq; clear heq
    by_cases hlt : 0 < j
    · obtain ⟨i, rfl⟩ : ∃ i, j = i + 1 := ⟨j - 1, by omega⟩
      have hi : i < 4 := by omega
      have c1 := blk_get h1 i _ (ucells_at m i hi)
      have c2 := blk_get h2 i _ (ucells_at n i hi)
      have H := Lib.hid (And.intro h1 (And.intro h2 hb)); clear h1 h2 hb
      rw [show ((i + 1 : Nat) : Int) - 1 = (i : Int) by omega]
      by_cases hl : lim m i < lim n i
      · have hl' : ((lim m i : Nat) : Int) < (lim n i : Int) := by omega
        go_wp2
        go_quiet (fail)
        go_wp2
        obtain ⟨h1, h2, hb⟩ := H.out
        have hlt' := parts_lt hm hn hi (fun k a b => HE.out k (by omega) b) hl
        go_ret
        exact ⟨ret_int (by rw [HC.out, if_pos hlt']), bdN hb _⟩
      · have hl' : ¬ ((lim m i : Nat) : Int) < (lim n i : Int) := by omega
        by_cases hg : lim n i < lim m i
        · have hg' : ((lim n i : Nat) : Int) < (lim m i : Int) := by omega
          go_wp2
          go_quiet (fail)
          go_wp2
          go_quiet (fail)
          go_wp2
          obtain ⟨h1, h2, hb⟩ := H.out
          have hlt' := parts_lt hn hm hi (fun k a b => (HE.out k (by omega) b).symm) hg
          go_ret
          exact ⟨ret_int (by rw [HC.out, if_neg (by omega), if_pos hlt']), bdN (bdN hb _) _⟩
        · have hg' : ¬ ((lim n i : Nat) : Int) < (lim m i : Int) := by omega
          go_wp2
          go_quiet (fail)
          go_wp2
          go_quiet (fail)
          go_wp2
          obtain ⟨h1, h2, hb⟩ := H.out
          go_roundw
          case rel =>
            refine ⟨i, by omega, rfl, fun k a b => ?_, h1.drewN _, h2.drewN _, bdN hb _⟩
            by_cases e : k = i
            · subst e; omega
            · exact HE.out k (by omega) b
          case measure => simp [intOf]
    · obtain rfl : j = 0 := by omega
      have e : m = n := lim_ext m n hm hn fun k hk => HE.out k (Nat.zero_le _) hk
      have HB := Lib.hid hb
      clear hb h1 h2
      go_wp2
      go_ret
      exact ⟨ret_int (by rw [HC.out, e]; simp), HB.out⟩

theorem lim_not (n k : Nat) (h : n < T) (hk : k < 4) : lim (T - 1 - n) k = W64 - 1 - lim n k := by
  unfold lim T at *
  unfold W64
  rcases (show k = 0 ∨ k = 1 ∨ k = 2 ∨ k = 3 from by omega) with rfl | rfl | rfl | rfl <;> omega

theorem not_u64 (n : Nat) (h : n < 18446744073709551616) : bits .xor .u64 IntKind.u64.max (n : Int) = ((18446744073709551615 - n : Nat) : Int) := by
  show IntKind.u64.wrap ((BitVec.ofInt 64 IntKind.u64.max ^^^ BitVec.ofInt 64 (n : Int)).toNat : Int) = _
  have h1 : BitVec.ofInt 64 IntKind.u64.max = BitVec.allOnes 64 := by decide
  rw [h1, BitVec.allOnes_xor, BitVec.toNat_not, ofInt_u64 n h, IntKind.wrap_u64]
  omega


set_option maxHeartbeats 400000 in
theorem Of_any (n : Nat) (w : World) (h : n < W64) :
    Calls Tryd.prog 55 #[.int .u64 n] w fun e w' => e = .returned (uval n) ∧ Below w.heap.size w w' := by
  have e0 : lim n 0 = n := by unfold lim; rw [Nat.pow_zero, Nat.div_one, Nat.mod_eq_of_lt h]
  have e1 : lim n 1 = 0 := by unfold lim; rw [Nat.pow_one, Nat.div_eq_of_lt h]; rfl
  have e2 : lim n 2 = 0 := by unfold lim; rw [Nat.div_eq_of_lt (by unfold W64 at *; omega)]; rfl
  have e3 : lim n 3 = 0 := by unfold lim; rw [Nat.div_eq_of_lt (by unfold W64 at *; omega)]; rfl
  have HE := Lib.hid (And.intro e0 (And.intro e1 (And.intro e2 e3))); clear e0 e1 e2 e3
  go_enter Tryd.func55, Tryd.ntmps55
  go_wp2
  obtain ⟨e0, e1, e2, e3⟩ := HE.out
  refine bodyPost_ret (v := uval n) ?_ rfl ⟨rfl, ?_⟩
  · simp [results, Tryd.results55, go_sem, uval, e0, e1, e2, e3]
  · exact (Below.refl _ _).alloc (Nat.le_refl _) _


theorem bl_top (m j : Nat) (hm : m < T) (hj : j < 4) (h : ∀ k, j < k → k < 4 → lim m k = 0) (h0 : lim m j ≠ 0) : bl m = 64 * j + bl (lim m j) := by
  have h1 : ∀ i, bl m ≤ 64 * j + i ↔ bl (lim m j) ≤ i := by
    intro i
    rw [bl_lt, bl_lt, Nat.pow_add]
    have a0 := lim_lt m 0
    have a1 := lim_lt m 1
    have a2 := lim_lt m 2
    have a3 := lim_lt m 3
    have hs := lim_sum m hm
    have hp : 0 < 2 ^ i := Nat.two_pow_pos i
    generalize 2 ^ i = I at *
    rcases (show j = 0 ∨ j = 1 ∨ j = 2 ∨ j = 3 from by omega) with rfl | rfl | rfl | rfl
    · have e1 := h 1 (by omega) (by omega); have e2 := h 2 (by omega) (by omega); have e3 := h 3 (by omega) (by omega)
      rw [e1, e2, e3] at hs
      simp at hs ⊢
      rw [← hs]
    · have e2 := h 2 (by omega) (by omega); have e3 := h 3 (by omega) (by omega)
      rw [e2, e3] at hs
      have : (2 : Nat) ^ (64 * 1) = W64 := by decide
      rw [this]
      unfold W64 at *
      omega
    · have e3 := h 3 (by omega) (by omega)
      rw [e3] at hs
      have : (2 : Nat) ^ (64 * 2) = W64 * W64 := by decide
      rw [this]
      unfold W64 at *
      omega
    · have : (2 : Nat) ^ (64 * 3) = W64 * W64 * W64 := by decide
      rw [this]
      unfold W64 at *
      omega
  have h2 : 64 * j ≤ bl m := by
    rcases Nat.lt_or_ge (bl m) (64 * j) with hlt | hge
    · have := (h1 0).1 (by omega)
      rw [bl_lt] at this
      omega
    · exact hge
  have h3 := (h1 (bl (lim m j))).2 (Nat.le_refl _)
  have h4 := (h1 (bl m - 64 * j)).1 (by omega)
  omega

set_option maxHeartbeats 400000 in
theorem Len_any (m : Nat) (w : World) (hm : m < T) :
    Calls Tryd.prog 73 #[uval m] w fun e w' => e = .returned (.int .i64 (bl m)) ∧ Below w.heap.size w w' := by
  unfold uval
  go_enter Tryd.func73, Tryd.ntmps73
  go_wp2
  go_loopw [3] (fun i wr => ∃ j : Nat, j ≤ 4 ∧ i = .int .i64 ((j : Int) - 1) ∧ (∀ k, j ≤ k → k < 4 → lim m k = 0) ∧ Blk wr (w.heap.size) 62 (ucells m) ∧ Below w.heap.size w wr) (fun i _ => (intOf i + 1).toNat)
  case atStart =>
    refine ⟨4, by omega, rfl, fun k h1 h2 => by omega, ?_, ?_⟩
    · exact Blk.newAt _ _ _ rfl
    · exact (Below.refl _ _).alloc (Nat.le_refl _) _
  case round =>
    obtain ⟨j, hj, rfl, heq, h1, hb⟩ := hrel
    have HE := Lib.hid heq; clear heq
    by_cases hlt : 0 < j
    · obtain ⟨i, rfl⟩ : ∃ i, j = i + 1 := ⟨j - 1, by omega⟩
      have hi : i < 4 := by omega
      have c1 := blk_get h1 i _ (ucells_at m i hi)
      have H := Lib.hid (And.intro h1 hb); clear h1 hb
      rw [show ((i + 1 : Nat) : Int) - 1 = (i : Int) by omega]
      by_cases hl : lim m i = 0
      · have hl' : (((lim m i : Nat) : Int) != 0) = false := by simp [hl]
        have HL := Lib.hid hl; clear hl
        go_wp2
        obtain ⟨h1, hb⟩ := H.out
        go_roundw
        case rel =>
          refine ⟨i, by omega, rfl, fun k a b => ?_, h1, hb⟩
          by_cases e : k = i
          · subst e; exact HL.out
          · exact HE.out k (by omega) b
        case measure => simp [intOf]
      · have hl' : (((lim m i : Nat) : Int) != 0) = true := by simp [hl]
        have htop := Lib.hid (bl_top m i hm hi (fun k a b => HE.out k (by omega) b) hl)
        have hb64 : bl (lim m i) ≤ 64 := by rw [bl_lt]; have := lim_lt m i; unfold W64 at this; omega
        clear hl
        go_wp2_with (go_at_call 80; refine (Len64_any _ _ (lim_lt m i)).mono ?_; rintro e w' ⟨rfl, rfl⟩)
        obtain ⟨h1, hb⟩ := H.out
        go_ret
        refine ⟨ret_int ?_, hb⟩
        rw [htop.out]
        omega
    · obtain rfl : j = 0 := by omega
      have e : m = 0 := lim_ext m 0 hm (by decide) fun k hk => by rw [HE.out k (Nat.zero_le _) hk]; simp [lim]
      have HB := Lib.hid hb
      clear hb h1
      go_wp2
      go_ret
      exact ⟨ret_int (by rw [e]; rfl), HB.out⟩
end Go.Proofs.YtfebknplkbeblaaDoor

namespace Go.Proofs.YtfebknplkbeblaaDoor
open Go.RowKit
set_option linter.unusedVariables false

/-- The small hexadecimal digit of d. -/
def hx (d : Nat) : UInt8 := if d < 10 then UInt8.ofNat (48 + d) else UInt8.ofNat (87 + d)
/-- L hexadecimal digits of m, the highest first. -/
def hexB (m L : Nat) : List UInt8 := (List.range L).map fun i => hx (m / 16 ^ (L - 1 - i) % 16)
def hexLen (m : Nat) : Nat := if m = 0 then 1 else (bl m + 3) / 4
def bstr (l : List UInt8) : ByteArray := ⟨l.toArray⟩
def u8cells (l : List UInt8) : Array Value := (l.map fun c => Value.int .u8 c.toNat).toArray
/-- The first k of a row, zeros behind. -/
def partB (l : List UInt8) (k : Nat) : Array Value := ((List.range l.length).map fun j => if j < k then Value.int .u8 (l.getD j 0).toNat else Value.int .u8 0).toArray

theorem hx_at (d : Nat) (hd : d < 16) (h) : (⟨#[48, 49, 50, 51, 52, 53, 54, 55, 56, 57, 97, 98, 99, 100, 101, 102]⟩ : ByteArray)[d]'h = hx d := by
  have all : ∀ d : Fin 16, (⟨#[48, 49, 50, 51, 52, 53, 54, 55, 56, 57, 97, 98, 99, 100, 101, 102]⟩ : ByteArray)[d.val]'(by have := d.isLt; exact this) = hx d.val := by decide +kernel
  exact all ⟨d, hd⟩
theorem hexDigit (m p : Nat) (hm : m < T) (hp : p < 64) : ∃ d : Nat, bits .and .u64 ((lim m (p / 16) : Nat) / 2 ^ (4 * (p % 16)) : Int) 15 = (d : Int) ∧ (d : Int) < 16 ∧ d = m / 16 ^ p % 16 := by
  refine ⟨m / 16 ^ p % 16, ?_, by omega, rfl⟩
  have hl := lim_lt m (p / 16)
  have e1 : ((lim m (p / 16) : Nat) / 2 ^ (4 * (p % 16)) : Int) = ((lim m (p / 16) / 2 ^ (4 * (p % 16)) : Nat) : Int) := by push_cast; rfl
  have hle : lim m (p / 16) / 2 ^ (4 * (p % 16)) ≤ lim m (p / 16) := Nat.div_le_self _ _
  rw [e1]
  have e2 := u64_and_nat (lim m (p / 16) / 2 ^ (4 * (p % 16))) 15 (by unfold W64 at hl; omega) (by omega)
  rw [show ((15 : Nat) : Int) = 15 from rfl] at e2
  rw [e2, nat_mask4]
  congr 1
  have e3 : (16 : Nat) ^ p = W64 ^ (p / 16) * 2 ^ (4 * (p % 16)) := by
    have h16 : (16 : Nat) = 2 ^ 4 := rfl
    have hW : W64 = 2 ^ 64 := rfl
    rw [h16, hW, ← Nat.pow_mul, ← Nat.pow_mul, ← Nat.pow_add]
    congr 1
    omega
  rw [e3, ← Nat.div_div_eq_div_mul]
  unfold lim
  generalize m / W64 ^ (p / 16) = q
  have hW : W64 = 2 ^ (4 * (p % 16)) * (16 * 2 ^ (60 - 4 * (p % 16))) := by
    have h16 : (16 : Nat) = 2 ^ 4 := rfl
    rw [h16, ← Nat.pow_add, ← Nat.pow_add, show 4 * (p % 16) + (4 + (60 - 4 * (p % 16))) = 64 by omega]
    rfl
  rw [hW, Nat.mod_mul_right_div_self, Nat.mod_mul_right_mod]
theorem partB_at (l : List UInt8) (k j : Nat) (h : j < l.length) : ∃ v, (partB l k)[j]? = some v := by
  unfold partB
  simp [h]
theorem partB_set (l : List UInt8) (k : Nat) (h : k < l.length) : (partB l k).setIfInBounds k (.int .u8 (l.getD k 0).toNat) = partB l (k + 1) := by
  unfold partB
  apply Array.ext
  · simp
  · intro i h1 h2
    simp only [List.setIfInBounds_toArray, List.getElem_toArray, List.getElem_set, List.getElem_map, List.getElem_range]
    by_cases e : k = i
    · subst e; simp
    · rw [if_neg e]
      by_cases h3 : i < k
      · rw [if_pos h3, if_pos (by omega)]
      · rw [if_neg h3, if_neg (by omega)]
theorem partB_zero (l : List UInt8) : partB l 0 = Array.replicate l.length (.int .u8 0) := by
  unfold partB
  apply Array.ext
  · simp
  · intro i h1 h2
    simp
theorem madeCells_one (z : Value) (n : Nat) : madeCells #[z] n = Array.replicate n z := by
  apply Array.ext'
  rw [toList_madeCells_one, Array.toList_replicate]
theorem make_bytes (n : Nat) (c : Int) (hc : c = n) (hn : n ≤ 140737488355328) (w : World) :
    (Instr.makeSlice 26 (.int .i64 c) (.int .i64 c)).run Tryd.prog w = .ok (.slice (some ⟨w.heap.size, 0, none⟩) n n) (w.alloc (.cells (Array.replicate n (.int .u8 0)) 5)) := by
  obtain ⟨i0, hi, hz0, hz1, hz2⟩ := info_parts (show (Tryd.prog.info? 5).map (fun i => (i.zero, i.size, i.bytes)) = some (some (.int .u8 0), 1, 1) by kernel_rfl)
  subst hc
  rw [run_make w 26 5 i0 (.int .u8 0) Tryd.underlying26 hi hz0 .i64 .i64 n n (by omega) (by omega) (by rw [hz2]; omega) (by omega), hz1, Int.toNat_natCast, Nat.mul_one]
  exact congrArg (fun cs => Result.ok _ (w.alloc (.cells cs 5))) (madeCells_one _ n)
theorem partB_full (l : List UInt8) (k : Nat) (h : l.length = k) : partB l k = u8cells l := by
  unfold partB u8cells
  apply Array.ext
  · simp
  · intro i h1 h2
    have h3 : i < l.length := by simpa using h1
    simp [h3, ← h]
theorem strOf_u8 (l : List UInt8) : strOfNums (l.map fun c => (c.toNat : Int)) = bstr l := by
  unfold strOfNums bstr
  congr 1
  simp [Function.comp_def]

set_option maxHeartbeats 400000 in
theorem Hex_any (m : Nat) (w : World) (hm : m < T) :
    Calls Tryd.prog 59 #[uval m] w fun e w' => e = .returned (.string (bstr (hexB m (hexLen m)))) ∧ Below w.heap.size w w' := by
  by_cases h0 : m = 0
  · have q := eqU0 m true hm (by simp [h0])
    have H0 := Lib.hid h0; clear h0
    unfold uval
    go_enter Tryd.func59, Tryd.ntmps59
    go_wp2
    go_ret
    exact ⟨by rw [H0.out]; rfl, (Below.refl _ _).alloc (Nat.le_refl _) _⟩
  · have q := eqU0 m false hm (by simp [h0])
    have hb0 : bl m ≤ 256 := by rw [bl_lt]; exact hm
    obtain ⟨L, hL⟩ : ∃ L, L = (bl m + 3) / 4 := ⟨_, rfl⟩
    have hL1 : hexLen m = L := by unfold hexLen; rw [if_neg h0, hL]
    have hL0 : 1 ≤ L := by
      have : ¬ bl m ≤ 0 := by rw [bl_lt]; omega
      omega
    have hL2 : L ≤ 64 := by omega
    have hmk : ∀ w : World, (Instr.makeSlice 26 (.int .i64 (((bl m : Nat) + 3 : Int) / 4)) (.int .i64 (((bl m : Nat) + 3 : Int) / 4))).run Tryd.prog w = .ok (.slice (some ⟨w.heap.size, 0, none⟩) L L) (w.alloc (.cells (partB (hexB m L) 0) 5)) := by
      intro w
      rw [partB_zero, show (hexB m L).length = L by simp [hexB]]
      exact make_bytes L _ (by omega) (by omega) w
    have HH := Lib.hid (And.intro h0 (And.intro hL hL1)); clear h0 hL hL1
    unfold uval
    go_enter Tryd.func59, Tryd.ntmps59
    go_wp2_with (go_at_call 73; refine (Len_any m _ hm).mono ?_; rintro e w1 ⟨rfl, hb1⟩)
    have hbw : Below w.heap.size w w1 := ((Below.refl _ _).alloc (Nat.le_refl _) _).trans (hb1.mono (by simp))
    have hB1 : Blk w1 w.heap.size 62 (ucells m) := (Blk.newAt _ _ _ rfl).calls hb1
    have hlt1 := hB1.lt
    have hq0 := Lib.hid q; clear q
    have hmk0 := Lib.hid hmk; clear hmk
    generalize hl : hexB m L = l
    have hll : l.length = L := by rw [← hl]; simp [hexB]
    have HL := Lib.hid (And.intro hl hll); clear hl hll
    go_loopw [16] (fun i wr => ∃ k : Nat, k ≤ L ∧ i = .int .i64 k ∧ Blk wr w.heap.size 62 (ucells m) ∧ Blk wr w1.heap.size 5 (partB l k) ∧ Below w.heap.size w wr) (fun i _ => L - (intOf i).toNat)
    case atStart =>
      exact ⟨0, Nat.zero_le _, rfl, hB1.alloc _, Blk.new _ _ _, hbw.alloc (by omega) _⟩
    case round =>
      clear hb1 hB1 hbw
      obtain ⟨k, hk, rfl, h1, h2, hb⟩ := hrel
      by_cases hlt : k < L
      · obtain ⟨p, hp⟩ : ∃ p, p = L - 1 - k := ⟨_, rfl⟩
        have hp' : (L : Int) - 1 - (k : Int) = (p : Int) := by omega
        have hp64 : p < 64 := by omega
        have c1 := blk_get h1 (p / 16) _ (ucells_at m (p / 16) (by omega))
        have f2 := h2.frozen k
        obtain ⟨d, hd, hd16, hdl⟩ := hexDigit m p hm hp64
        have hix : ∀ h, (⟨#[48, 49, 50, 51, 52, 53, 54, 55, 56, 57, 97, 98, 99, 100, 101, 102]⟩ : ByteArray)[d]'h = hx d := hx_at d (by omega)
        obtain ⟨v2, hv2⟩ := partB_at l k k (by have := HL.out.2; omega)
        have c2 := blk_get h2 k _ hv2
        have H := Lib.hid (And.intro h1 (And.intro h2 (And.intro hb (And.intro hp hdl)))); clear h1 h2 hb hp hv2 hdl
        go_wp2
        obtain ⟨h1, h2, hb, hp, hdl⟩ := H.out
        have hl := HL.out
        go_roundw
        case rel =>
          refine ⟨k + 1, by omega, by go_num, h1.far (by omega) _, (h2.set_ k _).to ?_, hb.setCell (by simp; omega) _⟩
          have e : hx d = l.getD k 0 := by
            rw [← hl.1, hdl, hp]
            simp [hexB, hlt]
          rw [e]
          exact partB_set l k (by omega)
        case measure => simp [intOf]; omega
      · obtain rfl : k = L := by omega
        have hl := HL.out
        have hcv := run_convert_bytes_arg (P := Tryd.prog) wr 26 5 Tryd.underlying26 Tryd.underlying5 w1.heap.size 0 k k (l.map fun c => (c.toNat : Int)) (by simp [hl.2]) (fun i hi => by
          rw [Nat.zero_add]
          refine blk_get h2 i _ ?_
          rw [partB_full l k hl.2]
          simp [u8cells, List.getD, hl.2, hi]) 9 Tryd.underlying9
        rw [strOf_u8] at hcv
        have H := Lib.hid (And.intro hb hl); clear h1 h2 hb hl
        go_wp2
        obtain ⟨hb, hl⟩ := H.out
        go_ret
        exact ⟨ret_str (by rw [HH.out.2.2, hl.1]), hb⟩
end Go.Proofs.YtfebknplkbeblaaDoor

namespace Go.Proofs.YtfebknplkbeblaaDoor
open Go.RowKit
set_option linter.unusedVariables false

/-- m as L bytes, the highest first. -/
def byB (m L : Nat) : List UInt8 := (List.range L).map fun i => UInt8.ofNat (m / 256 ^ (L - 1 - i) % 256)
/-- The last k of a row, zeros before. -/
def lastB (l : List UInt8) (k : Nat) : Array Value := ((List.range l.length).map fun j => if l.length ≤ j + k then Value.int .u8 (l.getD j 0).toNat else Value.int .u8 0).toArray
theorem lastB_at (l : List UInt8) (k j : Nat) (h : j < l.length) : ∃ v, (lastB l k)[j]? = some v := by
  unfold lastB
  simp [h]
theorem lastB_set (l : List UInt8) (k j : Nat) (h : j + k + 1 = l.length) : (lastB l k).setIfInBounds j (.int .u8 (l.getD j 0).toNat) = lastB l (k + 1) := by
  unfold lastB
  apply Array.ext
  · simp
  · intro i h1 h2
    simp only [List.setIfInBounds_toArray, List.getElem_toArray, List.getElem_set, List.getElem_map, List.getElem_range]
    by_cases e : j = i
    · subst e; rw [if_pos rfl, if_pos (by omega)]
    · rw [if_neg e]
      by_cases h3 : l.length ≤ i + k
      · rw [if_pos h3, if_pos (by omega)]
      · rw [if_neg h3, if_neg (by omega)]
theorem lastB_zero (l : List UInt8) : lastB l 0 = Array.replicate l.length (.int .u8 0) := by
  unfold lastB
  apply Array.ext
  · simp
  · intro i h1 h2
    have : i < l.length := by simpa using h1
    simp; omega
theorem lastB_full (l : List UInt8) (k : Nat) (h : l.length = k) : lastB l k = u8cells l := by
  unfold lastB u8cells
  apply Array.ext
  · simp
  · intro i h1 h2
    have h3 : i < l.length := by simpa using h1
    simp [h3, ← h]
theorem lastB_size (l : List UInt8) (k : Nat) : (lastB l k).size = l.length := by simp [lastB]
theorem lim_byte (m i : Nat) (hi : i < 32) : lim m (i / 8) / 2 ^ (8 * (i % 8)) % 256 = m / 256 ^ i % 256 := by
  have e3 : (256 : Nat) ^ i = W64 ^ (i / 8) * 2 ^ (8 * (i % 8)) := by
    have h16 : (256 : Nat) = 2 ^ 8 := rfl
    have hW : W64 = 2 ^ 64 := rfl
    rw [h16, hW, ← Nat.pow_mul, ← Nat.pow_mul, ← Nat.pow_add]
    congr 1
    omega
  rw [e3, ← Nat.div_div_eq_div_mul]
  unfold lim
  generalize m / W64 ^ (i / 8) = q
  have hW : W64 = 2 ^ (8 * (i % 8)) * (256 * 2 ^ (56 - 8 * (i % 8))) := by
    have h16 : (256 : Nat) = 2 ^ 8 := rfl
    rw [h16, ← Nat.pow_add, ← Nat.pow_add, show 8 * (i % 8) + (8 + (56 - 8 * (i % 8))) = 64 by omega]
    rfl
  rw [hW, Nat.mod_mul_right_div_self, Nat.mod_mul_right_mod]
theorem byB_length (m L : Nat) : (byB m L).length = L := by simp [byB]
theorem byB_at (m L j : Nat) (h : j < L) : (byB m L).getD j 0 = UInt8.ofNat (m / 256 ^ (L - 1 - j) % 256) := by simp [byB, h]

theorem byteOf (m i : Nat) (hm : m < T) (hi : i < 32) : ∃ d : Nat, ((lim m (i / 8) : Nat) / 2 ^ (8 * (i % 8)) % 256 : Int) = (d : Int) ∧ d < 256 ∧ d = m / 256 ^ i % 256 := by
  refine ⟨m / 256 ^ i % 256, ?_, by omega, rfl⟩
  have e1 : ((lim m (i / 8) : Nat) / 2 ^ (8 * (i % 8)) : Int) = ((lim m (i / 8) / 2 ^ (8 * (i % 8)) : Nat) : Int) := by push_cast; rfl
  rw [e1, ← lim_byte m i hi]
  generalize lim m (i / 8) / 2 ^ (8 * (i % 8)) = q
  omega

set_option maxHeartbeats 400000 in
theorem Bytes_any (m : Nat) (w : World) (hm : m < T) :
    Calls Tryd.prog 70 #[uval m] w fun e w' => e = .returned (.agg (u8cells (byB m 32))) ∧ Below w.heap.size w w' := by
  unfold uval
  go_enter Tryd.func70, Tryd.ntmps70
  go_wp2
  generalize hl : byB m 32 = l
  have hll : l.length = 32 := by rw [← hl]; simp [byB]
  have HL := Lib.hid (And.intro hl hll); clear hl hll
  go_loopw [5] (fun i wr => ∃ k : Nat, k ≤ 32 ∧ i = .int .i64 k ∧ Blk wr w.heap.size 62 (ucells m) ∧ Blk wr (w.heap.size + 1) 37 (lastB l 0) ∧ Blk wr (w.heap.size + 1 + 1) 37 (lastB l k) ∧ Below w.heap.size w wr) (fun i _ => 32 - (intOf i).toNat)
  case atStart =>
    have z : lastB l 0 = Array.replicate 32 (.int .u8 0) := by rw [lastB_zero, HL.out.2]
    rw [z]
    refine ⟨0, Nat.zero_le _, rfl, ((Blk.newAt _ _ _ rfl).alloc _).alloc _, ((Blk.newAt _ _ _ ?_).alloc _).to ?_, (Blk.newAt _ _ _ ?_).to ?_, (((Below.refl _ _).alloc (by omega) _).alloc (by simp) _).alloc (by simp; omega) _⟩ <;> first | (simp; done) | kernel_rfl
  case round =>
    obtain ⟨k, hk, rfl, h1, h0, h2, hb⟩ := hrel
    by_cases hlt : k < 32
    · obtain ⟨p, hp⟩ : ∃ p, p = 31 - k := ⟨_, rfl⟩
      have hp' : (31 : Int) - (k : Int) = (p : Int) := by omega
      have c1 := blk_get h1 (k / 8) _ (ucells_at m (k / 8) (by omega))
      have f2 := h2.frozen p
      obtain ⟨d, hd, hd16, hdl⟩ := byteOf m k hm (by omega)
      obtain ⟨v2, hv2⟩ := lastB_at l k p (by have := HL.out.2; omega)
      have c2 := blk_get h2 p _ hv2
      have H := Lib.hid (And.intro h1 (And.intro h0 (And.intro h2 (And.intro hb (And.intro hp hdl))))); clear h1 h0 h2 hb hp hv2 hdl
      go_wp2
      obtain ⟨h1, h0, h2, hb, hp, hdl⟩ := H.out
      have hl := HL.out
      go_roundw
      case rel =>
        refine ⟨k + 1, by omega, by go_num, h1.far (by omega) _, h0.far (by omega) _, (h2.set_ p _).to ?_, hb.setCell (by simp; omega) _⟩
        have e : (d : Int) = ((l.getD p 0).toNat : Int) := by
          rw [← hl.1, byB_at m 32 p (by omega), hdl, hp, show 32 - 1 - (31 - k) = k by omega]
          have : m / 256 ^ k % 256 < 256 := Nat.mod_lt _ (by decide)
          simp
        rw [e]
        exact lastB_set l k p (by omega)
      case measure => simp [intOf]; omega
    · obtain rfl : k = 32 := by omega
      have hl := HL.out
      rw [lastB_full l 32 hl.2] at h2
      have s0 : (lastB l 0).size = 32 := by rw [lastB_size, hl.2]
      have s2 : (u8cells l).size = 32 := by simp [u8cells, hl.2]
      have a2 : (u8cells l).all (·.oneCell') = true := by simp [u8cells, Value.oneCell']
      have i2 : (Tryd.prog.info? 37).map (·.size) = some (u8cells l).size := by rw [s2]; kernel_rfl
      have H := Lib.hid (And.intro hb (And.intro h2 h0)); clear h1 h0 h2 hb hl
      go_wp2_with (first | with_reducible refine wl_row H.out.2.1 _ _ rfl rfl rfl _ _ Tryd.underlying37 i2 ?_ | with_reducible refine ws_row H.out.2.2 _ _ _ _ rfl rfl rfl rfl i2 (s0.trans s2.symm) a2 ?_)
      obtain ⟨hb, h2, h0⟩ := H.out
      refine bodyPost_ret (v := .agg (u8cells l)) ?_ rfl ⟨by rw [HL.out.1], below_setRow hb (by omega) _⟩
      exact results_cell_row rfl _ _ _ _ _ _ _ rfl (h0.row _) Tryd.underlying37 rfl i2
end Go.Proofs.YtfebknplkbeblaaDoor

namespace Go.Proofs.YtfebknplkbeblaaDoor
open Go.RowKit
set_option linter.unusedVariables false

/-- What is carried into part j of m times k. -/
def mulc (m k j : Nat) : Nat := (m % W64 ^ j * k) / W64 ^ j
theorem mulc_zero (m k : Nat) : mulc m k 0 = 0 := by simp [mulc, Nat.mod_one]
theorem mulc_lt (m k j : Nat) (hk : k < W64) : mulc m k j < W64 := by
  unfold mulc
  have hA := pow_pos' j
  have h1 := Nat.mod_lt m hA
  rw [Nat.div_lt_iff_lt_mul hA]
  calc m % W64 ^ j * k ≤ m % W64 ^ j * W64 := Nat.mul_le_mul_left _ (by omega)
    _ < W64 ^ j * W64 := Nat.mul_lt_mul_of_pos_right h1 W64_pos
    _ = W64 * W64 ^ j := Nat.mul_comm _ _
theorem mulc_step (m k j : Nat) : lim m j * k + mulc m k j = lim (m * k) j + W64 * mulc m k (j + 1) := by
  unfold mulc lim
  have hA := pow_pos' j
  have hX := W64_pos
  have e1 : m % W64 ^ (j + 1) = m % W64 ^ j + W64 ^ j * (m / W64 ^ j % W64) := by rw [Nat.pow_succ, Nat.mod_mul]
  have e2 : m * k / W64 ^ j = m / W64 ^ j * k + m % W64 ^ j * k / W64 ^ j := by
    have h := Nat.div_add_mod m (W64 ^ j)
    calc m * k / W64 ^ j = ((W64 ^ j * (m / W64 ^ j) + m % W64 ^ j) * k) / W64 ^ j := by rw [h]
      _ = (m % W64 ^ j * k + W64 ^ j * (m / W64 ^ j * k)) / W64 ^ j := by rw [Nat.add_mul, Nat.add_comm, Nat.mul_assoc]
      _ = m % W64 ^ j * k / W64 ^ j + m / W64 ^ j * k := Nat.add_mul_div_left _ _ hA
      _ = _ := Nat.add_comm _ _
  have e3 : m % W64 ^ (j + 1) * k / W64 ^ (j + 1) = (m / W64 ^ j % W64 * k + m % W64 ^ j * k / W64 ^ j) / W64 := by
    rw [Nat.pow_succ, ← Nat.div_div_eq_div_mul, ← Nat.pow_succ, e1, Nat.add_mul, Nat.mul_assoc, Nat.add_mul_div_left _ _ hA, Nat.add_comm]
  rw [e2, e3]
  generalize m / W64 ^ j = q
  generalize m % W64 ^ j * k / W64 ^ j = c
  have e4 : (q * k + c) % W64 = (q % W64 * k + c) % W64 := by
    rw [Nat.add_mod, Nat.mul_mod, Nat.add_mod (q % W64 * k), Nat.mul_mod (q % W64) k, Nat.mod_mod]
  rw [e4]
  have := Nat.div_add_mod (q % W64 * k + c) W64
  omega
abbrev ProdIs (m k r : Nat) (b : Bool) : Prop := m < T ∧ k < W64 ∧ r < T ∧ r = m * k % T ∧ b = decide (T ≤ m * k)
theorem prod_ex (m k : Nat) (hm : m < T) (hk : k < W64) : ∃ r b, ProdIs m k r b := ⟨_, _, hm, hk, Nat.mod_lt _ (by decide), rfl, rfl⟩

set_option maxHeartbeats 400000 in
theorem MulU_any (m k r : Nat) (b : Bool) (w : World) (h : ProdIs m k r b) :
    Calls Tryd.prog 58 #[uval m, .int .u64 k] w fun e w' => e = .returned (.tuple #[uval r, .bool b]) ∧ Below w.heap.size w w' := by
  obtain ⟨hm, hk, hr, hrm, hb⟩ := h
  have hmul : ∀ j, j < 4 → ∃ hi lo c : Nat, (∀ w, Calls Tryd.prog 74 #[.int .u64 (lim m j), .int .u64 k] w fun e w' => e = .returned (.tuple #[.int .u64 hi, .int .u64 lo]) ∧ w' = w) ∧
      (∀ w, (callFunc 75 #[.int .u64 lo, .int .u64 (mulc m k j), .int .u64 0]).run Tryd.prog w = .ok (.value (.tuple #[.int .u64 (lim r j), .int .u64 c])) w) ∧ hi + c = mulc m k (j + 1) := by
    intro j hj
    have st := mulc_step m k j
    have l1 := mulc_lt m k j hk
    have l2 := mulc_lt m k (j + 1) hk
    have l3 := lim_lt m j
    have l4 := lim_lt (m * k) j
    have e : lim r j = lim (m * k) j := by rw [hrm, T_eq]; exact lim_mod (m * k) j hj
    have hW := W64_pos
    obtain ⟨p, hp⟩ : ∃ p, p = lim m j * k := ⟨_, rfl⟩
    have d1 := Nat.div_add_mod p W64
    have d2 := Nat.mod_lt p hW
    have hc : ∃ c, c ≤ 1 ∧ p % W64 + mulc m k j + 0 = lim r j + W64 * c ∧ p / W64 + c = mulc m k (j + 1) := by
      rw [e]
      rw [← hp] at st
      generalize p / W64 = h at *
      generalize p % W64 = l at *
      generalize mulc m k j = a at *
      generalize mulc m k (j + 1) = a' at *
      generalize lim (m * k) j = s at *
      unfold W64 at *
      exact ⟨a' - h, by omega, by omega, by omega⟩
    obtain ⟨c, hc1, hc2, hc3⟩ := hc
    refine ⟨p / W64, p % W64, c, fun w => Mul64_any _ _ _ _ l3 hk d2 (by rw [← hp, Nat.mul_comm]; omega) w, fun w => ?_, hc3⟩
    exact add64_run (p % W64) (mulc m k j) 0 (lim r j) c (by omega) (lim_lt r j) hc2 w
  have hab : ∀ j, j ≤ 4 → mulc m k j < W64 := fun j _ => mulc_lt m k j hk
  have hfin : ((mulc m k 4 : Int) != 0) = b := by
    have e : mulc m k 4 = m * k / T := by unfold mulc; rw [← T_eq, Nat.mod_eq_of_lt hm]
    have e0 : T ≤ m * k ↔ 1 ≤ m * k / T := by rw [Nat.le_div_iff_mul_le (by decide), Nat.one_mul]
    have key : ∀ z : Nat, ((z : Int) != 0) = true ↔ 1 ≤ z := fun z => by simp; omega
    rw [e, hb, Bool.eq_iff_iff, decide_eq_true_eq, e0]
    exact key _
  have HA := Lib.hid (And.intro hmul (And.intro hab hfin)); clear hmul hab hfin
  have HM := Lib.hid (And.intro hm (And.intro hk (And.intro hr (And.intro hrm hb)))); clear hm hk hr hrm hb
  unfold uval
  go_enter Tryd.func58, Tryd.ntmps58
  go_wp2
  go_loopw [7, 12] (fun c i wr => ∃ j : Nat, j ≤ 4 ∧ i = .int .i64 j ∧ c = .int .u64 (mulc m k j) ∧ Blk wr (w.heap.size) 62 (ucells m) ∧ Blk wr (w.heap.size + 1) 62 (outs 0 0) ∧ Blk wr (w.heap.size + 1 + 1) 62 (outs r j) ∧ Below w.heap.size w wr) (fun _ i _ => 4 - (intOf i).toNat)
  case atStart =>
    refine ⟨0, by omega, rfl, by rw [mulc_zero]; rfl, ?_, ?_, ?_, ?_⟩
    · exact ((Blk.newAt _ _ _ (by simp)).alloc _).alloc _
    · exact (Blk.newAt _ _ _ (by simp)).alloc _
    · exact Blk.newAt _ _ _ (by simp)
    · exact (((Below.refl _ _).alloc (Nat.le_refl _) _).alloc (by simp) _).alloc (by simp; omega) _
  case round =>
    obtain ⟨j, hj, rfl, rfl, h1, h3, h4, hb⟩ := hrel
    by_cases hlt : j < 4
    · obtain ⟨hi, lo, c, hmul, hadd, hsum⟩ := HA.out.1 j hlt
      have hnext := HA.out.2.1 (j + 1) (by omega)
      have c1 := blk_get h1 j _ (ucells_at m j hlt)
      obtain ⟨v4, hv4⟩ := outs_at r j j hlt
      have c4 := blk_get h4 j _ hv4
      have f4 := h4.frozen j
      have hsz : (hi : Int) + (c : Int) = (mulc m k (j + 1) : Nat) := by omega
      have hlt64 : (mulc m k (j + 1) : Int) ≤ 18446744073709551615 := by unfold W64 at hnext; omega
      generalize ha' : mulc m k (j + 1) = a' at *
      generalize mulc m k j = a0 at *
      have HA' := Lib.hid ha'; clear ha'
      have CM := Lib.hid hmul; clear hmul
      have H := Lib.hid (And.intro h1 (And.intro h3 (And.intro h4 (And.intro hb (And.intro hsum hnext))))); clear h1 h3 h4 hb hv4 hsum hnext
      go_wp2_with (go_at_call 74; refine (CM.out _).mono ?_; rintro e w' ⟨rfl, rfl⟩)
      obtain ⟨h1, h3, h4, hb, hsum, hnext⟩ := H.out
      go_roundw
      case rel =>
        exact ⟨j + 1, by omega, by go_num, by rw [HA'.out], h1.far (by omega) _, h3.far (by omega) _, (h4.set_ j _).to (outs_set r j hlt), hb.setCell (by simp; omega) _⟩
      case measure => simp [intOf]; omega
    · obtain rfl : j = 4 := by omega
      have hb4 := HA.out.2.2
      have HO := Lib.hid hb; clear hb
      have q3 := h3.cell
      have f3 := h3.frozen
      rw [outs_full] at h4
      have q4 := h4.cell
      simp only [ucells] at q4
      simp only [outs] at q3
      clear h1 h3 h4
      go_wp2
      refine bodyPost_ret (v := .tuple #[uval r, .bool b]) ?_ rfl ⟨rfl, ?_⟩
      · simp [results, Tryd.results58, go_sem, uval, q3]
      · exact (((HO.out.setCell (by simp) _).setCell (by simp) _).setCell (by simp) _).setCell (by simp) _
end Go.Proofs.YtfebknplkbeblaaDoor

namespace Go.Proofs.YtfebknplkbeblaaDoor
open Go.RowKit
set_option linter.unusedVariables false

/-- A part of m moved down. -/
theorem lim_shr (m n i : Nat) (hm : m < T) (hi : i < 4) : lim (m / 2 ^ n) i = (if i + n / 64 < 4 then lim m (i + n / 64) / 2 ^ (n % 64) else 0) + (if i + n / 64 < 3 then lim m (i + n / 64 + 1) * 2 ^ (64 - n % 64) % W64 else 0) := by
  have hW : W64 = 2 ^ 64 := rfl
  have e0 : m / 2 ^ n / W64 ^ i = m / W64 ^ (i + n / 64) / 2 ^ (n % 64) := by
    rw [Nat.div_div_eq_div_mul, Nat.div_div_eq_div_mul, hW, ← Nat.pow_mul, ← Nat.pow_mul, ← Nat.pow_add, ← Nat.pow_add]
    congr 2
    omega
  have e1 : lim (m / 2 ^ n) i = m / W64 ^ (i + n / 64) / 2 ^ (n % 64) % W64 := by unfold lim; rw [e0]
  have e2 : m / W64 ^ (i + n / 64 + 1) = m / W64 ^ (i + n / 64) / W64 := by rw [Nat.pow_succ, Nat.div_div_eq_div_mul]
  have hs : n % 64 < 64 := Nat.mod_lt _ (by decide)
  have hz : 4 ≤ i + n / 64 → m / W64 ^ (i + n / 64) = 0 := fun h => Nat.div_eq_of_lt (Nat.lt_of_lt_of_le hm (by rw [T_eq]; exact Nat.pow_le_pow_right W64_pos h))
  have hz2 : 3 ≤ i + n / 64 → m / W64 ^ (i + n / 64 + 1) = 0 := fun h => Nat.div_eq_of_lt (Nat.lt_of_lt_of_le hm (by rw [T_eq]; exact Nat.pow_le_pow_right W64_pos (by omega)))
  rw [e1]
  unfold lim
  generalize hq : m / W64 ^ (i + n / 64) = q at *
  rw [e2] at hz2 ⊢
  generalize n % 64 = s at *
  have hWs : W64 = 2 ^ s * 2 ^ (64 - s) := by rw [hW, ← Nat.pow_add]; congr 1; omega
  have hp1 : 0 < 2 ^ s := Nat.pow_pos (by decide)
  have hp2 : 0 < 2 ^ (64 - s) := Nat.pow_pos (by decide)
  -- q / 2^s mod W64, q = W64 * h + l
  have key : q / 2 ^ s % W64 = q % W64 / 2 ^ s + q / W64 % W64 * 2 ^ (64 - s) % W64 := by
    have h1 : q / 2 ^ s = q % W64 / 2 ^ s + q / W64 * 2 ^ (64 - s) := by
      have h := Nat.div_add_mod q W64
      conv => lhs; rw [← h, hWs, Nat.mul_assoc, Nat.add_comm, Nat.add_mul_div_left _ _ hp1]
      rw [Nat.mul_comm (2 ^ (64 - s)), ← hWs]
    have h2 : q % W64 / 2 ^ s < 2 ^ (64 - s) := by
      rw [Nat.div_lt_iff_lt_mul hp1, Nat.mul_comm, ← hWs]
      exact Nat.mod_lt _ W64_pos
    have h3 : q / W64 % W64 * 2 ^ (64 - s) % W64 = q / W64 * 2 ^ (64 - s) % W64 := by rw [Nat.mul_mod, Nat.mod_mod, ← Nat.mul_mod]
    rw [h1, h3]
    generalize q % W64 / 2 ^ s = x at *
    generalize q / W64 = z at *
    rw [hWs]
    generalize 2 ^ (64 - s) = P at *
    generalize 2 ^ s = S at *
    rw [Nat.mul_mod_mul_right, Nat.add_mod, Nat.mul_mod_mul_right]
    have h5 : z % S < S := Nat.mod_lt _ hp1
    have h6 : (z % S + 1) * P ≤ S * P := Nat.mul_le_mul_right _ h5
    rw [Nat.add_mul] at h6
    have h7 : P ≤ S * P := Nat.le_mul_of_pos_left _ hp1
    rw [Nat.mod_eq_of_lt (show x < S * P by omega), Nat.mod_eq_of_lt (by omega)]
  rw [key]
  by_cases a : i + n / 64 < 3
  · rw [if_pos a, if_pos (by omega)]
  · rw [if_neg a, hz2 (by omega)]
    by_cases b : i + n / 64 < 4
    · rw [if_pos b]; simp
    · rw [if_neg b, hz (by omega)]; simp
theorem shr_or (m n i : Nat) (hm : m < T) (hi : i < 4) (h : i + n / 64 < 3) :
    bits .or .u64 ((lim m (i + n / 64) : Nat) / 2 ^ (n % 64) : Int) (IntKind.u64.wrap ((lim m (i + n / 64 + 1) : Nat) * 2 ^ (64 - n % 64) : Int)) = (lim (m / 2 ^ n) i : Nat) := by
  have e := lim_shr m n i hm hi
  rw [if_pos (by omega), if_pos h] at e
  rw [e]
  have l1 := lim_lt m (i + n / 64)
  have l2 := lim_lt m (i + n / 64 + 1)
  have hs : n % 64 < 64 := Nat.mod_lt _ (by decide)
  generalize lim m (i + n / 64) = a at *
  generalize lim m (i + n / 64 + 1) = b at *
  generalize n % 64 = s at *
  clear e
  have hWs : W64 = 2 ^ s * 2 ^ (64 - s) := by rw [show W64 = 2 ^ 64 from rfl, ← Nat.pow_add]; congr 1; omega
  have hp1 : 0 < 2 ^ s := Nat.pow_pos (by decide)
  have ha : a / 2 ^ s < 2 ^ (64 - s) := by
    rw [Nat.div_lt_iff_lt_mul hp1, Nat.mul_comm, ← hWs]
    exact l1
  have w1 : ((a : Nat) / 2 ^ s : Int) = ((a / 2 ^ s : Nat) : Int) := by push_cast; rfl
  have w2 : IntKind.u64.wrap ((b : Nat) * 2 ^ (64 - s) : Int) = ((b * 2 ^ (64 - s) % W64 : Nat) : Int) := by
    have e : ((b : Nat) * 2 ^ (64 - s) : Int) = ((b * 2 ^ (64 - s) : Nat) : Int) := by push_cast; rfl
    rw [e]
    generalize b * 2 ^ (64 - s) = y
    unfold W64
    simp [IntKind.wrap, IntKind.signed, IntKind.bits]
  have hb : b * 2 ^ (64 - s) % W64 = (b % 2 ^ s) * 2 ^ (64 - s) := by rw [hWs, Nat.mul_mod_mul_right]
  have hb2 : b * 2 ^ (64 - s) % W64 < W64 := Nat.mod_lt _ W64_pos
  have ha2 : a / 2 ^ s < W64 := Nat.lt_of_le_of_lt (Nat.div_le_self _ _) l1
  rw [w1, w2, u64_or_nat _ _ (by unfold W64 at ha2; omega) (by unfold W64 at hb2; unfold W64; omega)]
  congr 1
  rw [hb, Nat.or_comm, ← Nat.shiftLeft_eq, ← Nat.shiftLeft_add_eq_or_of_lt ha]
  omega

theorem lim_high (r i W : Nat) (h : r < W64 ^ W) (hi : W ≤ i) : lim r i = 0 := by
  unfold lim
  rw [Nat.div_eq_of_lt (Nat.lt_of_lt_of_le h (Nat.pow_le_pow_right W64_pos hi))]
  rfl
theorem outs_high (r k : Nat) (hk : k ≤ 4) (h : ∀ i, k ≤ i → i < 4 → lim r i = 0) : outs r k = ucells r := by
  have h0 := h 0
  have h1 := h 1
  have h2 := h 2
  have h3 := h 3
  rcases (show k = 0 ∨ k = 1 ∨ k = 2 ∨ k = 3 ∨ k = 4 from by omega) with rfl | rfl | rfl | rfl | rfl <;> simp_all [outs, ucells]
def shrN (m : Nat) (n : Int) : Nat := if n ≤ 0 then m else m / 2 ^ n.toNat

theorem set_twice (cs : Array Value) (j : Nat) (u v : Value) : (cs.setIfInBounds j u).setIfInBounds j v = cs.setIfInBounds j v := by
  apply Array.ext'
  simp
theorem uval_zero0 : uval 0 = .agg #[.int .u64 0, .int .u64 0, .int .u64 0, .int .u64 0] := rfl
end Go.Proofs.YtfebknplkbeblaaDoor

namespace Go.Proofs.YtfebknplkbeblaaDoor
open Go.RowKit
set_option linter.unusedVariables false

/-- A number moved up inside a part. -/
theorem up_part (m s e : Nat) (hs : s < 64) : m * 2 ^ s / W64 ^ (e + 1) % W64 = lim m (e + 1) * 2 ^ s % W64 + lim m e / 2 ^ (64 - s) := by
  have hW : W64 = 2 ^ s * 2 ^ (64 - s) := by rw [show W64 = 2 ^ 64 from rfl, ← Nat.pow_add]; congr 1; omega
  have hp1 : 0 < 2 ^ s := Nat.pow_pos (by decide)
  have hp2 : 0 < 2 ^ (64 - s) := Nat.pow_pos (by decide)
  have hA := pow_pos' e
  obtain ⟨q, hq⟩ : ∃ q, q = m / W64 ^ e := ⟨_, rfl⟩
  have e1 : m * 2 ^ s / W64 ^ (e + 1) = m * 2 ^ s / W64 ^ e / W64 := by rw [Nat.pow_succ, Nat.div_div_eq_div_mul]
  have e2 : m * 2 ^ s / W64 ^ e = q * 2 ^ s + m % W64 ^ e * 2 ^ s / W64 ^ e := by
    have h := Nat.div_add_mod m (W64 ^ e)
    calc m * 2 ^ s / W64 ^ e = ((W64 ^ e * (m / W64 ^ e) + m % W64 ^ e) * 2 ^ s) / W64 ^ e := by rw [h]
      _ = (m % W64 ^ e * 2 ^ s + W64 ^ e * (m / W64 ^ e * 2 ^ s)) / W64 ^ e := by rw [Nat.add_mul, Nat.add_comm, Nat.mul_assoc]
      _ = m % W64 ^ e * 2 ^ s / W64 ^ e + m / W64 ^ e * 2 ^ s := Nat.add_mul_div_left _ _ hA
      _ = _ := by rw [hq, Nat.add_comm]
  have hc : m % W64 ^ e * 2 ^ s / W64 ^ e < 2 ^ s := by
    rw [Nat.div_lt_iff_lt_mul hA, Nat.mul_comm]
    exact Nat.mul_lt_mul_of_pos_left (Nat.mod_lt _ hA) hp1
  have l1 : lim m (e + 1) = q / W64 % W64 := by unfold lim; rw [hq, Nat.pow_succ, Nat.div_div_eq_div_mul]
  have l0 : lim m e = q % W64 := by unfold lim; rw [hq]
  rw [e1, e2, l1, l0]
  generalize m % W64 ^ e * 2 ^ s / W64 ^ e = c at *
  clear hq e1 e2 l1 l0 hA
  have e3 : (q * 2 ^ s + c) / W64 = q / 2 ^ (64 - s) := by
    rw [hW, ← Nat.div_div_eq_div_mul, Nat.add_comm, Nat.add_mul_div_right _ _ hp1, Nat.div_eq_of_lt hc, Nat.zero_add]
  rw [e3]
  have h := Nat.div_add_mod q W64
  have e4 : q / 2 ^ (64 - s) = q / W64 * 2 ^ s + q % W64 / 2 ^ (64 - s) := by
    conv => lhs; rw [← h, hW, Nat.mul_comm (2 ^ s), Nat.mul_assoc, Nat.add_comm, Nat.add_mul_div_left _ _ hp2]
    rw [← Nat.mul_comm (2 ^ s) (2 ^ (64 - s)), ← hW, Nat.mul_comm (2 ^ s), Nat.add_comm]
  have hx : q % W64 / 2 ^ (64 - s) < 2 ^ s := by
    rw [Nat.div_lt_iff_lt_mul hp2, ← hW]
    exact Nat.mod_lt _ W64_pos
  have h3 : q / W64 % W64 * 2 ^ s % W64 = q / W64 * 2 ^ s % W64 := by rw [Nat.mul_mod, Nat.mod_mod, ← Nat.mul_mod]
  rw [e4, h3]
  generalize q % W64 / 2 ^ (64 - s) = x at *
  generalize q / W64 = z at *
  rw [hW, Nat.mul_comm (2 ^ s) (2 ^ (64 - s))]
  clear e3 e4 h h3 hc hW
  generalize 2 ^ (64 - s) = P at *
  generalize 2 ^ s = S at *
  rw [Nat.mul_mod_mul_right, Nat.add_mod, Nat.mul_mod_mul_right]
  have h5 : z % P < P := Nat.mod_lt _ hp2
  have h6 : (z % P + 1) * S ≤ P * S := Nat.mul_le_mul_right _ h5
  rw [Nat.add_mul] at h6
  have h7 : S ≤ P * S := Nat.le_mul_of_pos_left _ hp2
  rw [Nat.mod_eq_of_lt (show x < P * S by omega), Nat.mod_eq_of_lt (by omega)]
theorem mod_left (a b : Nat) : a % W64 * b % W64 = a % W64 * (b % W64) % W64 := by
  rw [Nat.mul_mod, Nat.mod_mod]
theorem up_low (m s : Nat) : m * 2 ^ s % W64 = lim m 0 * 2 ^ s % W64 := by
  unfold lim
  rw [Nat.pow_zero, Nat.div_one, Nat.mul_mod]
  exact (mod_left m (2 ^ s)).symm
/-- A part of m moved up. -/
theorem lim_shl (m n i : Nat) : lim (m * 2 ^ n) i = (if n / 64 ≤ i then lim m (i - n / 64) * 2 ^ (n % 64) % W64 else 0) + (if n / 64 < i then lim m (i - n / 64 - 1) / 2 ^ (64 - n % 64) else 0) := by
  have hs : n % 64 < 64 := Nat.mod_lt _ (by decide)
  have hn : (2 : Nat) ^ n = 2 ^ (n % 64) * W64 ^ (n / 64) := by
    rw [show W64 = 2 ^ 64 from rfl, ← Nat.pow_mul, ← Nat.pow_add]
    congr 1
    omega
  generalize n / 64 = W at *
  generalize n % 64 = s at *
  rw [hn]
  unfold lim
  by_cases h1 : W ≤ i
  · rw [if_pos h1]
    have e1 : m * (2 ^ s * W64 ^ W) / W64 ^ i = m * 2 ^ s / W64 ^ (i - W) := by
      rw [← Nat.mul_assoc, show i = (i - W) + W from by omega, Nat.pow_add, Nat.add_sub_cancel, Nat.mul_div_mul_right _ _ (pow_pos' W)]
    rw [e1]
    by_cases h2 : W < i
    · rw [if_pos h2]
      obtain ⟨e, he⟩ : ∃ e, i - W = e + 1 := ⟨i - W - 1, by omega⟩
      rw [he, Nat.add_sub_cancel]
      exact up_part m s e hs
    · rw [if_neg h2, show i - W = 0 by omega, Nat.pow_zero, Nat.div_one, Nat.div_one, Nat.add_zero]
      exact ((mod_left m (2 ^ s)).trans (Nat.mul_mod _ _ _).symm).symm
  · rw [if_neg h1, if_neg (by omega)]
    have e1 : m * (2 ^ s * W64 ^ W) / W64 ^ i = m * 2 ^ s * W64 ^ (W - i - 1) * W64 := by
      rw [← Nat.mul_assoc, show W = (W - i - 1) + 1 + i from by omega, Nat.pow_add, Nat.pow_succ, ← Nat.mul_assoc, Nat.mul_div_cancel _ (pow_pos' i), show W - i - 1 + 1 + i - i - 1 = W - i - 1 by omega, Nat.mul_assoc (m * 2 ^ s)]
    rw [e1, Nat.mul_mod_left]
def shlN (m : Nat) (n : Int) : Nat := if n ≤ 0 then m else m * 2 ^ n.toNat % T
def shlB (m : Nat) (n : Int) : Bool := if n ≤ 0 then false else if 256 ≤ n then decide (m ≠ 0) else decide (256 < (bl m : Int) + n)
theorem shl_or (m N i : Nat) (h : N / 64 < i) :
    bits .or .u64 (IntKind.u64.wrap ((lim m (i - N / 64) : Nat) * 2 ^ (N % 64) : Int)) ((lim m (i - N / 64 - 1) : Nat) / 2 ^ (64 - N % 64) : Int) = (lim (m * 2 ^ N) i : Nat) := by
  have e := lim_shl m N i
  rw [if_pos (by omega), if_pos h] at e
  rw [e]
  have l1 := lim_lt m (i - N / 64)
  have l2 := lim_lt m (i - N / 64 - 1)
  have hs : N % 64 < 64 := Nat.mod_lt _ (by decide)
  generalize lim m (i - N / 64) = b at *
  generalize lim m (i - N / 64 - 1) = a at *
  generalize N % 64 = s at *
  clear e
  have hWs : W64 = 2 ^ (64 - s) * 2 ^ s := by rw [show W64 = 2 ^ 64 from rfl, ← Nat.pow_add]; congr 1; omega
  have hp1 : 0 < 2 ^ (64 - s) := Nat.pow_pos (by decide)
  have ha : a / 2 ^ (64 - s) < 2 ^ s := by
    rw [Nat.div_lt_iff_lt_mul hp1, Nat.mul_comm, ← hWs]
    exact l2
  have w1 : ((a : Nat) / 2 ^ (64 - s) : Int) = ((a / 2 ^ (64 - s) : Nat) : Int) := by push_cast; rfl
  have w2 : IntKind.u64.wrap ((b : Nat) * 2 ^ s : Int) = ((b * 2 ^ s % W64 : Nat) : Int) := by
    have e : ((b : Nat) * 2 ^ s : Int) = ((b * 2 ^ s : Nat) : Int) := by push_cast; rfl
    rw [e]
    generalize b * 2 ^ s = y
    unfold W64
    simp [IntKind.wrap, IntKind.signed, IntKind.bits]
  have hb : b * 2 ^ s % W64 = (b % 2 ^ (64 - s)) * 2 ^ s := by rw [hWs, Nat.mul_mod_mul_right]
  have hb2 : b * 2 ^ s % W64 < W64 := Nat.mod_lt _ W64_pos
  have ha2 : a / 2 ^ (64 - s) < W64 := Nat.lt_of_le_of_lt (Nat.div_le_self _ _) l2
  rw [w1, w2, u64_or_nat _ _ (by unfold W64 at hb2; unfold W64; omega) (by unfold W64 at ha2; omega)]
  congr 1
  rw [hb, ← Nat.shiftLeft_eq, ← Nat.shiftLeft_add_eq_or_of_lt ha]
theorem outs_low (r k : Nat) (hk : k ≤ 4) (h : ∀ i, i < k → lim r i = 0) : outs r k = outs 0 0 := by
  have h0 := h 0
  have h1 := h 1
  have h2 := h 2
  have h3 := h 3
  rcases (show k = 0 ∨ k = 1 ∨ k = 2 ∨ k = 3 ∨ k = 4 from by omega) with rfl | rfl | rfl | rfl | rfl <;> simp_all [outs]

set_option maxHeartbeats 1600000 in
theorem Shl_mid (m N : Nat) (w : World) (hm : m < T) (hN0 : 0 < N) (hN1 : N < 256) :
    Calls Tryd.prog 54 #[uval m, .int .i64 N] w fun e w' => e = .returned (.tuple #[uval (shlN m N), .bool (shlB m N)]) ∧ Below w.heap.size w w' := by
  have hn0 : ¬ (N : Int) ≤ 0 := by omega
  have hn1 : ¬ (256 : Int) ≤ (N : Int) := by omega
  obtain ⟨r, hr⟩ : ∃ r, r = m * 2 ^ N % T := ⟨_, rfl⟩
  obtain ⟨b, hbb⟩ : ∃ b, b = decide (256 < (bl m : Int) + N) := ⟨_, rfl⟩
  have hr' : shlN m (N : Int) = r := by unfold shlN; rw [if_neg hn0, hr, Int.toNat_natCast]
  have hb' : shlB m (N : Int) = b := by unfold shlB; rw [if_neg hn0, if_neg hn1, hbb]
  rw [hr', hb']
  obtain ⟨W, hW⟩ : ∃ W, W = N / 64 := ⟨_, rfl⟩
  obtain ⟨s, hs⟩ : ∃ s, s = N % 64 := ⟨_, rfl⟩
  have hWi : (N : Int) / 64 = (W : Int) := by omega
  have hsi : (N : Int) % 64 = (s : Int) := by omega
  have hW4 : W ≤ 3 := by omega
  have hs64 : s < 64 := by omega
  have hlr : ∀ i, i < 4 → lim r i = lim (m * 2 ^ N) i := fun i hi => by rw [hr, lim_mod _ _ hi]
  have hor : ∀ i, W < i → i < 4 → bits .or .u64 (IntKind.u64.wrap ((lim m (i - W) : Nat) * 2 ^ s : Int)) ((lim m (i - W - 1) : Nat) / 2 ^ (64 - s) : Int) = (lim r i : Nat) := fun i hi h4 => by
    rw [hlr i h4, hW, hs]; exact shl_or m N i (by omega)
  have hfirst : IntKind.u64.wrap ((lim m 0 : Nat) * 2 ^ s : Int) = (lim r W : Nat) := by
    have e := lim_shl m N W
    rw [if_pos (by omega), if_neg (by omega), ← hW, ← hs, Nat.sub_self, Nat.add_zero, ← hlr W (by omega)] at e
    have e2 : ((lim m 0 : Nat) * 2 ^ s : Int) = ((lim m 0 * 2 ^ s : Nat) : Int) := by push_cast; rfl
    rw [e2, e]
    generalize lim m 0 * 2 ^ s = y
    unfold W64
    simp [IntKind.wrap, IntKind.signed, IntKind.bits]
  have hlow : ∀ i, i < W → lim r i = 0 := fun i hi => by
    have e := lim_shl m N i
    rw [if_neg (by omega), if_neg (by omega), ← hlr i (by omega)] at e
    exact e
  have HR := Lib.hid (And.intro hor (And.intro hfirst hlow)); clear hor hfirst hlow hr hr' hlr
  have HW := Lib.hid (And.intro hW (And.intro hs (And.intro hbb hb'))); clear hW hs hbb hb'
  unfold uval
  go_enter Tryd.func54, Tryd.ntmps54
  go_wp2
  go_loopw [9] (fun i wr => ∃ j : Nat, W ≤ j ∧ j ≤ 4 ∧ i = .int .i64 j ∧ Blk wr (w.heap.size) 62 (ucells m) ∧ Blk wr (w.heap.size + 1) 62 (outs 0 0) ∧ Blk wr (w.heap.size + 1 + 1) 62 (outs r j) ∧ Below w.heap.size w wr) (fun i _ => 4 - (intOf i).toNat)
  case atStart =>
    refine ⟨W, by omega, by omega, rfl, ?_, ?_, ?_, ?_⟩
    · exact ((Blk.newAt _ _ _ (by simp)).alloc _).alloc _
    · exact (Blk.newAt _ _ _ (by simp)).alloc _
    · rw [outs_low r W (by omega) HR.out.2.2]
      exact Blk.newAt _ _ _ (by simp)
    · exact (((Below.refl _ _).alloc (Nat.le_refl _) _).alloc (by simp) _).alloc (by simp; omega) _
  case round =>
    obtain ⟨j, hWj, hj, rfl, h1, h3, h4, hb⟩ := hrel
    by_cases hlt : j < 4
    · obtain ⟨v4, hv4⟩ := outs_at r j j (by omega)
      have c4 := blk_get h4 j _ hv4
      have f4 := h4.frozen j
      by_cases hWlt : W < j
      · obtain ⟨p, hp⟩ : ∃ p, p = j - W := ⟨_, rfl⟩
        obtain ⟨p', hp'⟩ : ∃ p', p' = p - 1 := ⟨_, rfl⟩
        have hpi : (j : Int) - (W : Int) = (p : Int) := by omega
        have hpi2 : (p : Int) - 1 = (p' : Int) := by omega
        have hp4 : p < 4 := by omega
        have hp4' : p' < 4 := by omega
        have c1 := blk_get h1 p _ (ucells_at m p hp4)
        have c2 := blk_get h1 p' _ (ucells_at m p' hp4')
        have hWlt' : (W : Int) < (j : Int) := by omega
        have vor := HR.out.1 j hWlt hlt
        rw [← hp, ← hp'] at vor
        have hp0 : (p : Int) < 4 := by omega
        have hp0' : (p' : Int) < 4 := by omega
        have hj0 : (j : Int) < 4 := by omega
        have hs0 : (s : Int) ≤ 64 := by omega
        have H := Lib.hid (And.intro h1 (And.intro h3 (And.intro h4 (And.intro hb (And.intro hp hp'))))); clear h1 h3 h4 hb hv4 hp hp'
        go_wp2
        go_region
        go_wp2
        obtain ⟨h1, h3, h4, hb, hp⟩ := H.out
        go_roundw
        case rel =>
          exact ⟨j + 1, by omega, by omega, by go_num, ((h1.far (by omega) _).far (by omega) _).drew, ((h3.far (by omega) _).far (by omega) _).drew, (((h4.set_ j _).set_ j _).to (by rw [set_twice]; exact outs_set r j hlt)).drew, ((hb.setCell (by simp; omega) _).setCell (by simp; omega) _).drew⟩
        case measure => simp [intOf]; omega
      · have hjW : W = j := by omega
        have hpi : (j : Int) - (W : Int) = 0 := by omega
        have hge : ¬ ((W : Int) < (j : Int)) := by omega
        have hj0 : (j : Int) < 4 := by omega
        have hs0 : (s : Int) ≤ 64 := by omega
        have c1 := blk_get h1 0 _ (ucells_at m 0 (by omega))
        have vl := HR.out.2.1
        rw [hjW] at vl
        have H := Lib.hid (And.intro h1 (And.intro h3 (And.intro h4 (And.intro hb hjW)))); clear h1 h3 h4 hb hv4 hjW hWlt
        go_wp2
        obtain ⟨h1, h3, h4, hb, hjW⟩ := H.out
        go_roundw
        case rel =>
          exact ⟨j + 1, by omega, by omega, by go_num, h1.far (by omega) _, h3.far (by omega) _, (h4.set_ j _).to (outs_set r j hlt), hb.setCell (by simp; omega) _⟩
        case measure => simp [intOf]; omega
    · obtain rfl : j = 4 := by omega
      rw [outs_full] at h4
      have c1 := cl4 h1
      have c4 := cl4 h4
      have n1 : Cl wr.drew w.heap.size m := c1
      have n4 : Cl wr.drew (w.heap.size + 1 + 1) r := c4
      have n3 : Blk wr.drew (w.heap.size + 1) 62 (outs 0 0) := h3
      have lt3 := h3.lt
      have hbb := HW.out.2.2.1
      have hbe : decide (256 < (bl m : Int) + (N : Int)) = b := hbb.symm
      have hlen : (bl m : Int) ≤ 256 := by
        have : bl m ≤ 256 := (bl_lt m 256).2 hm
        omega
      have hlen0 : (0 : Int) ≤ (bl m : Int) := Int.natCast_nonneg _
      have hsum : IntKind.i64.wrap ((bl m : Int) + (N : Int)) = (bl m : Int) + (N : Int) := by simp [IntKind.wrap, IntKind.signed, IntKind.bits]; omega
      have H := Lib.hid (And.intro h3 hb); clear h1 h3 h4 hb hbb
      go_wp2
      go_region_held3 (fun w' => Cl w' (w.heap.size + 1 + 1) r ∧ Cl w' w.heap.size m) (first | exact ⟨n4, n1⟩ | exact ⟨k4, k1⟩ | exact ⟨(((k4.far (by omega) _).far (by omega) _).far (by omega) _).far (by omega) _, (((k1.far (by omega) _).far (by omega) _).far (by omega) _).far (by omega) _⟩) ((go_at_call 73; refine (Len_any m _ hm).mono ?_; rintro e wl ⟨rfl, hl⟩; have k4 := Cl.calls (w := wr.drew) n4 hl; have k1 := Cl.calls (w := wr.drew) n1 hl; have k3 := Blk.calls (w := wr.drew) n3 hl; have z3 := clz k3))
      clear hsum hbe
      all_goals
        go_wp2
        obtain ⟨h3, hb⟩ := H.out
        refine bodyPost_ret (v := .tuple #[uval r, .bool b]) ?_ rfl ⟨rfl, belowFill (bt (b := wr.drew) hb.drew hl) (by omega)⟩
        simp [results, Tryd.results54, go_sem, uval, z3]

set_option maxHeartbeats 800000 in
theorem Shl_any (m : Nat) (n : Int) (w : World) (hm : m < T) (hn63 : n ≤ 9223372036854775807) :
    Calls Tryd.prog 54 #[uval m, .int .i64 n] w fun e w' => e = .returned (.tuple #[uval (shlN m n), .bool (shlB m n)]) ∧ Below w.heap.size w w' := by
  by_cases hn0 : n ≤ 0
  · have hr : shlN m n = m := if_pos hn0
    have hb : shlB m n = false := if_pos hn0
    rw [hr, hb]
    unfold uval
    go_enter Tryd.func54, Tryd.ntmps54
    go_wp2
    refine bodyPost_ret (v := .tuple #[uval m, .bool false]) ?_ rfl ⟨rfl, ?_⟩
    · simp [results, Tryd.results54, go_sem, uval]
    · exact ((Below.refl _ _).alloc (Nat.le_refl _) _).alloc (by simp) _
  · by_cases hn1 : 256 ≤ n
    · have hr : shlN m n = 0 := by
        unfold shlN
        rw [if_neg hn0, show T = 2 ^ 256 from by decide, show n.toNat = 256 + (n.toNat - 256) by omega, Nat.pow_add, Nat.mul_left_comm, Nat.mul_mod_right]
      have hb : shlB m n = decide (m ≠ 0) := by unfold shlB; rw [if_neg hn0, if_pos hn1]
      obtain ⟨z, hz⟩ : ∃ z, decide (m = 0) = z := ⟨_, rfl⟩
      have hb2 : decide (m ≠ 0) = !z := by rw [← hz]; simp
      have q := fun w => eqU0 m z hm hz w
      rw [hr, hb, hb2]
      have HZ := Lib.hid hz; clear hz hb hb2
      unfold uval
      go_enter Tryd.func54, Tryd.ntmps54
      go_wp2
      go_region
      go_wp2
      refine bodyPost_ret (v := .tuple #[uval 0, .bool (!z)]) ?_ rfl ⟨rfl, ?_⟩
      · simp [results, Tryd.results54, go_sem, uval_zero0]
      · exact (((Below.refl _ _).alloc (Nat.le_refl _) _).alloc (by simp) _).drew
    · obtain ⟨N, rfl⟩ : ∃ N : Nat, n = N := ⟨n.toNat, by omega⟩
      exact Shl_mid m N w hm (by omega) (by omega)
end Go.Proofs.YtfebknplkbeblaaDoor
