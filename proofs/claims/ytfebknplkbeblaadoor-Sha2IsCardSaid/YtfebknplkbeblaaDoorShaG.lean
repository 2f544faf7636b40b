/- What sha2.Pad comes to. -/
import Derived.Test.YtfebknplkbeblaaDoorShaF
namespace Go.Proofs.YtfebknplkbeblaaDoor
open Go.RowKit
set_option linter.unusedVariables false

/-- How many zeros stand between. -/
def zerosOf (n : Nat) : Nat := if n % 64 ≤ 55 then 55 - n % 64 else 119 - n % 64
/-- What stands behind n bytes. -/
def padOf (n : Nat) : List UInt8 := 128 :: (List.replicate (zerosOf n) 0 ++ byB (n * 8 % W64) 8)
theorem padOf_length (n : Nat) : (padOf n).length = zerosOf n + 9 := by simp [padOf, byB_length]
theorem padOf_mid (n i : Nat) (h1 : 0 < i) (h2 : i ≤ zerosOf n) : (padOf n).getD i 0 = 0 := by
  obtain ⟨j, rfl⟩ : ∃ j, i = j + 1 := ⟨i - 1, by omega⟩
  have h3 : j < zerosOf n := by omega
  simp [padOf, List.getD, List.getElem?_append_left, h3]
theorem padOf_end (n k : Nat) (h : k < 8) : (padOf n).getD (1 + zerosOf n + k) 0 = UInt8.ofNat (n * 8 % W64 / 256 ^ (7 - k) % 256) := by
  have e : 1 + zerosOf n + k = (zerosOf n + k) + 1 := by omega
  have hb := byB_at (n * 8 % W64) 8 k h
  rw [show 8 - 1 - k = 7 - k by omega] at hb
  rw [← hb, e]
  unfold padOf
  rw [List.getD_cons_succ]
  simp [List.getD, List.getElem?_append_right]
theorem partB_skip (l : List UInt8) (a b : Nat) (h : a ≤ b) (hz : ∀ i, a ≤ i → i < b → l.getD i 0 = 0) : partB l a = partB l b := by
  unfold partB
  congr 1
  apply List.map_congr_left
  intro j hj
  by_cases h1 : j < a
  · rw [if_pos h1, if_pos (by omega)]
  · rw [if_neg h1]
    by_cases h2 : j < b
    · rw [if_pos h2, hz j (by omega) h2]
      rfl
    · rw [if_neg h2]

set_option maxRecDepth 100000 in
set_option maxHeartbeats 1000000 in
theorem Pad_any (n : Nat) (hn : n < W64) (L : Nat) (hL : (padOf n).length = L) (w : World) :
    Calls Tryd.prog 26 #[.int .u64 n] w fun e w' => e = .returned (.slice (some ⟨w.heap.size, 0, none⟩) L L) ∧ Below w.heap.size w w' ∧ Blk w' w.heap.size 5 (u8cells (padOf n)) := by
  have hn' : n < 18446744073709551616 := hn
  obtain ⟨z, hz⟩ : ∃ z, z = zerosOf n := ⟨_, rfl⟩
  have hLz : L = z + 9 := by rw [← hL, padOf_length, hz]
  have hz64 : z < 64 := by rw [hz]; unfold zerosOf; split <;> omega
  obtain ⟨r, hr⟩ : ∃ r, r = n % 64 := ⟨_, rfl⟩
  have hri : (n : Int) % 64 = (r : Int) := by omega
  have hr64 : r < 64 := by omega
  obtain ⟨l, hl⟩ : ∃ l, l = padOf n := ⟨_, rfl⟩
  rw [← hl] at hL ⊢
  have hmk : ∀ w : World, (Instr.makeSlice 26 (.int .i64 L) (.int .i64 L)).run Tryd.prog w = .ok (.slice (some ⟨w.heap.size, 0, none⟩) L L) (w.alloc (.cells (partB l 0) 5)) := by
    intro w
    rw [partB_zero, hL]
    exact make_bytes L _ rfl (by omega) w
  have hLi : (1 : Int) + (z : Int) + 8 = (L : Int) := by omega
  have h9 : 9 ≤ L := by omega
  have h72 : L ≤ 72 := by omega
  have l0 : l.getD 0 0 = 128 := by rw [hl]; rfl
  have hmid : partB l 1 = partB l (1 + z) := partB_skip l 1 (1 + z) (by omega) fun i h1 h2 => by rw [hl]; exact padOf_mid n i (by omega) (by omega)
  have hend : ∀ k, k < 8 → (l.getD (1 + z + k) 0).toNat = n * 8 % W64 / 256 ^ (7 - k) % 256 := fun k hk => by
    rw [hl, hz, padOf_end n k hk]
    simp
  obtain ⟨m, hm⟩ : ∃ m, m = n * 8 % W64 := ⟨_, rfl⟩
  have hmW : m < 18446744073709551616 := by rw [hm]; exact Nat.mod_lt _ W64_pos
  have hmi : IntKind.u64.wrap ((n : Int) * 8) = (m : Int) := by
    rw [hm, IntKind.wrap_u64]
    unfold W64
    omega
  have hmi' : ((n : Int) * 8) % 18446744073709551616 = (m : Int) := by
    rw [hm]
    unfold W64
    omega
  rw [← hm] at hend
  have HF := Lib.hid (And.intro hz (And.intro hr (And.intro hl (And.intro hm (And.intro l0 (And.intro hmid (And.intro hend (And.intro hL hn))))))))
  have hzr : (r ≤ 55 ∧ z = 55 - r) ∨ (55 < r ∧ z = 119 - r) := by
    rw [hz, hr]; unfold zerosOf; split <;> omega
  clear hz hr hl hm l0 hmid hend hL hn hLz
  obtain ⟨v0, hv0⟩ := partB_at l 0 0 (by have := HF.out.2.2.2.2.2.2.2.1; omega)
  have hnz : ¬ ((z : Int) < 0) := by omega
  rcases hzr with ⟨g1, g2⟩ | ⟨g1, g2⟩
  · have e1 : (55 : Int) - (r : Int) = (z : Int) := by omega
    have G := Lib.hid g2; clear g2
    go_enter Tryd.func26, Tryd.ntmps26
    go_wp2
    go_loopw [22] (fun i wr => ∃ k : Nat, k ≤ 8 ∧ i = .int .i64 k ∧ Blk wr w.heap.size 5 (partB l (1 + z + k)) ∧ Below w.heap.size w wr) (fun i _ => 8 - (intOf i).toNat)
    case atStart =>
      refine ⟨0, by omega, rfl, ?_, ba (Below.refl _ _) _⟩
      have hs := partB_set l 0 (by have := HF.out.2.2.2.2.2.2.2.1; omega)
      rw [HF.out.2.2.2.2.1] at hs
      rw [Nat.add_zero, ← HF.out.2.2.2.2.2.1, ← hs]
      exact Blk.new w _ _
    case round =>
      obtain ⟨k, hk, rfl, h1, hb⟩ := hrel
      by_cases hlt : k < 8
      · obtain ⟨p, hp⟩ : ∃ p, p = 1 + z + k := ⟨_, rfl⟩
        obtain ⟨q, hq⟩ : ∃ q, q = 8 * k := ⟨_, rfl⟩
        obtain ⟨s, hs⟩ : ∃ s, s = 56 - q := ⟨_, rfl⟩
        obtain ⟨x, hx⟩ : ∃ x, x = (l.getD p 0).toNat := ⟨_, rfl⟩
        have hv : ((m : Nat) : Int) / (2 : Int) ^ s % (256 : Int) = (x : Int) := by
          have h8 := HF.out.2.2.2.2.2.2.1 k hlt
          rw [← hp, ← hx] at h8
          rw [h8, show (256 : Nat) = 2 ^ 8 from rfl, ← Nat.pow_mul, show 8 * (7 - k) = s by omega]
          generalize hy : m / 2 ^ s = y
          have e : ((m : Nat) : Int) / (2 : Int) ^ s = (y : Int) := by rw [← hy]; push_cast; rfl
          rw [e]
          push_cast
          rfl
        have ip : (1 : Int) + (z : Int) + (k : Int) = (p : Int) := by omega
        have iq : (8 : Int) * (k : Int) = (q : Int) := by omega
        have is : (56 : Int) - (q : Int) = (s : Int) := by omega
        have s64 : s < 64 := by omega
        have q64 : q ≤ 56 := by omega
        have pL : p < L := by omega
        have pLi : (p : Int) < (L : Int) := by omega
        obtain ⟨v1, hv1⟩ := partB_at l p p (by have := HF.out.2.2.2.2.2.2.2.1; omega)
        rw [← hp] at h1
        have c1 := blk_get h1 p _ hv1
        have f1 := h1.frozen p
        have H := Lib.hid (And.intro h1 (And.intro hb (And.intro hp (And.intro hq (And.intro hs hx))))); clear h1 hb hp hq hs hx hv1
        go_wp2
        obtain ⟨h1, hb, hp, hq, hs, hx⟩ := H.out
        go_roundw
        case rel =>
          refine ⟨k + 1, by omega, by go_num, ?_, hb.setCell (by simp) _⟩
          have hset := partB_set l p (by have := HF.out.2.2.2.2.2.2.2.1; omega)
          rw [← hx] at hset
          rw [show 1 + z + (k + 1) = p + 1 by omega, ← hset]
          exact h1.set_ p _
        case measure => simp [intOf]; omega
      · obtain rfl : k = 8 := by omega
        rw [partB_full l (1 + z + 8) (by have := HF.out.2.2.2.2.2.2.2.1; omega)] at h1
        have H := Lib.hid (And.intro h1 hb); clear h1 hb
        go_wp2
        go_ret
        exact ⟨rfl, H.out.2, H.out.1⟩
  · obtain ⟨y, hy⟩ : ∃ y : Int, y = 55 - (r : Int) := ⟨_, rfl⟩
    have e1 : (55 : Int) - (r : Int) = y := by omega
    have e2 : y + 64 = (z : Int) := by omega
    have hy0 : y < 0 := by omega
    have hy1 : -64 < y := by omega
    have G := Lib.hid (And.intro g2 hy); clear g2 hy
    go_enter Tryd.func26, Tryd.ntmps26
    go_wp2
    go_loopw [22] (fun i wr => ∃ k : Nat, k ≤ 8 ∧ i = .int .i64 k ∧ Blk wr w.heap.size 5 (partB l (1 + z + k)) ∧ Below w.heap.size w wr) (fun i _ => 8 - (intOf i).toNat)
    case atStart =>
      refine ⟨0, by omega, rfl, ?_, ba (Below.refl _ _) _⟩
      have hs := partB_set l 0 (by have := HF.out.2.2.2.2.2.2.2.1; omega)
      rw [HF.out.2.2.2.2.1] at hs
      rw [Nat.add_zero, ← HF.out.2.2.2.2.2.1, ← hs]
      exact Blk.new w _ _
    case round =>
      obtain ⟨k, hk, rfl, h1, hb⟩ := hrel
      by_cases hlt : k < 8
      · obtain ⟨p, hp⟩ : ∃ p, p = 1 + z + k := ⟨_, rfl⟩
        obtain ⟨q, hq⟩ : ∃ q, q = 8 * k := ⟨_, rfl⟩
        obtain ⟨s, hs⟩ : ∃ s, s = 56 - q := ⟨_, rfl⟩
        obtain ⟨x, hx⟩ : ∃ x, x = (l.getD p 0).toNat := ⟨_, rfl⟩
        have hv : ((m : Nat) : Int) / (2 : Int) ^ s % (256 : Int) = (x : Int) := by
          have h8 := HF.out.2.2.2.2.2.2.1 k hlt
          rw [← hp, ← hx] at h8
          rw [h8, show (256 : Nat) = 2 ^ 8 from rfl, ← Nat.pow_mul, show 8 * (7 - k) = s by omega]
          generalize hy : m / 2 ^ s = y
          have e : ((m : Nat) : Int) / (2 : Int) ^ s = (y : Int) := by rw [← hy]; push_cast; rfl
          rw [e]
          push_cast
          rfl
        have ip : (1 : Int) + (z : Int) + (k : Int) = (p : Int) := by omega
        have iq : (8 : Int) * (k : Int) = (q : Int) := by omega
        have is : (56 : Int) - (q : Int) = (s : Int) := by omega
        have s64 : s < 64 := by omega
        have q64 : q ≤ 56 := by omega
        have pL : p < L := by omega
        have pLi : (p : Int) < (L : Int) := by omega
        obtain ⟨v1, hv1⟩ := partB_at l p p (by have := HF.out.2.2.2.2.2.2.2.1; omega)
        rw [← hp] at h1
        have c1 := blk_get h1 p _ hv1
        have f1 := h1.frozen p
        have H := Lib.hid (And.intro h1 (And.intro hb (And.intro hp (And.intro hq (And.intro hs hx))))); clear h1 hb hp hq hs hx hv1
        go_wp2
        obtain ⟨h1, hb, hp, hq, hs, hx⟩ := H.out
        go_roundw
        case rel =>
          refine ⟨k + 1, by omega, by go_num, ?_, hb.setCell (by simp) _⟩
          have hset := partB_set l p (by have := HF.out.2.2.2.2.2.2.2.1; omega)
          rw [← hx] at hset
          rw [show 1 + z + (k + 1) = p + 1 by omega, ← hset]
          exact h1.set_ p _
        case measure => simp [intOf]; omega
      · obtain rfl : k = 8 := by omega
        rw [partB_full l (1 + z + 8) (by have := HF.out.2.2.2.2.2.2.2.1; omega)] at h1
        have H := Lib.hid (And.intro h1 hb); clear h1 hb
        go_wp2
        go_ret
        exact ⟨rfl, H.out.2, H.out.1⟩
end Go.Proofs.YtfebknplkbeblaaDoor
