/- What the document's Pad, Sane come to. -/
import Derived.Test.YtfebknplkbeblaaDoorApp1
namespace Go.Proofs.YtfebknplkbeblaaDoor
open Go.RowKit
set_option linter.unusedVariables false
def padP (j : Nat) : List UInt8 := 128 :: List.replicate j 0
theorem padP_snoc (j : Nat) : padP j ++ [0] = padP (j + 1) := by
  unfold padP
  rw [List.cons_append, List.replicate_succ']
def padQ (n k : Nat) : List UInt8 := padP (zerosOf n) ++ (byB (n * 8 % W64) 8).take k
theorem padQ_zero (n : Nat) : padQ n 0 = padP (zerosOf n) := by unfold padQ; rw [List.take_zero, List.append_nil]
theorem padQ_full (n : Nat) : padQ n 8 = padOf n := by
  unfold padQ padP padOf
  rw [List.take_of_length_le (by rw [byB_length]; omega), List.cons_append]
theorem padQ_snoc (n k : Nat) (h : k < 8) : padQ n k ++ [UInt8.ofNat (n * 8 % W64 / 256 ^ (7 - k) % 256)] = padQ n (k + 1) := by
  unfold padQ
  have hb := byB_at (n * 8 % W64) 8 k h
  rw [show 8 - 1 - k = 7 - k by omega] at hb
  have hl := byB_length (n * 8 % W64) 8
  rw [List.take_add_one, ← List.append_assoc, ← hb]
  congr 1
  rw [List.getElem?_eq_getElem (by omega)]
  simp [List.getD, List.getElem?_eq_getElem (show k < (byB (n * 8 % W64) 8).length by omega)]
set_option maxRecDepth 100000 in
set_option maxHeartbeats 1000000 in
theorem RPad_any (n : Nat) (hn : n < W64) (w : World) :
    Calls Tryd.prog 35 #[.int .u64 n] w fun e w' => ∃ v, e = .returned v ∧ Below w.heap.size w w' ∧ ∃ (a : Option Addr) (c : Nat), v = .slice a (padOf n).length c ∧ RdS w' a (padOf n) ∧ (padOf n).length ≤ c ∧ c ≤ maxLen ∧ (a = none → (padOf n).length = 0 ∧ c = 0) := by
  obtain ⟨z, hz⟩ : ∃ z, z = zerosOf n := ⟨_, rfl⟩
  obtain ⟨r, hr⟩ : ∃ r, r = n % 64 := ⟨_, rfl⟩
  have hri : (n : Int) % 64 = (r : Int) := by omega
  have hr64 : r < 64 := by omega
  have hz64 : z < 64 := by rw [hz]; unfold zerosOf; split <;> omega
  have hzr : r + z = 55 ∨ r + z = 119 := by rw [hz, hr]; unfold zerosOf; split <;> omega
  have hzr' : (r ≤ 55 ∧ r + z = 55) ∨ (55 < r ∧ r + z = 119) := by rw [hz, hr]; unfold zerosOf; split <;> omega
  obtain ⟨m, hm⟩ : ∃ m, m = n * 8 % W64 := ⟨_, rfl⟩
  have hmW : m < 18446744073709551616 := by rw [hm]; exact Nat.mod_lt _ W64_pos
  have hmi : IntKind.u64.wrap ((n : Int) * 8) = (m : Int) := by
    rw [hm, IntKind.wrap_u64]
    unfold W64
    omega
  have hmi' : ((n : Int) * 8) % 18446744073709551616 = (m : Int) := by
    rw [hm]
    unfold W64
    omega
  have F := Lib.hid (And.intro hz (And.intro hr (And.intro hm (And.intro hn (And.intro hzr hzr'))))); clear hz hr hm hn hzr hzr'
  obtain ⟨i0, hi, hz0, hz1, hz2⟩ := info_parts (show (Tryd.prog.info? 5).map (fun i => (i.zero, i.size, i.bytes)) = some (some (.int .u8 0), 1, 1) by kernel_rfl)
  have I := Lib.hid (And.intro hi (And.intro hz0 (And.intro hz1 hz2))); clear hi hz0 hz1 hz2
  go_enter Tryd.func35, Tryd.ntmps35
  go_wp2
  go_loopw [3] (fun v wr => ∃ j : Nat, j ≤ z ∧ wr.ownsRow w.heap.size 5 1 v (j + 1) ((padP j).map fun c => Value.int .u8 (c.toNat : Int)) ∧ Below w.heap.size w wr) (fun v _ => 64 - lenS v)
  case atStart =>
    exact ⟨0, by omega, own_laid w [128] 5 1 rfl (by unfold maxLen; omega) (Nat.le_refl _), ba (Below.refl _ _) _⟩
  case round =>
    obtain ⟨j, hj, ho, hb⟩ := hrel
    obtain ⟨va, vc, rfl⟩ := own_slice ho
    obtain ⟨p, hp⟩ : ∃ p, p = j + 1 := ⟨_, rfl⟩
    rw [← hp] at ho ⊢
    obtain ⟨s, hs⟩ : ∃ s, s = r + p := ⟨_, rfl⟩
    obtain ⟨t, ht⟩ : ∃ t, t = s + 8 := ⟨_, rfl⟩
    have e1 : IntKind.u64.wrap (p : Int) = (p : Int) := by rw [IntKind.wrap_u64]; omega
    have e2 : (r : Int) + (p : Int) = (s : Int) := by omega
    have e3 : IntKind.u64.wrap (s : Int) = (s : Int) := by rw [IntKind.wrap_u64]; omega
    have e4 : (s : Int) + 8 = (t : Int) := by omega
    have e5 : IntKind.u64.wrap (t : Int) = (t : Int) := by rw [IntKind.wrap_u64]; omega
    by_cases hlt : j < z
    · have hne : ¬ (t : Int) % 64 = 0 := by have := F.out.2.2.2.2.2; omega
      have hpb : p ≤ 64 := by omega
      have H := Lib.hid (And.intro ho (And.intro hb (And.intro hp (And.intro hs (And.intro ht hj))))); clear ho hb hj hp hs ht
      go_wp2_with (at_builtin; refine wl_one (H.out.1.alloc _) rfl _ _ 26 rfl Tryd.underlying26 i0 I.out.1 I.out.2.1 I.out.2.2.1 I.out.2.2.2 rfl wr.heap.size 1 0 rfl (by rw [(Blk.new wr _ _).cell]; rfl) (by omega) (by have := H.out.2.1.size; simp; omega) ?_)
      intro v' w2 ho hg hnil
      have BB := below_grown (ba H.out.2.1 (.cells #[.int .u8 0] 5)) hg (by have := H.out.2.1.size; simp; omega) (by intro k hk; exact (H.out.1.lt _ hk).1)
      have G := Lib.hid (And.intro ho BB); clear ho BB hg hnil
      go_wp2
      go_roundw
      case rel =>
        have hp := H.out.2.2.1
        refine ⟨j + 1, by omega, ?_, G.out.2⟩
        rw [← padP_snoc, ← hp, List.map_append]
        exact G.out.1
      case measure =>
        obtain ⟨a', c', rfl⟩ := own_slice G.out.1
        have hp := H.out.2.2.1
        simp [lenS]; omega
    · obtain rfl : j = z := by omega
      have hne : (t : Int) % 64 = 0 := by have := F.out.2.2.2.2.2; omega
      have H := Lib.hid (And.intro ho (And.intro hb (And.intro hp (And.intro hs ht)))); clear ho hb hj hlt hp hs ht
      go_wp2
      try simp only [hri, hne]
      go_loopw [3, 5] (fun v i wr => ∃ k : Nat, k ≤ 8 ∧ i = .int .i64 ((k : Int) - 1) ∧ ∃ d : Nat, d = 8 - k ∧ ∃ q : Nat, q = p + d ∧ wr.ownsRow w.heap.size 5 1 v q ((padQ n d).map fun c => Value.int .u8 (c.toNat : Int)) ∧ Below w.heap.size w wr) (fun v i _ => (intOf i + 1).toNat)
      case atStart =>
        refine ⟨8, by omega, rfl, 0, rfl, p, rfl, ?_, H.out.2.1⟩
        rw [padQ_zero, ← F.out.1]
        exact H.out.1
      case round =>
        obtain ⟨k, hk, rfl, d, hd, q, hq, ho, hb⟩ := hrel
        obtain ⟨va, vc, rfl⟩ := own_slice ho
        by_cases hk0 : k = 0
        · subst hk0
          obtain rfl : d = 8 := by omega
          have L := Lib.hid (And.intro ho (And.intro hb hq)); clear ho hb hq
          rw [show ((0 : Nat) : Int) - 1 = -1 from rfl]
          go_wp2
          obtain ⟨ho, hb, hq⟩ := L.out
          rw [padQ_full] at ho
          obtain ⟨a, c, he, hl, h1, h2, h3, h4⟩ := own_rds ho
          injection he with he1 _ he2
          subst he1 he2
          go_ret
          exact ⟨.slice va q vc, rfl, hb, va, vc, by rw [hl], h1, by rw [hl]; exact h2, h3, fun h => ⟨List.length_eq_zero_iff.1 (by rw [hl]; exact (h4 h).1), (h4 h).2⟩⟩
        · obtain ⟨s', rfl⟩ : ∃ s', k = s' + 1 := ⟨k - 1, by omega⟩
          have es : ((s' + 1 : Nat) : Int) - 1 = (s' : Int) := by omega
          rw [es]
          obtain ⟨y, hy⟩ : ∃ y, y = 8 * s' := ⟨_, rfl⟩
          have ey : (8 : Int) * (s' : Int) = (y : Int) := by omega
          have ey2 : IntKind.u64.wrap (y : Int) = (y : Int) := by rw [IntKind.wrap_u64]; omega
          have y64 : y < 64 := by omega
          obtain ⟨x, hx⟩ : ∃ x, x = UInt8.ofNat (m / 256 ^ s' % 256) := ⟨_, rfl⟩
          have hv : ((m : Nat) : Int) / (2 : Int) ^ y % (256 : Int) = ((x.toNat : Nat) : Int) := by
            have h8 : x.toNat = m / 256 ^ s' % 256 := by rw [hx]; simp
            rw [h8, show (256 : Nat) = 2 ^ 8 from rfl, ← Nat.pow_mul, ← hy]
            generalize hyy : m / 2 ^ y = yy
            have e : ((m : Nat) : Int) / (2 : Int) ^ y = (yy : Int) := by rw [← hyy]; push_cast; rfl
            rw [e]
            push_cast
            rfl
          have hs0 : (0 : Int) ≤ (s' : Int) := by omega
          have L := Lib.hid (And.intro ho (And.intro hb (And.intro hq (And.intro hy (And.intro hx (And.intro hd hk)))))); clear ho hb hy hx hk hq hd hk0 es
          go_wp2_with (at_builtin; refine wl_one (L.out.1.alloc _) rfl _ _ 26 rfl Tryd.underlying26 i0 I.out.1 I.out.2.1 I.out.2.2.1 I.out.2.2.2 rfl wr.heap.size 1 x rfl (by rw [(Blk.new wr _ _).cell]; rfl) (by have := L.out.2.2.1; have := L.out.2.2.2.2.2.1; have := H.out.2.2.1; omega) (by have := L.out.2.1.size; simp; omega) ?_)
          intro v' w2 ho hg hnil
          have BB := below_grown (ba L.out.2.1 (.cells #[.int .u8 x.toNat] 5)) hg (by have := L.out.2.1.size; simp; omega) (by intro k hk; exact (L.out.1.lt _ hk).1)
          have G := Lib.hid (And.intro ho BB); clear ho BB hg hnil
          go_wp2
          go_roundw
          case rel =>
            have hd := L.out.2.2.2.2.2.1
            have hk := L.out.2.2.2.2.2.2
            have hq := L.out.2.2.1
            refine ⟨s', by omega, by go_num, d + 1, by omega, q + 1, by omega, ?_, G.out.2⟩
            have hdd : 7 - d = s' := by omega
            rw [← padQ_snoc n d (by omega), hdd, ← F.out.2.2.1, ← L.out.2.2.2.2.1, List.map_append]
            exact G.out.1
          case measure => simp [intOf]; try omega
set_option maxHeartbeats 400000 in
theorem RSane_any (H : List Wd) (hH : H.length = 8) (a : Option Addr) (len c n : Nat) (hn : n < W64) (hlen : len ≤ 9223372036854775807) (b : Bool) (hb : decide (len = n % 64) = b) (w : World) :
    Calls Tryd.prog 36 #[.agg (stC H (.slice a len c) n)] w fun e w' => e = .returned (.bool b) ∧ Below w.heap.size w w' := by
  obtain ⟨x0, x1, x2, x3, x4, x5, x6, x7, rfl⟩ := eight H hH
  rw [stC_lit]
  have hn' : n < 18446744073709551616 := hn
  have hb' : ((len : Int) == ((n : Int) % 64)) = b := by
    rw [← hb, Bool.eq_iff_iff]
    simp
    omega
  have HB := Lib.hid (And.intro hb hn); clear hb hn hH
  go_enter Tryd.func36, Tryd.ntmps36
  go_wp2
  go_ret
  exact ⟨rfl, (Below.refl _ _).alloc (Nat.le_refl _) _⟩
end Go.Proofs.YtfebknplkbeblaaDoor
