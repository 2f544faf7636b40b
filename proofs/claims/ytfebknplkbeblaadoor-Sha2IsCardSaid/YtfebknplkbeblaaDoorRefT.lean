/- The document's SHA-2: a block's words. -/
import Derived.Test.YtfebknplkbeblaaDoorRefS
namespace Go.Proofs.YtfebknplkbeblaaDoor
open Go.RowKit
set_option linter.unusedVariables false
set_option maxRecDepth 100000 in
set_option maxHeartbeats 1600000 in
theorem rwords_any (g off c : Nat) (b : List UInt8) (w : World) (hr : Rd w g off b) (hg : g < w.heap.size) (hl : b.length = 64) :
    Calls Tryd.prog 64 #[.slice (some ⟨g, off, none⟩) 64 c] w fun e w' => e = .returned (.agg (u32c (wordsOf b))) ∧ Below w.heap.size w w' := by
  have HRd := Lib.hid (And.intro hr hl); clear hr hl
  go_enter Tryd.func64, Tryd.ntmps64
  go_wp2
  go_loopw [4] (fun i wr => ∃ k : Nat, k ≤ 16 ∧ i = .int .i64 k ∧ Blk wr (w.heap.size) 79 (padW 64 []) ∧ Blk wr (w.heap.size + 1) 79 (padW 64 (firstW b k)) ∧ Below w.heap.size w wr) (fun i _ => 16 - (intOf i).toNat)
  case atStart =>
    refine ⟨0, by omega, rfl, ?_, ?_, ?_⟩
    · rw [z64_cells]; exact (Blk.newAt _ _ _ rfl).alloc _
    · rw [show firstW b 0 = [] from rfl, z64_cells]; exact Blk.newAt _ _ _ (by simp)
    · exact ((Below.refl _ _).alloc (Nat.le_refl _) _).alloc (by simp) _
  case round =>
    obtain ⟨k, hk, rfl, h1, h2, hb⟩ := hrel
    by_cases hlt : k < 16
    · have hl := HRd.out.2
      obtain ⟨p0, hp0⟩ : ∃ p, p = 4 * k := ⟨_, rfl⟩
      obtain ⟨p1, hp1⟩ : ∃ p, p = p0 + 1 := ⟨_, rfl⟩
      obtain ⟨p2, hp2⟩ : ∃ p, p = p0 + 2 := ⟨_, rfl⟩
      obtain ⟨p3, hp3⟩ : ∃ p, p = p0 + 3 := ⟨_, rfl⟩
      have c0 := HRd.out.1.at hb hg p0 (by omega)
      have c1 := HRd.out.1.at hb hg p1 (by omega)
      have c2 := HRd.out.1.at hb hg p2 (by omega)
      have c3 := HRd.out.1.at hb hg p3 (by omega)
      obtain ⟨x0, hx0⟩ : ∃ x, x = bw (b.getD p0 0) := ⟨_, rfl⟩
      obtain ⟨x1, hx1⟩ : ∃ x, x = bw (b.getD p1 0) := ⟨_, rfl⟩
      obtain ⟨x2, hx2⟩ : ∃ x, x = bw (b.getD p2 0) := ⟨_, rfl⟩
      obtain ⟨x3, hx3⟩ : ∃ x, x = bw (b.getD p3 0) := ⟨_, rfl⟩
      rw [← wn_bw, ← hx0] at c0
      rw [← wn_bw, ← hx1] at c1
      rw [← wn_bw, ← hx2] at c2
      rw [← wn_bw, ← hx3] at c3
      have b0 : wn x0 < 256 := by rw [hx0, wn_bw]; exact UInt8.toNat_lt _
      have b1 : wn x1 < 256 := by rw [hx1, wn_bw]; exact UInt8.toNat_lt _
      have b2 : wn x2 < 256 := by rw [hx2, wn_bw]; exact UInt8.toNat_lt _
      have b3 : wn x3 < 256 := by rw [hx3, wn_bw]; exact UInt8.toNat_lt _
      obtain ⟨y, hy⟩ : ∃ y, y = fw b k := ⟨_, rfl⟩
      have hyy : x0 <<< 24 ||| x1 <<< 16 ||| x2 <<< 8 ||| x3 = y := by rw [hy, hx0, hx1, hx2, hx3, hp1, hp2, hp3, hp0]; rfl
      have i0 : 4 * (k : Int) = (p0 : Int) := by omega
      have i1 : (p0 : Int) + 1 = (p1 : Int) := by omega
      have i2 : (p0 : Int) + 2 = (p2 : Int) := by omega
      have i3 : (p0 : Int) + 3 = (p3 : Int) := by omega
      have q0 : p0 < 64 := by omega
      have q1 : p1 < 64 := by omega
      have q2 : p2 < 64 := by omega
      have q3 : p3 < 64 := by omega
      have v0 := (shl_small x0 b0).1
      have v1 := (shl_small x1 b1).2.1
      have v2 := (shl_small x2 b2).2.2
      have o1 := bor_wd (x0 <<< 24) (x1 <<< 16)
      have o2 := bor_wd (x0 <<< 24 ||| x1 <<< 16) (x2 <<< 8)
      have o3 := bor_wd (x0 <<< 24 ||| x1 <<< 16 ||| x2 <<< 8) x3
      rw [hyy] at o3
      have hw := firstW_length b k
      obtain ⟨v4, hv4⟩ := padW_some 64 (firstW b k) k (by omega) (by omega)
      have c4 := blk_get h2 k _ hv4
      have f4 := h2.frozen k
      have k64 : (k : Int) < 64 := by omega
      have H := Lib.hid (And.intro h1 (And.intro h2 (And.intro hb (And.intro hy hw)))); clear h1 h2 hb hy hw hyy hx0 hx1 hx2 hx3 hp0 hp1 hp2 hp3 hv4 hl
      go_wp2
      try go_region
      try go_wp2
      obtain ⟨h1, h2, hb, hy, hw⟩ := H.out
      go_roundw
      case rel =>
        refine ⟨k + 1, by omega, by go_num, (by first | exact (h1.far (by omega) _).drew | exact h1.far (by omega) _), ?_, (by first | exact (hb.setCell (by simp) _).drew | exact hb.setCell (by simp) _)⟩
        have hs := padW_set 64 (firstW b k) y (by omega)
        rw [hw] at hs
        rw [firstW_snoc, ← hy, ← hs]
        first | exact (h2.set_ k _).drew | exact h2.set_ k _
      case measure => simp [intOf]; omega
    · obtain rfl : k = 16 := by omega
      clear hlt
      have HB := Lib.hid (And.intro h1 (And.intro h2 hb)); clear h1 h2 hb
      rw [show ((16 : Nat) : Int) = 16 from rfl]
      go_wp2
      go_loopw [5] (fun i wr => ∃ n : Nat, 16 ≤ n ∧ n ≤ 64 ∧ i = .int .i64 n ∧ Blk wr (w.heap.size) 79 (padW 64 []) ∧ Blk wr (w.heap.size + 1) 79 (padW 64 (extW b (n - 16))) ∧ Below w.heap.size w wr) (fun i _ => 64 - (intOf i).toNat)
      case atStart =>
        obtain ⟨h1, h2, hb⟩ := HB.out
        exact ⟨16, by omega, by omega, rfl, h1, h2, hb⟩
      case round =>
        clear HB
        obtain ⟨n, hn16, hn64, rfl, h1, h2, hb⟩ := hrel
        by_cases hlt : n < 64
        · obtain ⟨l, hl⟩ : ∃ l, l = extW b (n - 16) := ⟨_, rfl⟩
          have hln : l.length = n := by rw [hl, extW_length]; omega
          rw [← hl] at h2
          obtain ⟨p, hp⟩ : ∃ p, p = n - 15 := ⟨_, rfl⟩
          obtain ⟨q, hq⟩ : ∃ q, q = n - 2 := ⟨_, rfl⟩
          obtain ⟨r, hr⟩ : ∃ r, r = n - 7 := ⟨_, rfl⟩
          obtain ⟨t, ht⟩ : ∃ t, t = n - 16 := ⟨_, rfl⟩
          obtain ⟨x, hx⟩ : ∃ x, x = l.getD p 0 := ⟨_, rfl⟩
          obtain ⟨y, hy⟩ : ∃ y, y = l.getD q 0 := ⟨_, rfl⟩
          obtain ⟨z, hz⟩ : ∃ z, z = l.getD r 0 := ⟨_, rfl⟩
          obtain ⟨u, hu⟩ : ∃ u, u = l.getD t 0 := ⟨_, rfl⟩
          have cx := blk_get h2 p _ (padW_at 64 l p (by omega))
          have cy := blk_get h2 q _ (padW_at 64 l q (by omega))
          have cz := blk_get h2 r _ (padW_at 64 l r (by omega))
          have cu := blk_get h2 t _ (padW_at 64 l t (by omega))
          rw [← hx] at cx
          rw [← hy] at cy
          rw [← hz] at cz
          rw [← hu] at cu
          have ip : (n : Int) - 15 = (p : Int) := by omega
          have iq : (n : Int) - 2 = (q : Int) := by omega
          have ir : (n : Int) - 7 = (r : Int) := by omega
          have it : (n : Int) - 16 = (t : Int) := by omega
          have p64 : (p : Int) < 64 := by omega
          have q64 : (q : Int) < 64 := by omega
          have r64 : (r : Int) < 64 := by omega
          have t64 : (t : Int) < 64 := by omega
          have n64 : (n : Int) < 64 := by omega
          obtain ⟨v4, hv4⟩ := padW_some 64 l n (by omega) hlt
          have c4 := blk_get h2 n _ hv4
          have f4 := h2.frozen n
          obtain ⟨e0, he0⟩ : ∃ e, e = s0w x := ⟨_, rfl⟩
          obtain ⟨e1, he1⟩ : ∃ e, e = s1w y := ⟨_, rfl⟩
          have a1 := bxor_wd (rr x 7) (rr x 18)
          have a2 := bxor_wd (rr x 7 ^^^ rr x 18) (x >>> 3)
          have a3 : ((wn x : Nat) : Int) / (8 : Int) = ((wn (x >>> 3) : Nat) : Int) := shr_wd x 3
          have a4 : rr x 7 ^^^ rr x 18 ^^^ x >>> 3 = e0 := he0.symm
          rw [a4] at a2
          have d1 := bxor_wd (rr y 17) (rr y 19)
          have d2 := bxor_wd (rr y 17 ^^^ rr y 19) (y >>> 10)
          have d3 : ((wn y : Nat) : Int) / (1024 : Int) = ((wn (y >>> 10) : Nat) : Int) := shr_wd y 10
          have d4 : rr y 17 ^^^ rr y 19 ^^^ y >>> 10 = e1 := he1.symm
          rw [d4] at d2
          have H := Lib.hid (And.intro h1 (And.intro h2 (And.intro hb (And.intro hl (And.intro hln (And.intro he0 (And.intro he1 (And.intro hx (And.intro hy (And.intro hz (And.intro hu (And.intro hp (And.intro hq (And.intro hr ht))))))))))))))
          clear h1 h2 hb hl hln he0 he1 hx hy hz hu hp hq hr ht a4 d4 hv4
          go_wp2_with (go_at_call 65; (first | (with_reducible refine (rturn_is x 7 7 rfl (by decide) (by decide) _).mono ?_) | (with_reducible refine (rturn_is x 18 18 rfl (by decide) (by decide) _).mono ?_) | (with_reducible refine (rturn_is y 17 17 rfl (by decide) (by decide) _).mono ?_) | (with_reducible refine (rturn_is y 19 19 rfl (by decide) (by decide) _).mono ?_)); rintro e w' ⟨rfl, rfl⟩)
          go_region
          go_wp2
          obtain ⟨h1, h2, hb, hl, hln, he0, he1, hx, hy, hz, hu, hp, hq, hr, ht⟩ := H.out
          go_roundw
          case rel =>
            refine ⟨n + 1, by omega, by omega, by go_num, (h1.far (by omega) _).drew, ?_, (hb.setCell (by simp) _).drew⟩
            have hs := padW_set 64 l (e1 + z + e0 + u) (by omega)
            have hnx : nextW l = e1 + z + e0 + u := by
              unfold nextW
              rw [hln, ← hp, ← hq, ← hr, ← ht, ← hx, ← hy, ← hz, ← hu, ← he0, ← he1]
            rw [hln] at hs
            have hext : extW b (n + 1 - 16) = l ++ [e1 + z + e0 + u] := by
              rw [show n + 1 - 16 = (n - 16) + 1 by omega, extW, ← hl, hnx]
            rw [hext, ← hs]
            rw [add4_wd]
            exact (h2.set_ n _).drew
          case measure => simp [intOf]; omega
        · obtain rfl : n = 64 := by omega
          have hfull : padW 64 (extW b 48) = u32c (wordsOf b) := padW_full 64 _ (extW_length b 48)
          rw [show 64 - 16 = 48 from rfl, hfull] at h2
          have hz : (padW 64 []).size = 64 := padW_size 64 [] (by simp)
          have hlen : (wordsOf b).length = 64 := extW_length b 48
          obtain ⟨ws, hws⟩ : ∃ ws, ws = wordsOf b := ⟨_, rfl⟩
          rw [← hws] at h2 hlen
          have HW := Lib.hid hws; clear hws
          have s2 : (u32c ws).size = 64 := by rw [u32c_size, hlen]
          have i2 := is64 (u32c ws) s2
          have s0 : (padW 64 []).size = (u32c ws).size := by rw [hz, s2]
          have a2 := u32c_one ws
          have H := Lib.hid (And.intro h1 (And.intro h2 hb)); clear h1 h2 hb hfull hz hlen s2
          go_wp2_with (first | with_reducible refine wl_row H.out.2.1 _ _ rfl rfl rfl _ _ Tryd.underlying79 i2 ?_ | with_reducible refine ws_row H.out.1 _ _ _ _ rfl rfl rfl rfl i2 s0 a2 ?_)
          obtain ⟨h1, h2, hb⟩ := H.out
          refine bodyPost_ret (v := .agg (u32c ws)) ?_ rfl ⟨by rw [HW.out], setRow_below hb (by omega) _⟩
          exact results_row rfl _ _ _ _ _ rfl (h1.row _) Tryd.underlying79 i2
end Go.Proofs.YtfebknplkbeblaaDoor
