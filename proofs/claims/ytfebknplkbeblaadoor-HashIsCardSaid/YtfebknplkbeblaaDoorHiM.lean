/- The document's SHA-2: a block's words. The document's SHA-2: a block that is none. The document's Start, Constant, Initial; Sha2Start: its walk. What the document's Block comes to, of a whole block. What the document's Pad, Sane come to. -/
import Derived.Test.YtfebknplkbeblaaDoorHiL
import Derived.Test.YtfebknplkbeblaaDoorHiD
import Derived.Test.YtfebknplkbeblaaDoorHiK
import Derived.Test.YtfebknplkbeblaaDoorHiE
import Derived.Test.YtfebknplkbeblaaDoorHiH
namespace Go.Proofs.YtfebknplkbeblaaDoor
open Go.RowKit
set_option linter.unusedVariables false
set_option maxRecDepth 100000 in
set_option maxHeartbeats 1600000 in
theorem rwords_any (g off c : Nat) (b : List UInt8) (w : World) (hr : Rd w g off b) (hg : g < w.heap.size) (hl : b.length = 64) :
    Calls Tryd.prog 64 #[.slice (some ⟨g, off, none⟩) 64 c] w fun e w' => e = .returned (.agg (u32c (wordsOf b))) ∧ Below w.heap.size w w' := by
  have HRd := Lib.hid (And.intro hr hl); clear hr hl
  go_enter Tryd.func64, Tryd.ntmps64
  go_wp2
  go_loopw [4] (fun i wr => ∃ k : Nat, k ≤ 16 ∧ i = .int .i64 k ∧ Blk wr (w.heap.size) 79 (padW 64 []) ∧ Blk wr (w.heap.size + 1) 79 (padW 64 (firstW b k)) ∧ Below w.heap.size w wr) (fun i _ => 16 - (intOf i).toNat)
  case atStart =>
    refine ⟨0, by omega, rfl, ?_, ?_, ?_⟩
    · rw [z64_cells]; exact (Blk.newAt _ _ _ rfl).alloc _
    · rw [show firstW b 0 = [] from rfl, z64_cells]; exact Blk.newAt _ _ _ (by simp)
    · exact ((Below.refl _ _).alloc (Nat.le_refl _) _).alloc (by simp) _
  case round =>
    obtain ⟨k, hk, rfl, h1, h2, hb⟩ := hrel
    by_cases hlt : k < 16
    · have hl := HRd.out.2
      obtain ⟨p0, hp0⟩ : ∃ p, p = 4 * k := ⟨_, rfl⟩
      obtain ⟨p1, hp1⟩ : ∃ p, p = p0 + 1 := ⟨_, rfl⟩
      obtain ⟨p2, hp2⟩ : ∃ p, p = p0 + 2 := ⟨_, rfl⟩
      obtain ⟨p3, hp3⟩ : ∃ p, p = p0 + 3 := ⟨_, rfl⟩
      have c0 := HRd.out.1.at hb hg p0 (by omega)
      have c1 := HRd.out.1.at hb hg p1 (by omega)
      have c2 := HRd.out.1.at hb hg p2 (by omega)
      have c3 := HRd.out.1.at hb hg p3 (by omega)
      obtain ⟨x0, hx0⟩ : ∃ x, x = bw (b.getD p0 0) := ⟨_, rfl⟩
      obtain ⟨x1, hx1⟩ : ∃ x, x = bw (b.getD p1 0) := ⟨_, rfl⟩
      obtain ⟨x2, hx2⟩ : ∃ x, x = bw (b.getD p2 0) := ⟨_, rfl⟩
      obtain ⟨x3, hx3⟩ : ∃ x, x = bw (b.getD p3 0) := ⟨_, rfl⟩
      rw [← wn_bw, ← hx0] at c0
      rw [← wn_bw, ← hx1] at c1
      rw [← wn_bw, ← hx2] at c2
      rw [← wn_bw, ← hx3] at c3
      have b0 : wn x0 < 256 := by rw [hx0, wn_bw]; exact UInt8.toNat_lt _
      have b1 : wn x1 < 256 := by rw [hx1, wn_bw]; exact UInt8.toNat_lt _
      have b2 : wn x2 < 256 := by rw [hx2, wn_bw]; exact UInt8.toNat_lt _
      have b3 : wn x3 < 256 := by rw [hx3, wn_bw]; exact UInt8.toNat_lt _
      obtain ⟨y, hy⟩ : ∃ y, y = fw b k := ⟨_, rfl⟩
      have hyy : x0 <<< 24 ||| x1 <<< 16 ||| x2 <<< 8 ||| x3 = y := by rw [hy, hx0, hx1, hx2, hx3, hp1, hp2, hp3, hp0]; rfl
      have i0 : 4 * (k : Int) = (p0 : Int) := by omega
      have i1 : (p0 : Int) + 1 = (p1 : Int) := by omega
      have i2 : (p0 : Int) + 2 = (p2 : Int) := by omega
      have i3 : (p0 : Int) + 3 = (p3 : Int) := by omega
      have q0 : p0 < 64 := by omega
      have q1 : p1 < 64 := by omega
      have q2 : p2 < 64 := by omega
      have q3 : p3 < 64 := by omega
      have v0 := (shl_small x0 b0).1
      have v1 := (shl_small x1 b1).2.1
      have v2 := (shl_small x2 b2).2.2
      have o1 := bor_wd (x0 <<< 24) (x1 <<< 16)
      have o2 := bor_wd (x0 <<< 24 ||| x1 <<< 16) (x2 <<< 8)
      have o3 := bor_wd (x0 <<< 24 ||| x1 <<< 16 ||| x2 <<< 8) x3
      rw [hyy] at o3
      have hw := firstW_length b k
      obtain ⟨v4, hv4⟩ := padW_some 64 (firstW b k) k (by omega) (by omega)
      have c4 := blk_get h2 k _ hv4
      have f4 := h2.frozen k
      have k64 : (k : Int) < 64 := by omega
      have H := Lib.hid (And.intro h1 (And.intro h2 (And.intro hb (And.intro hy hw)))); clear h1 h2 hb hy hw hyy hx0 hx1 hx2 hx3 hp0 hp1 hp2 hp3 hv4 hl
      go_wp2
      try go_region
      try go_wp2
      obtain ⟨h1, h2, hb, hy, hw⟩ := H.out
      go_roundw
      case rel =>
        refine ⟨k + 1, by omega, by go_num, (by first | exact (h1.far (by omega) _).drew | exact h1.far (by omega) _), ?_, (by first | exact (hb.setCell (by simp) _).drew | exact hb.setCell (by simp) _)⟩
        have hs := padW_set 64 (firstW b k) y (by omega)
        rw [hw] at hs
        rw [firstW_snoc, ← hy, ← hs]
        first | exact (h2.set_ k _).drew | exact h2.set_ k _
      case measure => simp [intOf]; omega
    · obtain rfl : k = 16 := by omega
      clear hlt
      have HB := Lib.hid (And.intro h1 (And.intro h2 hb)); clear h1 h2 hb
      rw [show ((16 : Nat) : Int) = 16 from rfl]
      go_wp2
      go_loopw [5] (fun i wr => ∃ n : Nat, 16 ≤ n ∧ n ≤ 64 ∧ i = .int .i64 n ∧ Blk wr (w.heap.size) 79 (padW 64 []) ∧ Blk wr (w.heap.size + 1) 79 (padW 64 (extW b (n - 16))) ∧ Below w.heap.size w wr) (fun i _ => 64 - (intOf i).toNat)
      case atStart =>
        obtain ⟨h1, h2, hb⟩ := HB.out
        exact ⟨16, by omega, by omega, rfl, h1, h2, hb⟩
      case round =>
        clear HB
        obtain ⟨n, hn16, hn64, rfl, h1, h2, hb⟩ := hrel
        by_cases hlt : n < 64
        · obtain ⟨l, hl⟩ : ∃ l, l = extW b (n - 16) := ⟨_, rfl⟩
          have hln : l.length = n := by rw [hl, extW_length]; omega
          rw [← hl] at h2
          obtain ⟨p, hp⟩ : ∃ p, p = n - 15 := ⟨_, rfl⟩
          obtain ⟨q, hq⟩ : ∃ q, q = n - 2 := ⟨_, rfl⟩
          obtain ⟨r, hr⟩ : ∃ r, r = n - 7 := ⟨_, rfl⟩
          obtain ⟨t, ht⟩ : ∃ t, t = n - 16 := ⟨_, rfl⟩
          obtain ⟨x, hx⟩ : ∃ x, x = l.getD p 0 := ⟨_, rfl⟩
          obtain ⟨y, hy⟩ : ∃ y, y = l.getD q 0 := ⟨_, rfl⟩
          obtain ⟨z, hz⟩ : ∃ z, z = l.getD r 0 := ⟨_, rfl⟩
          obtain ⟨u, hu⟩ : ∃ u, u = l.getD t 0 := ⟨_, rfl⟩
          have cx := blk_get h2 p _ (padW_at 64 l p (by omega))
          have cy := blk_get h2 q _ (padW_at 64 l q (by omega))
          have cz := blk_get h2 r _ (padW_at 64 l r (by omega))
          have cu := blk_get h2 t _ (padW_at 64 l t (by omega))
          rw [← hx] at cx
          rw [← hy] at cy
          rw [← hz] at cz
          rw [← hu] at cu
          have ip : (n : Int) - 15 = (p : Int) := by omega
          have iq : (n : Int) - 2 = (q : Int) := by omega
          have ir : (n : Int) - 7 = (r : Int) := by omega
          have it : (n : Int) - 16 = (t : Int) := by omega
          have p64 : (p : Int) < 64 := by omega
          have q64 : (q : Int) < 64 := by omega
          have r64 : (r : Int) < 64 := by omega
          have t64 : (t : Int) < 64 := by omega
          have n64 : (n : Int) < 64 := by omega
          obtain ⟨v4, hv4⟩ := padW_some 64 l n (by omega) hlt
          have c4 := blk_get h2 n _ hv4
          have f4 := h2.frozen n
          obtain ⟨e0, he0⟩ : ∃ e, e = s0w x := ⟨_, rfl⟩
          obtain ⟨e1, he1⟩ : ∃ e, e = s1w y := ⟨_, rfl⟩
          have a1 := bxor_wd (rr x 7) (rr x 18)
          have a2 := bxor_wd (rr x 7 ^^^ rr x 18) (x >>> 3)
          have a3 : ((wn x : Nat) : Int) / (8 : Int) = ((wn (x >>> 3) : Nat) : Int) := shr_wd x 3
          have a4 : rr x 7 ^^^ rr x 18 ^^^ x >>> 3 = e0 := he0.symm
          rw [a4] at a2
          have d1 := bxor_wd (rr y 17) (rr y 19)
          have d2 := bxor_wd (rr y 17 ^^^ rr y 19) (y >>> 10)
          have d3 : ((wn y : Nat) : Int) / (1024 : Int) = ((wn (y >>> 10) : Nat) : Int) := shr_wd y 10
          have d4 : rr y 17 ^^^ rr y 19 ^^^ y >>> 10 = e1 := he1.symm
          rw [d4] at d2
          have H := Lib.hid (And.intro h1 (And.intro h2 (And.intro hb (And.intro hl (And.intro hln (And.intro he0 (And.intro he1 (And.intro hx (And.intro hy (And.intro hz (And.intro hu (And.intro hp (And.intro hq (And.intro hr ht))))))))))))))
          clear h1 h2 hb hl hln he0 he1 hx hy hz hu hp hq hr ht a4 d4 hv4
          go_wp2_with (go_at_call 65; (first | (with_reducible refine (rturn_is x 7 7 rfl (by decide) (by decide) _).mono ?_) | (with_reducible refine (rturn_is x 18 18 rfl (by decide) (by decide) _).mono ?_) | (with_reducible refine (rturn_is y 17 17 rfl (by decide) (by decide) _).mono ?_) | (with_reducible refine (rturn_is y 19 19 rfl (by decide) (by decide) _).mono ?_)); rintro e w' ⟨rfl, rfl⟩)
          go_region
          go_wp2
          obtain ⟨h1, h2, hb, hl, hln, he0, he1, hx, hy, hz, hu, hp, hq, hr, ht⟩ := H.out
          go_roundw
          case rel =>
            refine ⟨n + 1, by omega, by omega, by go_num, (h1.far (by omega) _).drew, ?_, (hb.setCell (by simp) _).drew⟩
            have hs := padW_set 64 l (e1 + z + e0 + u) (by omega)
            have hnx : nextW l = e1 + z + e0 + u := by
              unfold nextW
              rw [hln, ← hp, ← hq, ← hr, ← ht, ← hx, ← hy, ← hz, ← hu, ← he0, ← he1]
            rw [hln] at hs
            have hext : extW b (n + 1 - 16) = l ++ [e1 + z + e0 + u] := by
              rw [show n + 1 - 16 = (n - 16) + 1 by omega, extW, ← hl, hnx]
            rw [hext, ← hs]
            rw [add4_wd]
            exact (h2.set_ n _).drew
          case measure => simp [intOf]; omega
        · obtain rfl : n = 64 := by omega
          have hfull : padW 64 (extW b 48) = u32c (wordsOf b) := padW_full 64 _ (extW_length b 48)
          rw [show 64 - 16 = 48 from rfl, hfull] at h2
          have hz : (padW 64 []).size = 64 := padW_size 64 [] (by simp)
          have hlen : (wordsOf b).length = 64 := extW_length b 48
          obtain ⟨ws, hws⟩ : ∃ ws, ws = wordsOf b := ⟨_, rfl⟩
          rw [← hws] at h2 hlen
          have HW := Lib.hid hws; clear hws
          have s2 : (u32c ws).size = 64 := by rw [u32c_size, hlen]
          have i2 := is64 (u32c ws) s2
          have s0 : (padW 64 []).size = (u32c ws).size := by rw [hz, s2]
          have a2 := u32c_one ws
          have H := Lib.hid (And.intro h1 (And.intro h2 hb)); clear h1 h2 hb hfull hz hlen s2
          go_wp2_with (first | with_reducible refine wl_row H.out.2.1 _ _ rfl rfl rfl _ _ Tryd.underlying79 i2 ?_ | with_reducible refine ws_row H.out.1 _ _ _ _ rfl rfl rfl rfl i2 s0 a2 ?_)
          obtain ⟨h1, h2, hb⟩ := H.out
          refine bodyPost_ret (v := .agg (u32c ws)) ?_ rfl ⟨by rw [HW.out], setRow_below hb (by omega) _⟩
          exact results_row rfl _ _ _ _ _ rfl (h1.row _) Tryd.underlying79 i2
end Go.Proofs.YtfebknplkbeblaaDoor

namespace Go.Proofs.YtfebknplkbeblaaDoor
open Go.RowKit
set_option linter.unusedVariables false
set_option maxRecDepth 100000 in
set_option maxHeartbeats 400000 in
theorem RBlock_short (h : List Wd) (hh : h.length = 8) (a : Option Addr) (n c : Nat) (hn : n ≠ 64) (hn2 : n ≤ 9223372036854775807) (w : World) :
    Calls Tryd.prog 34 #[.agg (u32c h), .slice a n c] w fun e w' => e = .returned (.agg (u32c h)) ∧ Below w.heap.size w w' := by
  have hne : ((n : Int) != 64) = true := by simp; omega
  have s2 : (u32c h).size = 8 := by rw [u32c_size, hh]
  have i2 := is8 (u32c h) s2
  have s0 : (padW 8 []).size = (u32c h).size := by rw [s2]; exact padW_size 8 [] (by simp)
  rw [z8_cells] at s0
  have a2 := u32c_one h
  have HL := Lib.hid hh; clear hh hn s2
  go_enter Tryd.func34, Tryd.ntmps34
  go_wp2_with (first | with_reducible refine wl_row ((Blk.newAt w _ (u32c h) rfl).alloc _) _ _ rfl rfl rfl _ _ Tryd.underlying25 i2 ?_ | with_reducible refine ws_row (Blk.second w _ _ _) _ _ _ _ rfl rfl rfl rfl i2 s0 a2 ?_)
  refine bodyPost_ret (v := .agg (u32c h)) ?_ rfl ⟨rfl, setRow_below (((Below.refl _ _).alloc (Nat.le_refl _) _).alloc (by simp) _) (by omega) _⟩
  exact results_row rfl _ _ _ _ _ rfl ((Blk.second w _ _ _).row _) Tryd.underlying25 i2
end Go.Proofs.YtfebknplkbeblaaDoor

namespace Go.Proofs.YtfebknplkbeblaaDoor
open Go.RowKit
set_option linter.unusedVariables false
def cV (i : Int) : Nat := if 0 ≤ i ∧ i ≤ 63 then wn (KC.getD i.toNat 0) else 0
def iV (i : Int) : Nat := if 0 ≤ i ∧ i ≤ 7 then wn (HI.getD i.toNat 0) else 0
theorem Constant_all (i : Int) (w : World) (hL : Laid w) : Calls Tryd.prog 18 #[.int .i64 i] w fun e w' => e = .returned (.int .u32 (cV i)) ∧ Below w.heap.size w w' := by
  by_cases h : 0 ≤ i ∧ i ≤ 63
  · obtain ⟨k, rfl⟩ : ∃ k : Nat, i = k := ⟨i.toNat, by omega⟩
    have e : cV (k : Int) = wn (KC.getD k 0) := by unfold cV; rw [if_pos h, Int.toNat_natCast]
    rw [e]
    exact (Constant_any k (by omega) _ rfl w hL).mono fun _ _ ⟨h1, h2⟩ => ⟨h1, h2 ▸ Below.refl _ _⟩
  · have e : cV i = 0 := by unfold cV; rw [if_neg h]
    rw [e]
    exact (Constant_no i (by omega) w).mono fun _ _ ⟨h1, h2⟩ => ⟨h1, h2 ▸ Below.refl _ _⟩
theorem Initial_all (i : Int) (w : World) (hL : Laid w) : Calls Tryd.prog 20 #[.int .i64 i] w fun e w' => e = .returned (.int .u32 (iV i)) ∧ Below w.heap.size w w' := by
  by_cases h : 0 ≤ i ∧ i ≤ 7
  · obtain ⟨k, rfl⟩ : ∃ k : Nat, i = k := ⟨i.toNat, by omega⟩
    have e : iV (k : Int) = wn (HI.getD k 0) := by unfold iV; rw [if_pos h, Int.toNat_natCast]
    rw [e]
    exact (Initial_any k (by omega) _ rfl w hL).mono fun _ _ ⟨h1, h2⟩ => ⟨h1, h2 ▸ Below.refl _ _⟩
  · have e : iV i = 0 := by unfold iV; rw [if_neg h]
    rw [e]
    exact (Initial_no i (by omega) w).mono fun _ _ ⟨h1, h2⟩ => ⟨h1, h2 ▸ Below.refl _ _⟩
set_option maxRecDepth 100000 in
theorem RInitial_in (k : Nat) (hk : k < 8) (w : World) : Calls Tryd.prog 21 #[.int .i64 k] w fun e w' => e = .returned (.int .u32 (wn (HI.getD k 0))) ∧ Below w.heap.size w w' := by
  rcases (show k = 0 ∨ k = 1 ∨ k = 2 ∨ k = 3 ∨ k = 4 ∨ k = 5 ∨ k = 6 ∨ k = 7 from by omega) with rfl | rfl | rfl | rfl | rfl | rfl | rfl | rfl
  all_goals
    go_enter Tryd.func21, Tryd.ntmps21
    go_wp2
    go_ret
    exact ⟨rfl, ba (Below.refl _ _) _⟩
set_option maxRecDepth 100000 in
theorem RInitial_no (i : Int) (h : i < 0 ∨ 7 < i) (w : World) : Calls Tryd.prog 21 #[.int .i64 i] w fun e w' => e = .returned (.int .u32 0) ∧ Below w.heap.size w w' := by
  by_cases h0 : i < 0
  · go_enter Tryd.func21, Tryd.ntmps21
    go_wp2
    go_ret
    exact ⟨rfl, ba (Below.refl _ _) _⟩
  · have h7 : 7 < i := by omega
    go_enter Tryd.func21, Tryd.ntmps21
    go_wp2
    go_ret
    exact ⟨rfl, ba (Below.refl _ _) _⟩
theorem RInitial_all (i : Int) (w : World) : Calls Tryd.prog 21 #[.int .i64 i] w fun e w' => e = .returned (.int .u32 (iV i)) ∧ Below w.heap.size w w' := by
  by_cases h : 0 ≤ i ∧ i ≤ 7
  · obtain ⟨k, rfl⟩ : ∃ k : Nat, i = k := ⟨i.toNat, by omega⟩
    have e : iV (k : Int) = wn (HI.getD k 0) := by unfold iV; rw [if_pos h, Int.toNat_natCast]
    rw [e]
    exact RInitial_in k (by omega) w
  · have e : iV i = 0 := by unfold iV; rw [if_neg h]
    rw [e]
    exact RInitial_no i (by omega) w
theorem wl_run {P : Program} {w : World} {ops : Array Oper} {rest : List Oper} {o : Oper} {a : Act} {Q : Exit → Act → World → Prop} {u : Value} (hgd : o.guard = none) (hrun : (execOp a.eval o).run P w = .ok (.value u) w) (k : wpList P ops Q rest (a.put o.dst u) w) : wpList P ops Q (o :: rest) a w :=
  wpList_plain hgd fun _ hK => by
    unfold Oper.wp
    rw [hrun]
    exact hK _ _ k
theorem KC_length : KC.length = 64 := by kernel_rfl
set_option maxRecDepth 100000 in
set_option maxHeartbeats 4000000 in
theorem Constants_any (w : World) : Calls Tryd.prog 61 #[] w fun e w' => e = .returned (.agg (u32c KC)) ∧ Below w.heap.size w w' := by
  obtain ⟨K, hK⟩ : ∃ K, K = u32c KC := ⟨_, rfl⟩
  have sK : K.size = 64 := by rw [hK, u32c_size]; exact KC_length
  have aK : K.all (·.oneCell') = true := by rw [hK]; exact u32c_one _
  have iK := is64 K sK
  have sZ : (#[.int .u32 0, .int .u32 0, .int .u32 0, .int .u32 0, .int .u32 0, .int .u32 0, .int .u32 0, .int .u32 0, .int .u32 0, .int .u32 0, .int .u32 0, .int .u32 0, .int .u32 0, .int .u32 0, .int .u32 0, .int .u32 0, .int .u32 0, .int .u32 0, .int .u32 0, .int .u32 0, .int .u32 0, .int .u32 0, .int .u32 0, .int .u32 0, .int .u32 0, .int .u32 0, .int .u32 0, .int .u32 0, .int .u32 0, .int .u32 0, .int .u32 0, .int .u32 0, .int .u32 0, .int .u32 0, .int .u32 0, .int .u32 0, .int .u32 0, .int .u32 0, .int .u32 0, .int .u32 0, .int .u32 0, .int .u32 0, .int .u32 0, .int .u32 0, .int .u32 0, .int .u32 0, .int .u32 0, .int .u32 0, .int .u32 0, .int .u32 0, .int .u32 0, .int .u32 0, .int .u32 0, .int .u32 0, .int .u32 0, .int .u32 0, .int .u32 0, .int .u32 0, .int .u32 0, .int .u32 0, .int .u32 0, .int .u32 0, .int .u32 0, .int .u32 0] : Array Value).size = K.size := by rw [sK]; rfl
  have HK := Lib.hid hK; clear hK sK
  have N : Blk _ w.heap.size 79 #[.int .u32 0, .int .u32 0, .int .u32 0, .int .u32 0, .int .u32 0, .int .u32 0, .int .u32 0, .int .u32 0, .int .u32 0, .int .u32 0, .int .u32 0, .int .u32 0, .int .u32 0, .int .u32 0, .int .u32 0, .int .u32 0, .int .u32 0, .int .u32 0, .int .u32 0, .int .u32 0, .int .u32 0, .int .u32 0, .int .u32 0, .int .u32 0, .int .u32 0, .int .u32 0, .int .u32 0, .int .u32 0, .int .u32 0, .int .u32 0, .int .u32 0, .int .u32 0, .int .u32 0, .int .u32 0, .int .u32 0, .int .u32 0, .int .u32 0, .int .u32 0, .int .u32 0, .int .u32 0, .int .u32 0, .int .u32 0, .int .u32 0, .int .u32 0, .int .u32 0, .int .u32 0, .int .u32 0, .int .u32 0, .int .u32 0, .int .u32 0, .int .u32 0, .int .u32 0, .int .u32 0, .int .u32 0, .int .u32 0, .int .u32 0, .int .u32 0, .int .u32 0, .int .u32 0, .int .u32 0, .int .u32 0, .int .u32 0, .int .u32 0, .int .u32 0] := Blk.new w 79 #[.int .u32 0, .int .u32 0, .int .u32 0, .int .u32 0, .int .u32 0, .int .u32 0, .int .u32 0, .int .u32 0, .int .u32 0, .int .u32 0, .int .u32 0, .int .u32 0, .int .u32 0, .int .u32 0, .int .u32 0, .int .u32 0, .int .u32 0, .int .u32 0, .int .u32 0, .int .u32 0, .int .u32 0, .int .u32 0, .int .u32 0, .int .u32 0, .int .u32 0, .int .u32 0, .int .u32 0, .int .u32 0, .int .u32 0, .int .u32 0, .int .u32 0, .int .u32 0, .int .u32 0, .int .u32 0, .int .u32 0, .int .u32 0, .int .u32 0, .int .u32 0, .int .u32 0, .int .u32 0, .int .u32 0, .int .u32 0, .int .u32 0, .int .u32 0, .int .u32 0, .int .u32 0, .int .u32 0, .int .u32 0, .int .u32 0, .int .u32 0, .int .u32 0, .int .u32 0, .int .u32 0, .int .u32 0, .int .u32 0, .int .u32 0, .int .u32 0, .int .u32 0, .int .u32 0, .int .u32 0, .int .u32 0, .int .u32 0, .int .u32 0, .int .u32 0]
  go_enter Tryd.func61, Tryd.ntmps61
  go_wp2_with (first | with_reducible refine ws_row N _ _ _ _ rfl rfl rfl rfl iK sZ aK ?_ | (with_reducible refine wl_run (o := ⟨some 1, _, _, _, _, _⟩) (u := .agg K) rfl (by rw [HK.out]; kernel_rfl) ?_))
  refine bodyPost_ret (v := .agg K) ?_ rfl ⟨by rw [HK.out], setRow_below ((Below.refl _ _).alloc (Nat.le_refl _) _) (Nat.le_refl _) _⟩
  exact results_cell_row rfl _ _ _ _ _ (0, 0) _ rfl (N.row _) Tryd.underlying79 rfl iK
set_option maxRecDepth 100000 in
theorem RConstant_in (k : Nat) (hk : k < 64) (w : World) : Calls Tryd.prog 19 #[.int .i64 k] w fun e w' => e = .returned (.int .u32 (wn (KC.getD k 0))) ∧ Below w.heap.size w w' := by
  obtain ⟨K, hK⟩ : ∃ K, K = u32c KC := ⟨_, rfl⟩
  have sK : K.size = 64 := by rw [hK, u32c_size]; exact KC_length
  have aK : K.all (·.oneCell') = true := by rw [hK]; exact u32c_one _
  have ik := u32c_at KC k (by rw [KC_length]; exact hk)
  rw [← hK] at ik
  obtain ⟨x, hx⟩ : ∃ x, x = wn (KC.getD k 0) := ⟨_, rfl⟩
  rw [← hx] at ik ⊢
  have cK := fun w => Constants_any w
  rw [← hK] at cK
  have iK := is64 K sK
  have sZ : (#[.int .u32 0, .int .u32 0, .int .u32 0, .int .u32 0, .int .u32 0, .int .u32 0, .int .u32 0, .int .u32 0, .int .u32 0, .int .u32 0, .int .u32 0, .int .u32 0, .int .u32 0, .int .u32 0, .int .u32 0, .int .u32 0, .int .u32 0, .int .u32 0, .int .u32 0, .int .u32 0, .int .u32 0, .int .u32 0, .int .u32 0, .int .u32 0, .int .u32 0, .int .u32 0, .int .u32 0, .int .u32 0, .int .u32 0, .int .u32 0, .int .u32 0, .int .u32 0, .int .u32 0, .int .u32 0, .int .u32 0, .int .u32 0, .int .u32 0, .int .u32 0, .int .u32 0, .int .u32 0, .int .u32 0, .int .u32 0, .int .u32 0, .int .u32 0, .int .u32 0, .int .u32 0, .int .u32 0, .int .u32 0, .int .u32 0, .int .u32 0, .int .u32 0, .int .u32 0, .int .u32 0, .int .u32 0, .int .u32 0, .int .u32 0, .int .u32 0, .int .u32 0, .int .u32 0, .int .u32 0, .int .u32 0, .int .u32 0, .int .u32 0, .int .u32 0] : Array Value).size = K.size := by rw [sK]; rfl
  have CK := Lib.hid (And.intro cK (And.intro hK hx)); clear cK hK hx sK
  have k0 : ¬ (k : Int) < 0 := by omega
  have k1 : ¬ (63 : Int) < (k : Int) := by omega
  go_enter Tryd.func19, Tryd.ntmps19
  go_wp2_with fail
  refine (CK.out.1 w).mono ?_
  rintro e w1 ⟨rfl, hb⟩
  have B := Lib.hid hb; clear hb
  have N : Blk _ w1.heap.size 79 #[.int .u32 0, .int .u32 0, .int .u32 0, .int .u32 0, .int .u32 0, .int .u32 0, .int .u32 0, .int .u32 0, .int .u32 0, .int .u32 0, .int .u32 0, .int .u32 0, .int .u32 0, .int .u32 0, .int .u32 0, .int .u32 0, .int .u32 0, .int .u32 0, .int .u32 0, .int .u32 0, .int .u32 0, .int .u32 0, .int .u32 0, .int .u32 0, .int .u32 0, .int .u32 0, .int .u32 0, .int .u32 0, .int .u32 0, .int .u32 0, .int .u32 0, .int .u32 0, .int .u32 0, .int .u32 0, .int .u32 0, .int .u32 0, .int .u32 0, .int .u32 0, .int .u32 0, .int .u32 0, .int .u32 0, .int .u32 0, .int .u32 0, .int .u32 0, .int .u32 0, .int .u32 0, .int .u32 0, .int .u32 0, .int .u32 0, .int .u32 0, .int .u32 0, .int .u32 0, .int .u32 0, .int .u32 0, .int .u32 0, .int .u32 0, .int .u32 0, .int .u32 0, .int .u32 0, .int .u32 0, .int .u32 0, .int .u32 0, .int .u32 0, .int .u32 0] := Blk.new w1 79 #[.int .u32 0, .int .u32 0, .int .u32 0, .int .u32 0, .int .u32 0, .int .u32 0, .int .u32 0, .int .u32 0, .int .u32 0, .int .u32 0, .int .u32 0, .int .u32 0, .int .u32 0, .int .u32 0, .int .u32 0, .int .u32 0, .int .u32 0, .int .u32 0, .int .u32 0, .int .u32 0, .int .u32 0, .int .u32 0, .int .u32 0, .int .u32 0, .int .u32 0, .int .u32 0, .int .u32 0, .int .u32 0, .int .u32 0, .int .u32 0, .int .u32 0, .int .u32 0, .int .u32 0, .int .u32 0, .int .u32 0, .int .u32 0, .int .u32 0, .int .u32 0, .int .u32 0, .int .u32 0, .int .u32 0, .int .u32 0, .int .u32 0, .int .u32 0, .int .u32 0, .int .u32 0, .int .u32 0, .int .u32 0, .int .u32 0, .int .u32 0, .int .u32 0, .int .u32 0, .int .u32 0, .int .u32 0, .int .u32 0, .int .u32 0, .int .u32 0, .int .u32 0, .int .u32 0, .int .u32 0, .int .u32 0, .int .u32 0, .int .u32 0, .int .u32 0]
  have D := N.row K
  have ck := blk_get D k _ ik
  have k64 : (k : Int) < 64 := by omega
  have k0' : 0 ≤ (k : Int) := by omega
  go_wp2_with (with_reducible refine ws_row N _ _ _ _ rfl rfl rfl rfl iK sZ aK ?_)
  have bz : Below w.heap.size w _ := setRow_below (ba B.out (.cells #[.int .u32 0, .int .u32 0, .int .u32 0, .int .u32 0, .int .u32 0, .int .u32 0, .int .u32 0, .int .u32 0, .int .u32 0, .int .u32 0, .int .u32 0, .int .u32 0, .int .u32 0, .int .u32 0, .int .u32 0, .int .u32 0, .int .u32 0, .int .u32 0, .int .u32 0, .int .u32 0, .int .u32 0, .int .u32 0, .int .u32 0, .int .u32 0, .int .u32 0, .int .u32 0, .int .u32 0, .int .u32 0, .int .u32 0, .int .u32 0, .int .u32 0, .int .u32 0, .int .u32 0, .int .u32 0, .int .u32 0, .int .u32 0, .int .u32 0, .int .u32 0, .int .u32 0, .int .u32 0, .int .u32 0, .int .u32 0, .int .u32 0, .int .u32 0, .int .u32 0, .int .u32 0, .int .u32 0, .int .u32 0, .int .u32 0, .int .u32 0, .int .u32 0, .int .u32 0, .int .u32 0, .int .u32 0, .int .u32 0, .int .u32 0, .int .u32 0, .int .u32 0, .int .u32 0, .int .u32 0, .int .u32 0, .int .u32 0, .int .u32 0, .int .u32 0] 79)) B.out.size K
  go_ret
  exact ⟨by rw [CK.out.2.2]; rfl, bz⟩
set_option maxRecDepth 100000 in
theorem RConstant_no (i : Int) (h : i < 0 ∨ 63 < i) (w : World) : Calls Tryd.prog 19 #[.int .i64 i] w fun e w' => e = .returned (.int .u32 0) ∧ Below w.heap.size w w' := by
  by_cases h0 : i < 0
  · go_enter Tryd.func19, Tryd.ntmps19
    go_wp2
    go_ret
    exact ⟨rfl, Below.refl _ _⟩
  · have h7 : 63 < i := by omega
    go_enter Tryd.func19, Tryd.ntmps19
    go_wp2
    go_ret
    exact ⟨rfl, Below.refl _ _⟩
theorem RConstant_all (i : Int) (w : World) : Calls Tryd.prog 19 #[.int .i64 i] w fun e w' => e = .returned (.int .u32 (cV i)) ∧ Below w.heap.size w w' := by
  by_cases h : 0 ≤ i ∧ i ≤ 63
  · obtain ⟨k, rfl⟩ : ∃ k : Nat, i = k := ⟨i.toNat, by omega⟩
    have e : cV (k : Int) = wn (KC.getD k 0) := by unfold cV; rw [if_pos h, Int.toNat_natCast]
    rw [e]
    exact RConstant_in k (by omega) w
  · have e : cV i = 0 := by unfold cV; rw [if_neg h]
    rw [e]
    exact RConstant_no i (by omega) w
set_option maxRecDepth 100000 in
set_option maxHeartbeats 400000 in
theorem RStart_any (w : World) :
    Calls Tryd.prog 17 #[] w fun e w' => e = .returned (.agg (stC HI (.slice none 0 0) 0)) ∧ Below w.heap.size w w' := by
  go_enter Tryd.func17, Tryd.ntmps17
  go_wp2
  go_loopw [2] (fun i wr => ∃ k : Nat, k ≤ 8 ∧ i = .int .i64 k ∧ Blk wr w.heap.size 29 (startC 0) ∧ Blk wr (w.heap.size + 1) 29 (startC k) ∧ Below w.heap.size w wr) (fun i _ => 8 - (intOf i).toNat)
  case atStart =>
    refine ⟨0, by omega, rfl, ?_, ?_, ?_⟩
    · rw [startC_zero]; exact (Blk.newAt _ _ _ rfl).alloc _
    · rw [startC_zero]; exact Blk.second w _ _ _
    · exact ba (ba (Below.refl _ _) _) _
  case round =>
    obtain ⟨k, hk, rfl, h0, h1, hb⟩ := hrel
    by_cases hlt : k < 8
    · obtain ⟨x, hx⟩ : ∃ x, HI.getD k 0 = x := ⟨_, rfl⟩
      have cI := RInitial_in k hlt wr
      rw [hx] at cI
      have kl : (k : Int) < 8 := by omega
      have k0 : 0 ≤ (k : Int) := by omega
      have J := Lib.hid (And.intro h0 (And.intro h1 (And.intro hb (And.intro cI hx)))); clear h0 h1 hb cI hx
      go_wp2_with fail
      refine J.out.2.2.2.1.mono ?_
      rintro e w2 ⟨rfl, hb2⟩
      obtain ⟨v, hv⟩ := startC_at k k hlt
      have D1 := J.out.2.1.calls hb2
      have c1 := blk_get D1 k _ hv
      have f1 := D1.frozen k
      have D := Lib.hid (And.intro (J.out.1.calls hb2) (And.intro D1 (bt J.out.2.2.1 hb2))); clear D1 hb2
      go_wp2
      go_roundw
      case rel =>
        refine ⟨k + 1, by omega, by go_num, D.out.1.far (by omega) _, ?_, D.out.2.2.setCell (by simp) _⟩
        rw [← startC_set k hlt, J.out.2.2.2.2]
        exact D.out.2.1.set_ k _
      case measure => simp [intOf]; omega
    · obtain rfl : k = 8 := by omega
      have kl : ¬ ((8 : Nat) : Int) < 8 := by omega
      rw [startC_full] at h1
      obtain ⟨S, hS⟩ : ∃ S, S = stC HI (.slice none 0 0) 0 := ⟨_, rfl⟩
      have sS : S.size = 10 := by rw [hS]; exact stC_size _ _ _ HI_length
      have aS : S.all (·.oneCell') = true := by rw [hS]; exact stC_one _ _ _ _ _
      have s0 : (startC 0).size = S.size := by rw [sS]; rfl
      rw [← hS] at h1
      have iS := isRS S sS
      have J := Lib.hid (And.intro h0 (And.intro h1 (And.intro hb hS))); clear h0 h1 hb hS
      go_wp2_with (first | with_reducible refine wl_st J.out.2.1 _ _ rfl rfl rfl _ Tryd.underlying29 iS ?_ | with_reducible refine ws_row J.out.1 _ _ _ _ rfl rfl rfl rfl iS s0 aS ?_)
      refine bodyPost_ret (v := .agg S) ?_ rfl ⟨by rw [J.out.2.2.2], setRow_below J.out.2.2.1 (Nat.le_refl _) _⟩
      exact results_cell_row rfl _ _ _ _ _ (0, 0) _ rfl (J.out.1.row _) Tryd.underlying29 rfl iS
set_option maxRecDepth 100000 in
set_option maxHeartbeats 1000000 in
theorem SStart_walk (w : World) (hL : Laid w) (i : Int) (hi : (Lit.int .i64 i).wf = true) :
    Calls Tryd.prog 3 #[.int .i64 i] w fun e w' => e = .returned (.bool true) ∧ Below w.heap.size w w' := by
  have HL := Lib.hid hL; clear hL hi
  go_enter Tryd.func3, Tryd.ntmps3
  go_wp2_with fail
  refine (Awake02 w HL.out).mono ?_
  rintro e w1 ⟨rfl, bb⟩
  have S0 : Value := .agg (stC HI (.slice none 0 0) 0)
  have B1 := Lib.hid bb; clear bb S0
  go_wp2_with fail
  refine (Start_any _ (HL.out.below B1.out (Nat.le_refl _))).mono ?_
  rintro e w2 ⟨rfl, bb⟩
  obtain ⟨S, hS⟩ : ∃ S, S = stC HI (.slice none 0 0) 0 := ⟨_, rfl⟩
  rw [← hS]
  have HS := Lib.hid hS; clear hS
  have B2 := Lib.hid (bt B1.out bb); clear bb B1
  go_wp2_with fail
  refine ((show Calls _ _ _ _ _ from HS.out ▸ Theirs_any HI HI_length none 0 0 0 w2) : Calls Tryd.prog 15 #[.agg S] w2 fun e w' => e = .returned (.agg S) ∧ Below w2.heap.size w2 w').mono ?_
  rintro e w3 ⟨rfl, bb⟩
  have B3 := Lib.hid (bt B2.out bb); clear bb B2
  go_wp2_with fail
  refine (RStart_any w3).mono ?_
  rintro e w4 ⟨rfl, bb⟩
  rw [← HS.out]
  have B4 := Lib.hid (bt B3.out bb); clear bb B3
  go_wp2_with fail
  refine ((show Calls _ _ _ _ _ from HS.out ▸ Same_true HI HI_length none none [] 0 0 0 w4 (.inl rfl) (.inl rfl)) : Calls Tryd.prog 14 #[.agg S, .agg S] w4 fun e w' => e = .returned (.bool true) ∧ Below w4.heap.size w4 w').mono ?_
  rintro e w5 ⟨rfl, bb⟩
  have B5 := Lib.hid (bt B4.out bb); clear bb B4
  go_wp2_with fail
  refine (Constant_all i w5 (HL.out.below B5.out (Nat.le_refl _))).mono ?_
  rintro e w6 ⟨rfl, bb⟩
  have B6 := Lib.hid (bt B5.out bb); clear bb B5
  go_wp2_with fail
  refine (RConstant_all i w6).mono ?_
  rintro e w7 ⟨rfl, bb⟩
  have B7 := Lib.hid (bt B6.out bb); clear bb B6
  generalize cV i = y1 at *
  go_wp2_with fail
  refine (Initial_all i w7 (HL.out.below B7.out (Nat.le_refl _))).mono ?_
  rintro e w8 ⟨rfl, bb⟩
  have B8 := Lib.hid (bt B7.out bb); clear bb B7
  go_wp2_with fail
  refine (RInitial_all i w8).mono ?_
  rintro e w9 ⟨rfl, bb⟩
  have B9 := Lib.hid (bt B8.out bb); clear bb B8
  go_wp2
  go_ret
  exact ⟨rfl, B9.out⟩
end Go.Proofs.YtfebknplkbeblaaDoor

namespace Go.Proofs.YtfebknplkbeblaaDoor
open Go.RowKit
set_option linter.unusedVariables false
theorem add14_wd (f a b c d : Wd) : ((wn f : Int) + ((wn a : Int) + (wn b : Int) + (wn c : Int) + (wn d : Int))) % 4294967296 = (wn (f + (a + b + c + d)) : Int) := by
  simp only [wn, BitVec.toNat_add]
  omega
set_option maxRecDepth 100000 in
set_option maxHeartbeats 4000000 in
theorem RBlock_any (uu : List Wd) (hh : uu.length = 8) (g off c : Nat) (b : List UInt8) (w : World) (hr : Rd w g off b) (hg : g < w.heap.size) (hl : b.length = 64) :
    Calls Tryd.prog 34 #[.agg (u32c uu), .slice (some ⟨g, off, none⟩) 64 c] w fun e w' => e = .returned (.agg (u32c (blk uu b))) ∧ Below w.heap.size w w' := by
  have s2 : (u32c uu).size = 8 := by rw [u32c_size, hh]
  have i2 := is8 (u32c uu) s2
  have s0 : (padW 8 []).size = (u32c uu).size := by rw [s2]; exact padW_size 8 [] (by simp)
  rw [z8_cells] at s0
  have a2 := u32c_one uu
  obtain ⟨ws, hws⟩ : ∃ ws, ws = wordsOf b := ⟨_, rfl⟩
  have hwl : ws.length = 64 := by rw [hws]; exact extW_length b 48
  have hres : blk uu b = List.zipWith (· + ·) (rounds ws uu 64) uu := by unfold blk; rw [if_pos hl, hws]
  have HL := Lib.hid (And.intro hh (And.intro hws (And.intro hwl (And.intro hres (And.intro hr hl))))); clear hh hws hwl hres hr hl
  go_enter Tryd.func34, Tryd.ntmps34
  go_wp2_with fail
  refine (rwords_any g off c b _ (fun i hi => (World.cell?_alloc_lt _ _ _ (by simp; omega)).trans ((World.cell?_alloc_lt _ _ _ hg).trans (HL.out.2.2.2.2.1 i hi))) (by simp; omega) HL.out.2.2.2.2.2).mono ?_
  rintro e w1 ⟨rfl, hb1⟩
  rw [← HL.out.2.1]
  have A0 : Blk w1 w.heap.size 25 (u32c uu) := ((Blk.newAt w _ (u32c uu) rfl).alloc _).calls hb1
  have A1 : Blk w1 (w.heap.size + 1) 25 (padW 8 []) := by rw [z8_cells]; exact (Blk.second w _ _ _).calls hb1
  have AB : Below w.heap.size w w1 := bt (ba (ba (Below.refl _ _) _) _) hb1
  have z0 := A0.lt
  have z1 := A1.lt
  have i3 := is64 (u32c ws) (by rw [u32c_size, HL.out.2.2.1])
  have s3 : (padW 64 []).size = (u32c ws).size := by rw [u32c_size, HL.out.2.2.1]; exact padW_size 64 [] (by simp)
  rw [z64_cells] at s3
  have a3 := u32c_one ws
  have HA := Lib.hid (And.intro A0 (And.intro A1 AB)); clear hb1 A0 A1 AB
  go_wp2_with (with_reducible refine ws_row (Blk.new w1 _ _) _ _ _ _ rfl rfl rfl rfl i3 s3 a3 ?_)
  obtain ⟨A0, A1, AB⟩ := HA.out
  have B0 : Blk ((w1.alloc (.cells (padW 64 []) 79)).setRow w1.heap.size (u32c ws)) w.heap.size 25 (u32c uu) := (A0.alloc _).rowFar (by omega) _
  have B1 : Blk ((w1.alloc (.cells (padW 64 []) 79)).setRow w1.heap.size (u32c ws)) (w.heap.size + 1) 25 (padW 8 []) := (A1.alloc _).rowFar (by omega) _
  have B5 : Blk ((w1.alloc (.cells (padW 64 []) 79)).setRow w1.heap.size (u32c ws)) w1.heap.size 79 (u32c ws) := (Blk.new w1 79 (padW 64 [])).row _
  have BB : Below w.heap.size w ((w1.alloc (.cells (padW 64 []) 79)).setRow w1.heap.size (u32c ws)) := setRow_below (ba AB _) (by omega) _
  have HB := Lib.hid (And.intro B0 (And.intro B1 (And.intro B5 BB)))
  clear HA A0 A1 AB B0 B1 B5 BB
  rw [z64_cells] at HB
  generalize World.setRow _ _ _ = w2 at *
  refine (Constants_any w2).mono ?_
  rintro e w3 ⟨rfl, hb3⟩
  obtain ⟨kc, hkc⟩ : ∃ kc, kc = KC := ⟨_, rfl⟩
  rw [← hkc]
  have hkl : kc.length = 64 := by rw [hkc]; rfl
  have C0 := HB.out.1.calls hb3
  have C1 := HB.out.2.1.calls hb3
  have C5 := HB.out.2.2.1.calls hb3
  have CB := bt HB.out.2.2.2 hb3
  have y0 := C0.lt
  have y1 := C1.lt
  have y5 := C5.lt
  have iK := is64 (u32c kc) (by rw [u32c_size, hkl])
  have sK : (padW 64 []).size = (u32c kc).size := by rw [u32c_size, hkl]; exact padW_size 64 [] (by simp)
  rw [z64_cells] at sK
  have aK := u32c_one kc
  have HK := Lib.hid (And.intro hkc hkl); clear hkc hkl
  have HC := Lib.hid (And.intro C0 (And.intro C1 (And.intro C5 CB))); clear hb3 C0 C1 C5 CB HB
  go_wp2_with (first | with_reducible refine ws_row (Blk.new w3 _ _) _ _ _ _ rfl rfl rfl rfl iK sK aK ?_ | with_reducible refine wl_row ((HC.out.1.alloc _).rowFar (by omega) _) _ _ rfl rfl rfl _ _ Tryd.underlying25 i2 ?_ | with_reducible refine ws_row (Blk.new2 w3 _ _ _ _ _) _ _ _ _ rfl rfl rfl rfl i2 s0 a2 ?_)
  obtain ⟨C0, C1, C5, CB⟩ := HC.out
  have D0 : Blk ((((w3.alloc (.cells (padW 64 []) 79)).setRow w3.heap.size (u32c kc)).alloc (.cells (padW 8 []) 25)).setRow (w3.heap.size + 1) (u32c uu)) w.heap.size 25 (u32c uu) := (((C0.alloc _).rowFar (by omega) _).alloc _).rowFar (by omega) _
  have D1 : Blk ((((w3.alloc (.cells (padW 64 []) 79)).setRow w3.heap.size (u32c kc)).alloc (.cells (padW 8 []) 25)).setRow (w3.heap.size + 1) (u32c uu)) (w.heap.size + 1) 25 (padW 8 []) := (((C1.alloc _).rowFar (by omega) _).alloc _).rowFar (by omega) _
  have D5 : Blk ((((w3.alloc (.cells (padW 64 []) 79)).setRow w3.heap.size (u32c kc)).alloc (.cells (padW 8 []) 25)).setRow (w3.heap.size + 1) (u32c uu)) w1.heap.size 79 (u32c ws) := (((C5.alloc _).rowFar (by omega) _).alloc _).rowFar (by omega) _
  have D7 : Blk ((((w3.alloc (.cells (padW 64 []) 79)).setRow w3.heap.size (u32c kc)).alloc (.cells (padW 8 []) 25)).setRow (w3.heap.size + 1) (u32c uu)) w3.heap.size 79 (u32c kc) := (((Blk.new w3 79 (padW 64 [])).row _).alloc _).rowFar (by omega) _
  have D6 : Blk ((((w3.alloc (.cells (padW 64 []) 79)).setRow w3.heap.size (u32c kc)).alloc (.cells (padW 8 []) 25)).setRow (w3.heap.size + 1) (u32c uu)) (w3.heap.size + 1) 25 (u32c uu) := (Blk.new2 w3 _ _ _ _ _).row _
  have DB : Below w.heap.size w ((((w3.alloc (.cells (padW 64 []) 79)).setRow w3.heap.size (u32c kc)).alloc (.cells (padW 8 []) 25)).setRow (w3.heap.size + 1) (u32c uu)) := setRow_below (ba (setRow_below (ba CB _) (by omega) _) _) (by omega) _
  have HB := Lib.hid (And.intro D0 (And.intro D1 (And.intro D5 (And.intro D7 (And.intro D6 DB)))))
  clear HC C0 C1 C5 CB D0 D1 D5 D7 D6 DB
  rw [z64_cells, z8_cells] at HB
  generalize World.setRow _ _ _ = w4 at *
  go_loopw [8] (fun i wr => ∃ k : Nat, k ≤ 64 ∧ i = .int .i64 k ∧ Blk wr w.heap.size 25 (u32c uu) ∧ Blk wr (w.heap.size + 1) 25 (padW 8 []) ∧ Blk wr w1.heap.size 79 (u32c ws) ∧ Blk wr w3.heap.size 79 (u32c kc) ∧ Blk wr (w3.heap.size + 1) 25 (u32c (rounds ws uu k)) ∧ Below w.heap.size w wr) (fun i _ => 64 - (intOf i).toNat)
  case atStart =>
    obtain ⟨B0, B1, B5, B7, B6, BB⟩ := HB.out
    rw [← z8_cells] at B1
    exact ⟨0, by omega, rfl, B0, B1, B5, B7, B6, BB⟩
  case round =>
    clear HB
    obtain ⟨k, hk, rfl, h0, h1, h5, h7, h6, hb⟩ := hrel
    by_cases hlt : k < 64
    · obtain ⟨v, hv⟩ : ∃ v, v = rounds ws uu k := ⟨_, rfl⟩
      have hvn : rounds ws uu (k + 1) = rnd (KC.getD k 0) (ws.getD k 0) v := by rw [rounds, ← hv]
      obtain ⟨a, b', c', d, e, f, i, j, hv8⟩ := eight v (by rw [hv]; exact rounds_length ws uu HL.out.1 k)
      rw [← hv, hv8] at h6
      obtain ⟨K, hK⟩ : ∃ K, KC.getD k 0 = K := ⟨_, rfl⟩
      obtain ⟨x, hx⟩ : ∃ x, ws.getD k 0 = x := ⟨_, rfl⟩
      rw [hv8, hK, hx] at hvn
      have c6 := cl8 h6
      have f0 := h6.frozen 0
      have f1 := h6.frozen 1
      have f2 := h6.frozen 2
      have f3 := h6.frozen 3
      have f4 := h6.frozen 4
      have f5 := h6.frozen 5
      have f6 := h6.frozen 6
      have f7 := h6.frozen 7
      have cw := blk_get h5 k _ (u32c_at ws k (by rw [HL.out.2.2.1]; exact hlt))
      rw [hx] at cw
      have ck := blk_get h7 k _ (u32c_at kc k (by rw [HK.out.2]; exact hlt))
      rw [HK.out.1, hK] at ck
      obtain ⟨S1, hS1⟩ : ∃ s, s = rr e 6 ^^^ rr e 11 ^^^ rr e 25 := ⟨_, rfl⟩
      obtain ⟨S0, hS0⟩ : ∃ s, s = rr a 2 ^^^ rr a 13 ^^^ rr a 22 := ⟨_, rfl⟩
      obtain ⟨CH, hCH⟩ : ∃ s, s = e &&& f ^^^ ~~~e &&& i := ⟨_, rfl⟩
      obtain ⟨MJ, hMJ⟩ : ∃ s, s = a &&& b' ^^^ a &&& c' ^^^ b' &&& c' := ⟨_, rfl⟩
      obtain ⟨t1, ht1⟩ : ∃ t, t = j + S1 + CH + K + x := ⟨_, rfl⟩
      obtain ⟨t2, ht2⟩ : ∃ t, t = S0 + MJ := ⟨_, rfl⟩
      have p1 := bxor_wd (rr e 6) (rr e 11)
      have p2 := bxor_wd (rr e 6 ^^^ rr e 11) (rr e 25)
      rw [← hS1] at p2
      have p3 := bxor_wd (rr a 2) (rr a 13)
      have p4 := bxor_wd (rr a 2 ^^^ rr a 13) (rr a 22)
      rw [← hS0] at p4
      have p5 := band_wd e f
      have p6 := bnot_wd e
      have p7 := band_wd (~~~e) i
      have p8 := bxor_wd (e &&& f) (~~~e &&& i)
      rw [← hCH] at p8
      have p9 := band_wd a b'
      have p10 := band_wd a c'
      have p11 := band_wd b' c'
      have p12 := bxor_wd (a &&& b') (a &&& c')
      have p13 := bxor_wd (a &&& b' ^^^ a &&& c') (b' &&& c')
      rw [← hMJ] at p13
      have q1 := add_wd j S1
      have q2 := add_wd (j + S1) CH
      have q3 := add_wd (j + S1 + CH) K
      have q4 := add_wd (j + S1 + CH + K) x
      rw [← ht1] at q4
      have q5 := add_wd S0 MJ
      rw [← ht2] at q5
      have q6 := add_wd t1 t2
      have q7 := add_wd d t1
      have k64 : (k : Int) < 64 := by omega
      have H := Lib.hid (And.intro h0 (And.intro h1 (And.intro h5 (And.intro h7 (And.intro h6 (And.intro hb (And.intro hvn (And.intro ht1 ht2))))))))
      have HS := Lib.hid (And.intro hS1 (And.intro hS0 (And.intro hCH hMJ)))
      clear h0 h1 h5 h7 h6 hb hvn hK hv hv8 hx hS1 hS0 hCH hMJ ht1 ht2
      go_wp2
      go_quiet ((first | (go_at_call 65; with_reducible exact Calls.quiet_of_same (rturn_is e 6 6 rfl (by decide) (by decide) _)) | (go_at_call 65; with_reducible exact Calls.quiet_of_same (rturn_is e 11 11 rfl (by decide) (by decide) _)) | (go_at_call 65; with_reducible exact Calls.quiet_of_same (rturn_is e 25 25 rfl (by decide) (by decide) _))))
      go_wp2
      go_quiet ((first | (go_at_call 65; with_reducible exact quiet_addS (rturn_is a 2 2 rfl (by decide) (by decide) _)) | (go_at_call 65; with_reducible exact quiet_addS (rturn_is a 13 13 rfl (by decide) (by decide) _)) | (go_at_call 65; with_reducible exact quiet_addS (rturn_is a 22 22 rfl (by decide) (by decide) _))))
      go_wp2
      obtain ⟨h0, h1, h5, h7, h6, hb, hvn, ht1, ht2⟩ := H.out
      obtain ⟨hS1, hS0, hCH, hMJ⟩ := HS.out
      go_roundw
      case rel =>
        refine ⟨k + 1, by omega, by go_num, ?_, ?_, ?_, ?_, ?_, ?_⟩
        · exact ((((((((h0.drewN _).far (by omega) _).far (by omega) _).far (by omega) _).far (by omega) _).far (by omega) _).far (by omega) _).far (by omega) _).far (by omega) _
        · exact ((((((((h1.drewN _).far (by omega) _).far (by omega) _).far (by omega) _).far (by omega) _).far (by omega) _).far (by omega) _).far (by omega) _).far (by omega) _
        · exact ((((((((h5.drewN _).far (by omega) _).far (by omega) _).far (by omega) _).far (by omega) _).far (by omega) _).far (by omega) _).far (by omega) _).far (by omega) _
        · exact ((((((((h7.drewN _).far (by omega) _).far (by omega) _).far (by omega) _).far (by omega) _).far (by omega) _).far (by omega) _).far (by omega) _).far (by omega) _
        · rw [hvn]
          have e8 : rnd K x [a, b', c', d, e, f, i, j] = [t1 + t2, a, b', c', d + t1, e, f, i] := by
            rw [ht1, ht2, hS1, hS0, hCH, hMJ]; rfl
          rw [e8, ← set8 a b' c' d e f i j]
          have e5 := add5_wd (j + S1) CH K x t2
          have e6 := add14_wd d (j + S1) CH K x
          rw [← ht1] at e5 e6
          rw [e5, e6]
          exact ((((((((h6.drewN _).set_ 0 _).set_ 1 _).set_ 2 _).set_ 3 _).set_ 4 _).set_ 5 _).set_ 6 _).set_ 7 _
        · exact ((((((((bdN hb _).setCell (by simp; omega) _).setCell (by simp; omega) _).setCell (by simp; omega) _).setCell (by simp; omega) _).setCell (by simp; omega) _).setCell (by simp; omega) _).setCell (by simp; omega) _).setCell (by simp; omega) _
      case measure => simp [intOf]; omega
    · obtain rfl : k = 64 := by omega
      obtain ⟨v, hv⟩ : ∃ v, v = rounds ws uu 64 := ⟨_, rfl⟩
      have hvl : v.length = 8 := by rw [hv]; exact rounds_length ws uu HL.out.1 64
      rw [← hv] at h6
      have hres := HL.out.2.2.2.1
      rw [← hv, ← addW_full v uu hvl HL.out.1] at hres
      have HR := Lib.hid (And.intro hres (And.intro hv hvl))
      rw [← addW_zero v uu hvl] at h6
      have HB := Lib.hid (And.intro h0 (And.intro h1 (And.intro h6 hb))); clear h0 h1 h5 h7 h6 hb hres hv hvl hlt
      rw [show ((64 : Nat) : Int) = 64 from rfl]
      go_wp2
      go_loopw [11] (fun i wr => ∃ k : Nat, k ≤ 8 ∧ i = .int .i64 k ∧ Blk wr w.heap.size 25 (u32c uu) ∧ Blk wr (w.heap.size + 1) 25 (padW 8 []) ∧ Blk wr (w3.heap.size + 1) 25 (u32c (addW v uu k)) ∧ Below w.heap.size w wr) (fun i _ => 8 - (intOf i).toNat)
      case atStart =>
        obtain ⟨h0, h1, h6, hb⟩ := HB.out
        exact ⟨0, by omega, rfl, h0, h1, h6, hb⟩
      case round =>
        clear HB
        obtain ⟨k, hk, rfl, h0, h1, h6, hb⟩ := hrel
        by_cases hlt : k < 8
        · obtain ⟨x, hx⟩ : ∃ x, x = v.getD k 0 := ⟨_, rfl⟩
          obtain ⟨y, hy⟩ : ∃ y, y = uu.getD k 0 := ⟨_, rfl⟩
          have cx := blk_get h6 k _ (u32c_at _ k (by rw [addW_length]; exact hlt))
          rw [addW_at v uu k hlt, ← hx] at cx
          have cy := blk_get h0 k _ (u32c_at uu k (by rw [HL.out.1]; exact hlt))
          rw [← hy] at cy
          have fx := h6.frozen k
          have k8 : (k : Int) < 8 := by omega
          have q1 := add_wd x y
          have H := Lib.hid (And.intro h0 (And.intro h1 (And.intro h6 (And.intro hb (And.intro hx hy))))); clear h0 h1 h6 hb hx hy
          go_wp2
          go_region
          go_wp2
          obtain ⟨h0, h1, h6, hb, hx, hy⟩ := H.out
          go_roundw
          case rel =>
            refine ⟨k + 1, by omega, by go_num, (h0.far (by omega) _).drew, (h1.far (by omega) _).drew, ?_, (hb.setCell (by simp; omega) _).drew⟩
            rw [← addW_set v uu k hlt, ← hx, ← hy]
            try rw [add2_wd]
            exact (h6.set_ k _).drew
          case measure => simp [intOf]; omega
        · obtain rfl : k = 8 := by omega
          have hl8 := addW_length v uu 8
          have hres := HR.out.1
          obtain ⟨r, hr⟩ : ∃ r, r = addW v uu 8 := ⟨_, rfl⟩
          rw [← hr] at h6 hl8 hres
          have HR2 := Lib.hid (And.intro hres hr); clear hres hr
          have sr : (u32c r).size = 8 := by rw [u32c_size, hl8]
          have ir := is8 (u32c r) sr
          have s1 : (padW 8 []).size = (u32c r).size := by rw [sr]; exact padW_size 8 [] (by simp)
          have ar := u32c_one r
          have H := Lib.hid (And.intro h1 (And.intro h6 hb)); clear h0 h1 h6 hb hl8 sr
          go_wp2_with (first | with_reducible refine wl_row H.out.2.1 _ _ rfl rfl rfl _ _ Tryd.underlying25 ir ?_ | with_reducible refine ws_row H.out.1 _ _ _ _ rfl rfl rfl rfl ir s1 ar ?_)
          obtain ⟨h1, h6, hb⟩ := H.out
          refine bodyPost_ret (v := .agg (u32c r)) ?_ rfl ⟨by rw [HR2.out.1], setRow_below hb (by omega) _⟩
          exact results_row rfl _ _ _ _ _ rfl (h1.row _) Tryd.underlying25 ir
end Go.Proofs.YtfebknplkbeblaaDoor

namespace Go.Proofs.YtfebknplkbeblaaDoor
open Go.RowKit
set_option linter.unusedVariables false
def padP (j : Nat) : List UInt8 := 128 :: List.replicate j 0
theorem padP_snoc (j : Nat) : padP j ++ [0] = padP (j + 1) := by
  unfold padP
  rw [List.cons_append, List.replicate_succ']
def padQ (n k : Nat) : List UInt8 := padP (zerosOf n) ++ (byB (n * 8 % W64) 8).take k
theorem padQ_zero (n : Nat) : padQ n 0 = padP (zerosOf n) := by unfold padQ; rw [List.take_zero, List.append_nil]
theorem padQ_full (n : Nat) : padQ n 8 = padOf n := by
  unfold padQ padP padOf
  rw [List.take_of_length_le (by rw [byB_length]; omega), List.cons_append]
theorem padQ_snoc (n k : Nat) (h : k < 8) : padQ n k ++ [UInt8.ofNat (n * 8 % W64 / 256 ^ (7 - k) % 256)] = padQ n (k + 1) := by
  unfold padQ
  have hb := byB_at (n * 8 % W64) 8 k h
  rw [show 8 - 1 - k = 7 - k by omega] at hb
  have hl := byB_length (n * 8 % W64) 8
  rw [List.take_add_one, ← List.append_assoc, ← hb]
  congr 1
  rw [List.getElem?_eq_getElem (by omega)]
  simp [List.getD, List.getElem?_eq_getElem (show k < (byB (n * 8 % W64) 8).length by omega)]
set_option maxRecDepth 100000 in
set_option maxHeartbeats 1000000 in
theorem RPad_any (n : Nat) (hn : n < W64) (w : World) :
    Calls Tryd.prog 35 #[.int .u64 n] w fun e w' => ∃ v, e = .returned v ∧ Below w.heap.size w w' ∧ ∃ (a : Option Addr) (c : Nat), v = .slice a (padOf n).length c ∧ RdS w' a (padOf n) ∧ (padOf n).length ≤ c ∧ c ≤ maxLen ∧ (a = none → (padOf n).length = 0 ∧ c = 0) := by
  obtain ⟨z, hz⟩ : ∃ z, z = zerosOf n := ⟨_, rfl⟩
  obtain ⟨r, hr⟩ : ∃ r, r = n % 64 := ⟨_, rfl⟩
  have hri : (n : Int) % 64 = (r : Int) := by omega
  have hr64 : r < 64 := by omega
  have hz64 : z < 64 := by rw [hz]; unfold zerosOf; split <;> omega
  have hzr : r + z = 55 ∨ r + z = 119 := by rw [hz, hr]; unfold zerosOf; split <;> omega
  have hzr' : (r ≤ 55 ∧ r + z = 55) ∨ (55 < r ∧ r + z = 119) := by rw [hz, hr]; unfold zerosOf; split <;> omega
  obtain ⟨m, hm⟩ : ∃ m, m = n * 8 % W64 := ⟨_, rfl⟩
  have hmW : m < 18446744073709551616 := by rw [hm]; exact Nat.mod_lt _ W64_pos
  have hmi : IntKind.u64.wrap ((n : Int) * 8) = (m : Int) := by
    rw [hm, IntKind.wrap_u64]
    unfold W64
    omega
  have hmi' : ((n : Int) * 8) % 18446744073709551616 = (m : Int) := by
    rw [hm]
    unfold W64
    omega
  have F := Lib.hid (And.intro hz (And.intro hr (And.intro hm (And.intro hn (And.intro hzr hzr'))))); clear hz hr hm hn hzr hzr'
  obtain ⟨i0, hi, hz0, hz1, hz2⟩ := info_parts (show (Tryd.prog.info? 5).map (fun i => (i.zero, i.size, i.bytes)) = some (some (.int .u8 0), 1, 1) by kernel_rfl)
  have I := Lib.hid (And.intro hi (And.intro hz0 (And.intro hz1 hz2))); clear hi hz0 hz1 hz2
  go_enter Tryd.func35, Tryd.ntmps35
  go_wp2
  go_loopw [3] (fun v wr => ∃ j : Nat, j ≤ z ∧ wr.ownsRow w.heap.size 5 1 v (j + 1) ((padP j).map fun c => Value.int .u8 (c.toNat : Int)) ∧ Below w.heap.size w wr) (fun v _ => 64 - lenS v)
  case atStart =>
    exact ⟨0, by omega, own_laid w [128] 5 1 rfl (by unfold maxLen; omega) (Nat.le_refl _), ba (Below.refl _ _) _⟩
  case round =>
    obtain ⟨j, hj, ho, hb⟩ := hrel
    obtain ⟨va, vc, rfl⟩ := own_slice ho
    obtain ⟨p, hp⟩ : ∃ p, p = j + 1 := ⟨_, rfl⟩
    rw [← hp] at ho ⊢
    obtain ⟨s, hs⟩ : ∃ s, s = r + p := ⟨_, rfl⟩
    obtain ⟨t, ht⟩ : ∃ t, t = s + 8 := ⟨_, rfl⟩
    have e1 : IntKind.u64.wrap (p : Int) = (p : Int) := by rw [IntKind.wrap_u64]; omega
    have e2 : (r : Int) + (p : Int) = (s : Int) := by omega
    have e3 : IntKind.u64.wrap (s : Int) = (s : Int) := by rw [IntKind.wrap_u64]; omega
    have e4 : (s : Int) + 8 = (t : Int) := by omega
    have e5 : IntKind.u64.wrap (t : Int) = (t : Int) := by rw [IntKind.wrap_u64]; omega
    by_cases hlt : j < z
    · have hne : ¬ (t : Int) % 64 = 0 := by have := F.out.2.2.2.2.2; omega
      have hpb : p ≤ 64 := by omega
      have H := Lib.hid (And.intro ho (And.intro hb (And.intro hp (And.intro hs (And.intro ht hj))))); clear ho hb hj hp hs ht
      go_wp2_with (at_builtin; refine wl_one (H.out.1.alloc _) rfl _ _ 26 rfl Tryd.underlying26 i0 I.out.1 I.out.2.1 I.out.2.2.1 I.out.2.2.2 rfl wr.heap.size 1 0 rfl (by rw [(Blk.new wr _ _).cell]; rfl) (by omega) (by have := H.out.2.1.size; simp; omega) ?_)
      intro v' w2 ho hg hnil
      have BB := below_grown (ba H.out.2.1 (.cells #[.int .u8 0] 5)) hg (by have := H.out.2.1.size; simp; omega) (by intro k hk; exact (H.out.1.lt _ hk).1)
      have G := Lib.hid (And.intro ho BB); clear ho BB hg hnil
      go_wp2
      go_roundw
      case rel =>
        have hp := H.out.2.2.1
        refine ⟨j + 1, by omega, ?_, G.out.2⟩
        rw [← padP_snoc, ← hp, List.map_append]
        exact G.out.1
      case measure =>
        obtain ⟨a', c', rfl⟩ := own_slice G.out.1
        have hp := H.out.2.2.1
        simp [lenS]; omega
    · obtain rfl : j = z := by omega
      have hne : (t : Int) % 64 = 0 := by have := F.out.2.2.2.2.2; omega
      have H := Lib.hid (And.intro ho (And.intro hb (And.intro hp (And.intro hs ht)))); clear ho hb hj hlt hp hs ht
      go_wp2
      try simp only [hri, hne]
      go_loopw [3, 5] (fun v i wr => ∃ k : Nat, k ≤ 8 ∧ i = .int .i64 ((k : Int) - 1) ∧ ∃ d : Nat, d = 8 - k ∧ ∃ q : Nat, q = p + d ∧ wr.ownsRow w.heap.size 5 1 v q ((padQ n d).map fun c => Value.int .u8 (c.toNat : Int)) ∧ Below w.heap.size w wr) (fun v i _ => (intOf i + 1).toNat)
      case atStart =>
        refine ⟨8, by omega, rfl, 0, rfl, p, rfl, ?_, H.out.2.1⟩
        rw [padQ_zero, ← F.out.1]
        exact H.out.1
      case round =>
        obtain ⟨k, hk, rfl, d, hd, q, hq, ho, hb⟩ := hrel
        obtain ⟨va, vc, rfl⟩ := own_slice ho
        by_cases hk0 : k = 0
        · subst hk0
          obtain rfl : d = 8 := by omega
          have L := Lib.hid (And.intro ho (And.intro hb hq)); clear ho hb hq
          rw [show ((0 : Nat) : Int) - 1 = -1 from rfl]
          go_wp2
          obtain ⟨ho, hb, hq⟩ := L.out
          rw [padQ_full] at ho
          obtain ⟨a, c, he, hl, h1, h2, h3, h4⟩ := own_rds ho
          injection he with he1 _ he2
          subst he1 he2
          go_ret
          exact ⟨.slice va q vc, rfl, hb, va, vc, by rw [hl], h1, by rw [hl]; exact h2, h3, fun h => ⟨List.length_eq_zero_iff.1 (by rw [hl]; exact (h4 h).1), (h4 h).2⟩⟩
        · obtain ⟨s', rfl⟩ : ∃ s', k = s' + 1 := ⟨k - 1, by omega⟩
          have es : ((s' + 1 : Nat) : Int) - 1 = (s' : Int) := by omega
          rw [es]
          obtain ⟨y, hy⟩ : ∃ y, y = 8 * s' := ⟨_, rfl⟩
          have ey : (8 : Int) * (s' : Int) = (y : Int) := by omega
          have ey2 : IntKind.u64.wrap (y : Int) = (y : Int) := by rw [IntKind.wrap_u64]; omega
          have y64 : y < 64 := by omega
          obtain ⟨x, hx⟩ : ∃ x, x = UInt8.ofNat (m / 256 ^ s' % 256) := ⟨_, rfl⟩
          have hv : ((m : Nat) : Int) / (2 : Int) ^ y % (256 : Int) = ((x.toNat : Nat) : Int) := by
            have h8 : x.toNat = m / 256 ^ s' % 256 := by rw [hx]; simp
            rw [h8, show (256 : Nat) = 2 ^ 8 from rfl, ← Nat.pow_mul, ← hy]
            generalize hyy : m / 2 ^ y = yy
            have e : ((m : Nat) : Int) / (2 : Int) ^ y = (yy : Int) := by rw [← hyy]; push_cast; rfl
            rw [e]
            push_cast
            rfl
          have hs0 : (0 : Int) ≤ (s' : Int) := by omega
          have L := Lib.hid (And.intro ho (And.intro hb (And.intro hq (And.intro hy (And.intro hx (And.intro hd hk)))))); clear ho hb hy hx hk hq hd hk0 es
          go_wp2_with (at_builtin; refine wl_one (L.out.1.alloc _) rfl _ _ 26 rfl Tryd.underlying26 i0 I.out.1 I.out.2.1 I.out.2.2.1 I.out.2.2.2 rfl wr.heap.size 1 x rfl (by rw [(Blk.new wr _ _).cell]; rfl) (by have := L.out.2.2.1; have := L.out.2.2.2.2.2.1; have := H.out.2.2.1; omega) (by have := L.out.2.1.size; simp; omega) ?_)
          intro v' w2 ho hg hnil
          have BB := below_grown (ba L.out.2.1 (.cells #[.int .u8 x.toNat] 5)) hg (by have := L.out.2.1.size; simp; omega) (by intro k hk; exact (L.out.1.lt _ hk).1)
          have G := Lib.hid (And.intro ho BB); clear ho BB hg hnil
          go_wp2
          go_roundw
          case rel =>
            have hd := L.out.2.2.2.2.2.1
            have hk := L.out.2.2.2.2.2.2
            have hq := L.out.2.2.1
            refine ⟨s', by omega, by go_num, d + 1, by omega, q + 1, by omega, ?_, G.out.2⟩
            have hdd : 7 - d = s' := by omega
            rw [← padQ_snoc n d (by omega), hdd, ← F.out.2.2.1, ← L.out.2.2.2.2.1, List.map_append]
            exact G.out.1
          case measure => simp [intOf]; try omega
set_option maxHeartbeats 400000 in
theorem RSane_any (H : List Wd) (hH : H.length = 8) (a : Option Addr) (len c n : Nat) (hn : n < W64) (hlen : len ≤ 9223372036854775807) (b : Bool) (hb : decide (len = n % 64) = b) (w : World) :
    Calls Tryd.prog 36 #[.agg (stC H (.slice a len c) n)] w fun e w' => e = .returned (.bool b) ∧ Below w.heap.size w w' := by
  obtain ⟨x0, x1, x2, x3, x4, x5, x6, x7, rfl⟩ := eight H hH
  rw [stC_lit]
  have hn' : n < 18446744073709551616 := hn
  have hb' : ((len : Int) == ((n : Int) % 64)) = b := by
    rw [← hb, Bool.eq_iff_iff]
    simp
    omega
  have HB := Lib.hid (And.intro hb hn); clear hb hn hH
  go_enter Tryd.func36, Tryd.ntmps36
  go_wp2
  go_ret
  exact ⟨rfl, (Below.refl _ _).alloc (Nat.le_refl _) _⟩
end Go.Proofs.YtfebknplkbeblaaDoor
