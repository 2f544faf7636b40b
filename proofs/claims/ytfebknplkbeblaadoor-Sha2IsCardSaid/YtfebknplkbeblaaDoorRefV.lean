/- What the document's Block comes to, of a whole block. -/
import Derived.Test.YtfebknplkbeblaaDoorRefU
import Derived.Test.YtfebknplkbeblaaDoorLaw02Start
import Derived.Test.YtfebknplkbeblaaDoorShaE
namespace Go.Proofs.YtfebknplkbeblaaDoor
open Go.RowKit
set_option linter.unusedVariables false
theorem add14_wd (f a b c d : Wd) : ((wn f : Int) + ((wn a : Int) + (wn b : Int) + (wn c : Int) + (wn d : Int))) % 4294967296 = (wn (f + (a + b + c + d)) : Int) := by
  simp only [wn, BitVec.toNat_add]
  omega
set_option maxRecDepth 100000 in
set_option maxHeartbeats 4000000 in
theorem RBlock_any (uu : List Wd) (hh : uu.length = 8) (g off c : Nat) (b : List UInt8) (w : World) (hr : Rd w g off b) (hg : g < w.heap.size) (hl : b.length = 64) :
    Calls Tryd.prog 34 #[.agg (u32c uu), .slice (some ⟨g, off, none⟩) 64 c] w fun e w' => e = .returned (.agg (u32c (blk uu b))) ∧ Below w.heap.size w w' := by
  have s2 : (u32c uu).size = 8 := by rw [u32c_size, hh]
  have i2 := is8 (u32c uu) s2
  have s0 : (padW 8 []).size = (u32c uu).size := by rw [s2]; exact padW_size 8 [] (by simp)
  rw [z8_cells] at s0
  have a2 := u32c_one uu
  obtain ⟨ws, hws⟩ : ∃ ws, ws = wordsOf b := ⟨_, rfl⟩
  have hwl : ws.length = 64 := by rw [hws]; exact extW_length b 48
  have hres : blk uu b = List.zipWith (· + ·) (rounds ws uu 64) uu := by unfold blk; rw [if_pos hl, hws]
  have HL := Lib.hid (And.intro hh (And.intro hws (And.intro hwl (And.intro hres (And.intro hr hl))))); clear hh hws hwl hres hr hl
  go_enter Tryd.func34, Tryd.ntmps34
  go_wp2_with fail
  refine (rwords_any g off c b _ (fun i hi => (World.cell?_alloc_lt _ _ _ (by simp; omega)).trans ((World.cell?_alloc_lt _ _ _ hg).trans (HL.out.2.2.2.2.1 i hi))) (by simp; omega) HL.out.2.2.2.2.2).mono ?_
  rintro e w1 ⟨rfl, hb1⟩
  rw [← HL.out.2.1]
  have A0 : Blk w1 w.heap.size 25 (u32c uu) := ((Blk.newAt w _ (u32c uu) rfl).alloc _).calls hb1
  have A1 : Blk w1 (w.heap.size + 1) 25 (padW 8 []) := by rw [z8_cells]; exact (Blk.second w _ _ _).calls hb1
  have AB : Below w.heap.size w w1 := bt (ba (ba (Below.refl _ _) _) _) hb1
  have z0 := A0.lt
  have z1 := A1.lt
  have i3 := is64 (u32c ws) (by rw [u32c_size, HL.out.2.2.1])
  have s3 : (padW 64 []).size = (u32c ws).size := by rw [u32c_size, HL.out.2.2.1]; exact padW_size 64 [] (by simp)
  rw [z64_cells] at s3
  have a3 := u32c_one ws
  have HA := Lib.hid (And.intro A0 (And.intro A1 AB)); clear hb1 A0 A1 AB
  go_wp2_with (with_reducible refine ws_row (Blk.new w1 _ _) _ _ _ _ rfl rfl rfl rfl i3 s3 a3 ?_)
  obtain ⟨A0, A1, AB⟩ := HA.out
  have B0 : Blk ((w1.alloc (.cells (padW 64 []) 79)).setRow w1.heap.size (u32c ws)) w.heap.size 25 (u32c uu) := (A0.alloc _).rowFar (by omega) _
  have B1 : Blk ((w1.alloc (.cells (padW 64 []) 79)).setRow w1.heap.size (u32c ws)) (w.heap.size + 1) 25 (padW 8 []) := (A1.alloc _).rowFar (by omega) _
  have B5 : Blk ((w1.alloc (.cells (padW 64 []) 79)).setRow w1.heap.size (u32c ws)) w1.heap.size 79 (u32c ws) := (Blk.new w1 79 (padW 64 [])).row _
  have BB : Below w.heap.size w ((w1.alloc (.cells (padW 64 []) 79)).setRow w1.heap.size (u32c ws)) := setRow_below (ba AB _) (by omega) _
  have HB := Lib.hid (And.intro B0 (And.intro B1 (And.intro B5 BB)))
  clear HA A0 A1 AB B0 B1 B5 BB
  rw [z64_cells] at HB
  generalize World.setRow _ _ _ = w2 at *
  refine (Constants_any w2).mono ?_
  rintro e w3 ⟨rfl, hb3⟩
  obtain ⟨kc, hkc⟩ : ∃ kc, kc = KC := ⟨_, rfl⟩
  rw [← hkc]
  have hkl : kc.length = 64 := by rw [hkc]; rfl
  have C0 := HB.out.1.calls hb3
  have C1 := HB.out.2.1.calls hb3
  have C5 := HB.out.2.2.1.calls hb3
  have CB := bt HB.out.2.2.2 hb3
  have y0 := C0.lt
  have y1 := C1.lt
  have y5 := C5.lt
  have iK := is64 (u32c kc) (by rw [u32c_size, hkl])
  have sK : (padW 64 []).size = (u32c kc).size := by rw [u32c_size, hkl]; exact padW_size 64 [] (by simp)
  rw [z64_cells] at sK
  have aK := u32c_one kc
  have HK := Lib.hid (And.intro hkc hkl); clear hkc hkl
  have HC := Lib.hid (And.intro C0 (And.intro C1 (And.intro C5 CB))); clear hb3 C0 C1 C5 CB HB
  go_wp2_with (first | with_reducible refine ws_row (Blk.new w3 _ _) _ _ _ _ rfl rfl rfl rfl iK sK aK ?_ | with_reducible refine wl_row ((HC.out.1.alloc _).rowFar (by omega) _) _ _ rfl rfl rfl _ _ Tryd.underlying25 i2 ?_ | with_reducible refine ws_row (Blk.new2 w3 _ _ _ _ _) _ _ _ _ rfl rfl rfl rfl i2 s0 a2 ?_)
  obtain ⟨C0, C1, C5, CB⟩ := HC.out
  have D0 : Blk ((((w3.alloc (.cells (padW 64 []) 79)).setRow w3.heap.size (u32c kc)).alloc (.cells (padW 8 []) 25)).setRow (w3.heap.size + 1) (u32c uu)) w.heap.size 25 (u32c uu) := (((C0.alloc _).rowFar (by omega) _).alloc _).rowFar (by omega) _
  have D1 : Blk ((((w3.alloc (.cells (padW 64 []) 79)).setRow w3.heap.size (u32c kc)).alloc (.cells (padW 8 []) 25)).setRow (w3.heap.size + 1) (u32c uu)) (w.heap.size + 1) 25 (padW 8 []) := (((C1.alloc _).rowFar (by omega) _).alloc _).rowFar (by omega) _
  have D5 : Blk ((((w3.alloc (.cells (padW 64 []) 79)).setRow w3.heap.size (u32c kc)).alloc (.cells (padW 8 []) 25)).setRow (w3.heap.size + 1) (u32c uu)) w1.heap.size 79 (u32c ws) := (((C5.alloc _).rowFar (by omega) _).alloc _).rowFar (by omega) _
  have D7 : Blk ((((w3.alloc (.cells (padW 64 []) 79)).setRow w3.heap.size (u32c kc)).alloc (.cells (padW 8 []) 25)).setRow (w3.heap.size + 1) (u32c uu)) w3.heap.size 79 (u32c kc) := (((Blk.new w3 79 (padW 64 [])).row _).alloc _).rowFar (by omega) _
  have D6 : Blk ((((w3.alloc (.cells (padW 64 []) 79)).setRow w3.heap.size (u32c kc)).alloc (.cells (padW 8 []) 25)).setRow (w3.heap.size + 1) (u32c uu)) (w3.heap.size + 1) 25 (u32c uu) := (Blk.new2 w3 _ _ _ _ _).row _
  have DB : Below w.heap.size w ((((w3.alloc (.cells (padW 64 []) 79)).setRow w3.heap.size (u32c kc)).alloc (.cells (padW 8 []) 25)).setRow (w3.heap.size + 1) (u32c uu)) := setRow_below (ba (setRow_below (ba CB _) (by omega) _) _) (by omega) _
  have HB := Lib.hid (And.intro D0 (And.intro D1 (And.intro D5 (And.intro D7 (And.intro D6 DB)))))
  clear HC C0 C1 C5 CB D0 D1 D5 D7 D6 DB
  rw [z64_cells, z8_cells] at HB
  generalize World.setRow _ _ _ = w4 at *
  go_loopw [8] (fun i wr => ∃ k : Nat, k ≤ 64 ∧ i = .int .i64 k ∧ Blk wr w.heap.size 25 (u32c uu) ∧ Blk wr (w.heap.size + 1) 25 (padW 8 []) ∧ Blk wr w1.heap.size 79 (u32c ws) ∧ Blk wr w3.heap.size 79 (u32c kc) ∧ Blk wr (w3.heap.size + 1) 25 (u32c (rounds ws uu k)) ∧ Below w.heap.size w wr) (fun i _ => 64 - (intOf i).toNat)
  case atStart =>
    obtain ⟨B0, B1, B5, B7, B6, BB⟩ := HB.out
    rw [← z8_cells] at B1
    exact ⟨0, by omega, rfl, B0, B1, B5, B7, B6, BB⟩
  case round =>
    clear HB
    obtain ⟨k, hk, rfl, h0, h1, h5, h7, h6, hb⟩ := hrel
    by_cases hlt : k < 64
    · obtain ⟨v, hv⟩ : ∃ v, v = rounds ws uu k := ⟨_, rfl⟩
      have hvn : rounds ws uu (k + 1) = rnd (KC.getD k 0) (ws.getD k 0) v := by rw [rounds, ← hv]
      obtain ⟨a, b', c', d, e, f, i, j, hv8⟩ := eight v (by rw [hv]; exact rounds_length ws uu HL.out.1 k)
      rw [← hv, hv8] at h6
      obtain ⟨K, hK⟩ : ∃ K, KC.getD k 0 = K := ⟨_, rfl⟩
      obtain ⟨x, hx⟩ : ∃ x, ws.getD k 0 = x := ⟨_, rfl⟩
      rw [hv8, hK, hx] at hvn
      have c6 := cl8 h6
      have f0 := h6.frozen 0
      have f1 := h6.frozen 1
      have f2 := h6.frozen 2
      have f3 := h6.frozen 3
      have f4 := h6.frozen 4
      have f5 := h6.frozen 5
      have f6 := h6.frozen 6
      have f7 := h6.frozen 7
      have cw := blk_get h5 k _ (u32c_at ws k (by rw [HL.out.2.2.1]; exact hlt))
      rw [hx] at cw
      have ck := blk_get h7 k _ (u32c_at kc k (by rw [HK.out.2]; exact hlt))
      rw [HK.out.1, hK] at ck
      obtain ⟨S1, hS1⟩ : ∃ s, s = rr e 6 ^^^ rr e 11 ^^^ rr e 25 := ⟨_, rfl⟩
      obtain ⟨S0, hS0⟩ : ∃ s, s = rr a 2 ^^^ rr a 13 ^^^ rr a 22 := ⟨_, rfl⟩
      obtain ⟨CH, hCH⟩ : ∃ s, s = e &&& f ^^^ ~~~e &&& i := ⟨_, rfl⟩
      obtain ⟨MJ, hMJ⟩ : ∃ s, s = a &&& b' ^^^ a &&& c' ^^^ b' &&& c' := ⟨_, rfl⟩
      obtain ⟨t1, ht1⟩ : ∃ t, t = j + S1 + CH + K + x := ⟨_, rfl⟩
      obtain ⟨t2, ht2⟩ : ∃ t, t = S0 + MJ := ⟨_, rfl⟩
      have p1 := bxor_wd (rr e 6) (rr e 11)
      have p2 := bxor_wd (rr e 6 ^^^ rr e 11) (rr e 25)
      rw [← hS1] at p2
      have p3 := bxor_wd (rr a 2) (rr a 13)
      have p4 := bxor_wd (rr a 2 ^^^ rr a 13) (rr a 22)
      rw [← hS0] at p4
      have p5 := band_wd e f
      have p6 := bnot_wd e
      have p7 := band_wd (~~~e) i
      have p8 := bxor_wd (e &&& f) (~~~e &&& i)
      rw [← hCH] at p8
      have p9 := band_wd a b'
      have p10 := band_wd a c'
      have p11 := band_wd b' c'
      have p12 := bxor_wd (a &&& b') (a &&& c')
      have p13 := bxor_wd (a &&& b' ^^^ a &&& c') (b' &&& c')
      rw [← hMJ] at p13
      have q1 := add_wd j S1
      have q2 := add_wd (j + S1) CH
      have q3 := add_wd (j + S1 + CH) K
      have q4 := add_wd (j + S1 + CH + K) x
      rw [← ht1] at q4
      have q5 := add_wd S0 MJ
      rw [← ht2] at q5
      have q6 := add_wd t1 t2
      have q7 := add_wd d t1
      have k64 : (k : Int) < 64 := by omega
      have H := Lib.hid (And.intro h0 (And.intro h1 (And.intro h5 (And.intro h7 (And.intro h6 (And.intro hb (And.intro hvn (And.intro ht1 ht2))))))))
      have HS := Lib.hid (And.intro hS1 (And.intro hS0 (And.intro hCH hMJ)))
      clear h0 h1 h5 h7 h6 hb hvn hK hv hv8 hx hS1 hS0 hCH hMJ ht1 ht2
      go_wp2
      go_quiet ((first | (go_at_call 65; with_reducible exact Calls.quiet_of_same (rturn_is e 6 6 rfl (by decide) (by decide) _)) | (go_at_call 65; with_reducible exact Calls.quiet_of_same (rturn_is e 11 11 rfl (by decide) (by decide) _)) | (go_at_call 65; with_reducible exact Calls.quiet_of_same (rturn_is e 25 25 rfl (by decide) (by decide) _))))
      go_wp2
      go_quiet ((first | (go_at_call 65; with_reducible exact quiet_addS (rturn_is a 2 2 rfl (by decide) (by decide) _)) | (go_at_call 65; with_reducible exact quiet_addS (rturn_is a 13 13 rfl (by decide) (by decide) _)) | (go_at_call 65; with_reducible exact quiet_addS (rturn_is a 22 22 rfl (by decide) (by decide) _))))
      go_wp2
      obtain ⟨h0, h1, h5, h7, h6, hb, hvn, ht1, ht2⟩ := H.out
      obtain ⟨hS1, hS0, hCH, hMJ⟩ := HS.out
      go_roundw
      case rel =>
        refine ⟨k + 1, by omega, by go_num, ?_, ?_, ?_, ?_, ?_, ?_⟩
        · exact ((((((((h0.drewN _).far (by omega) _).far (by omega) _).far (by omega) _).far (by omega) _).far (by omega) _).far (by omega) _).far (by omega) _).far (by omega) _
        · exact ((((((((h1.drewN _).far (by omega) _).far (by omega) _).far (by omega) _).far (by omega) _).far (by omega) _).far (by omega) _).far (by omega) _).far (by omega) _
        · exact ((((((((h5.drewN _).far (by omega) _).far (by omega) _).far (by omega) _).far (by omega) _).far (by omega) _).far (by omega) _).far (by omega) _).far (by omega) _
        · exact ((((((((h7.drewN _).far (by omega) _).far (by omega) _).far (by omega) _).far (by omega) _).far (by omega) _).far (by omega) _).far (by omega) _).far (by omega) _
        · rw [hvn]
          have e8 : rnd K x [a, b', c', d, e, f, i, j] = [t1 + t2, a, b', c', d + t1, e, f, i] := by
            rw [ht1, ht2, hS1, hS0, hCH, hMJ]; rfl
          rw [e8, ← set8 a b' c' d e f i j]
          have e5 := add5_wd (j + S1) CH K x t2
          have e6 := add14_wd d (j + S1) CH K x
          rw [← ht1] at e5 e6
          rw [e5, e6]
          exact ((((((((h6.drewN _).set_ 0 _).set_ 1 _).set_ 2 _).set_ 3 _).set_ 4 _).set_ 5 _).set_ 6 _).set_ 7 _
        · exact ((((((((bdN hb _).setCell (by simp; omega) _).setCell (by simp; omega) _).setCell (by simp; omega) _).setCell (by simp; omega) _).setCell (by simp; omega) _).setCell (by simp; omega) _).setCell (by simp; omega) _).setCell (by simp; omega) _
      case measure => simp [intOf]; omega
    · obtain rfl : k = 64 := by omega
      obtain ⟨v, hv⟩ : ∃ v, v = rounds ws uu 64 := ⟨_, rfl⟩
      have hvl : v.length = 8 := by rw [hv]; exact rounds_length ws uu HL.out.1 64
      rw [← hv] at h6
      have hres := HL.out.2.2.2.1
      rw [← hv, ← addW_full v uu hvl HL.out.1] at hres
      have HR := Lib.hid (And.intro hres (And.intro hv hvl))
      rw [← addW_zero v uu hvl] at h6
      have HB := Lib.hid (And.intro h0 (And.intro h1 (And.intro h6 hb))); clear h0 h1 h5 h7 h6 hb hres hv hvl hlt
      rw [show ((64 : Nat) : Int) = 64 from rfl]
      go_wp2
      go_loopw [11] (fun i wr => ∃ k : Nat, k ≤ 8 ∧ i = .int .i64 k ∧ Blk wr w.heap.size 25 (u32c uu) ∧ Blk wr (w.heap.size + 1) 25 (padW 8 []) ∧ Blk wr (w3.heap.size + 1) 25 (u32c (addW v uu k)) ∧ Below w.heap.size w wr) (fun i _ => 8 - (intOf i).toNat)
      case atStart =>
        obtain ⟨h0, h1, h6, hb⟩ := HB.out
        exact ⟨0, by omega, rfl, h0, h1, h6, hb⟩
      case round =>
        clear HB
        obtain ⟨k, hk, rfl, h0, h1, h6, hb⟩ := hrel
        by_cases hlt : k < 8
        · obtain ⟨x, hx⟩ : ∃ x, x = v.getD k 0 := ⟨_, rfl⟩
          obtain ⟨y, hy⟩ : ∃ y, y = uu.getD k 0 := ⟨_, rfl⟩
          have cx := blk_get h6 k _ (u32c_at _ k (by rw [addW_length]; exact hlt))
          rw [addW_at v uu k hlt, ← hx] at cx
          have cy := blk_get h0 k _ (u32c_at uu k (by rw [HL.out.1]; exact hlt))
          rw [← hy] at cy
          have fx := h6.frozen k
          have k8 : (k : Int) < 8 := by omega
          have q1 := add_wd x y
          have H := Lib.hid (And.intro h0 (And.intro h1 (And.intro h6 (And.intro hb (And.intro hx hy))))); clear h0 h1 h6 hb hx hy
          go_wp2
          go_region
          go_wp2
          obtain ⟨h0, h1, h6, hb, hx, hy⟩ := H.out
          go_roundw
          case rel =>
            refine ⟨k + 1, by omega, by go_num, (h0.far (by omega) _).drew, (h1.far (by omega) _).drew, ?_, (hb.setCell (by simp; omega) _).drew⟩
            rw [← addW_set v uu k hlt, ← hx, ← hy]
            try rw [add2_wd]
            exact (h6.set_ k _).drew
          case measure => simp [intOf]; omega
        · obtain rfl : k = 8 := by omega
          have hl8 := addW_length v uu 8
          have hres := HR.out.1
          obtain ⟨r, hr⟩ : ∃ r, r = addW v uu 8 := ⟨_, rfl⟩
          rw [← hr] at h6 hl8 hres
          have HR2 := Lib.hid (And.intro hres hr); clear hres hr
          have sr : (u32c r).size = 8 := by rw [u32c_size, hl8]
          have ir := is8 (u32c r) sr
          have s1 : (padW 8 []).size = (u32c r).size := by rw [sr]; exact padW_size 8 [] (by simp)
          have ar := u32c_one r
          have H := Lib.hid (And.intro h1 (And.intro h6 hb)); clear h0 h1 h6 hb hl8 sr
          go_wp2_with (first | with_reducible refine wl_row H.out.2.1 _ _ rfl rfl rfl _ _ Tryd.underlying25 ir ?_ | with_reducible refine ws_row H.out.1 _ _ _ _ rfl rfl rfl rfl ir s1 ar ?_)
          obtain ⟨h1, h6, hb⟩ := H.out
          refine bodyPost_ret (v := .agg (u32c r)) ?_ rfl ⟨by rw [HR2.out.1], setRow_below hb (by omega) _⟩
          exact results_row rfl _ _ _ _ _ rfl (h1.row _) Tryd.underlying25 ir
end Go.Proofs.YtfebknplkbeblaaDoor
