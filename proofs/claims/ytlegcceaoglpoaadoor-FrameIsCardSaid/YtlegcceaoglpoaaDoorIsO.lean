/- The document's Start, Constant, Initial; Sha2Start: its walk. What the document's Block comes to, of a whole block. What the document's Pad, Sane come to. What the document's Write comes to, of any state. A region that draws its order, whose values are known by what holds of them, also behind it. -/
import Derived.Test.YtlegcceaoglpoaaDoorIsH
import Derived.Test.YtlegcceaoglpoaaDoorIsN
import Derived.Test.YtlegcceaoglpoaaDoorIsD
import Derived.Test.YtlegcceaoglpoaaDoorIsE
import Derived.Test.YtlegcceaoglpoaaDoorIsF
namespace Go.Proofs.YtlegcceaoglpoaaDoor
open Go.RowKit
set_option linter.unusedVariables false
def cV (i : Int) : Nat := if 0 ≤ i ∧ i ≤ 63 then wn (KC.getD i.toNat 0) else 0
def iV (i : Int) : Nat := if 0 ≤ i ∧ i ≤ 7 then wn (HI.getD i.toNat 0) else 0
theorem Constant_all (i : Int) (w : World) (hL : Laid w) : Calls Tryd.prog 60 #[.int .i64 i] w fun e w' => e = .returned (.int .u32 (cV i)) ∧ Below w.heap.size w w' := by
  by_cases h : 0 ≤ i ∧ i ≤ 63
  · obtain ⟨k, rfl⟩ : ∃ k : Nat, i = k := ⟨i.toNat, by omega⟩
    have e : cV (k : Int) = wn (KC.getD k 0) := by unfold cV; rw [if_pos h, Int.toNat_natCast]
    rw [e]
    exact (Constant_any k (by omega) _ rfl w hL).mono fun _ _ ⟨h1, h2⟩ => ⟨h1, h2 ▸ Below.refl _ _⟩
  · have e : cV i = 0 := by unfold cV; rw [if_neg h]
    rw [e]
    exact (Constant_no i (by omega) w).mono fun _ _ ⟨h1, h2⟩ => ⟨h1, h2 ▸ Below.refl _ _⟩
theorem Initial_all (i : Int) (w : World) (hL : Laid w) : Calls Tryd.prog 51 #[.int .i64 i] w fun e w' => e = .returned (.int .u32 (iV i)) ∧ Below w.heap.size w w' := by
  by_cases h : 0 ≤ i ∧ i ≤ 7
  · obtain ⟨k, rfl⟩ : ∃ k : Nat, i = k := ⟨i.toNat, by omega⟩
    have e : iV (k : Int) = wn (HI.getD k 0) := by unfold iV; rw [if_pos h, Int.toNat_natCast]
    rw [e]
    exact (Initial_any k (by omega) _ rfl w hL).mono fun _ _ ⟨h1, h2⟩ => ⟨h1, h2 ▸ Below.refl _ _⟩
  · have e : iV i = 0 := by unfold iV; rw [if_neg h]
    rw [e]
    exact (Initial_no i (by omega) w).mono fun _ _ ⟨h1, h2⟩ => ⟨h1, h2 ▸ Below.refl _ _⟩
set_option maxRecDepth 100000 in
theorem RInitial_in (k : Nat) (hk : k < 8) (w : World) : Calls Tryd.prog 55 #[.int .i64 k] w fun e w' => e = .returned (.int .u32 (wn (HI.getD k 0))) ∧ Below w.heap.size w w' := by
  rcases (show k = 0 ∨ k = 1 ∨ k = 2 ∨ k = 3 ∨ k = 4 ∨ k = 5 ∨ k = 6 ∨ k = 7 from by omega) with rfl | rfl | rfl | rfl | rfl | rfl | rfl | rfl
  all_goals
    go_enter Tryd.func55, Tryd.ntmps55
    go_wp2
    go_ret
    exact ⟨rfl, ba (Below.refl _ _) _⟩
set_option maxRecDepth 100000 in
theorem RInitial_no (i : Int) (h : i < 0 ∨ 7 < i) (w : World) : Calls Tryd.prog 55 #[.int .i64 i] w fun e w' => e = .returned (.int .u32 0) ∧ Below w.heap.size w w' := by
  by_cases h0 : i < 0
  · go_enter Tryd.func55, Tryd.ntmps55
    go_wp2
    go_ret
    exact ⟨rfl, ba (Below.refl _ _) _⟩
  · have h7 : 7 < i := by omega
    go_enter Tryd.func55, Tryd.ntmps55
    go_wp2
    go_ret
    exact ⟨rfl, ba (Below.refl _ _) _⟩
theorem RInitial_all (i : Int) (w : World) : Calls Tryd.prog 55 #[.int .i64 i] w fun e w' => e = .returned (.int .u32 (iV i)) ∧ Below w.heap.size w w' := by
  by_cases h : 0 ≤ i ∧ i ≤ 7
  · obtain ⟨k, rfl⟩ : ∃ k : Nat, i = k := ⟨i.toNat, by omega⟩
    have e : iV (k : Int) = wn (HI.getD k 0) := by unfold iV; rw [if_pos h, Int.toNat_natCast]
    rw [e]
    exact RInitial_in k (by omega) w
  · have e : iV i = 0 := by unfold iV; rw [if_neg h]
    rw [e]
    exact RInitial_no i (by omega) w
theorem wl_run {P : Program} {w : World} {ops : Array Oper} {rest : List Oper} {o : Oper} {a : Act} {Q : Exit → Act → World → Prop} {u : Value} (hgd : o.guard = none) (hrun : (execOp a.eval o).run P w = .ok (.value u) w) (k : wpList P ops Q rest (a.put o.dst u) w) : wpList P ops Q (o :: rest) a w :=
  wpList_plain hgd fun _ hK => by
    unfold Oper.wp
    rw [hrun]
    exact hK _ _ k
theorem KC_length : KC.length = 64 := by kernel_rfl
set_option maxRecDepth 100000 in
set_option maxHeartbeats 4000000 in
theorem Constants_any (w : World) : Calls Tryd.prog 62 #[] w fun e w' => e = .returned (.agg (u32c KC)) ∧ Below w.heap.size w w' := by
  obtain ⟨K, hK⟩ : ∃ K, K = u32c KC := ⟨_, rfl⟩
  have sK : K.size = 64 := by rw [hK, u32c_size]; exact KC_length
  have aK : K.all (·.oneCell') = true := by rw [hK]; exact u32c_one _
  have iK := is64 K sK
  have sZ : (#[.int .u32 0, .int .u32 0, .int .u32 0, .int .u32 0, .int .u32 0, .int .u32 0, .int .u32 0, .int .u32 0, .int .u32 0, .int .u32 0, .int .u32 0, .int .u32 0, .int .u32 0, .int .u32 0, .int .u32 0, .int .u32 0, .int .u32 0, .int .u32 0, .int .u32 0, .int .u32 0, .int .u32 0, .int .u32 0, .int .u32 0, .int .u32 0, .int .u32 0, .int .u32 0, .int .u32 0, .int .u32 0, .int .u32 0, .int .u32 0, .int .u32 0, .int .u32 0, .int .u32 0, .int .u32 0, .int .u32 0, .int .u32 0, .int .u32 0, .int .u32 0, .int .u32 0, .int .u32 0, .int .u32 0, .int .u32 0, .int .u32 0, .int .u32 0, .int .u32 0, .int .u32 0, .int .u32 0, .int .u32 0, .int .u32 0, .int .u32 0, .int .u32 0, .int .u32 0, .int .u32 0, .int .u32 0, .int .u32 0, .int .u32 0, .int .u32 0, .int .u32 0, .int .u32 0, .int .u32 0, .int .u32 0, .int .u32 0, .int .u32 0, .int .u32 0] : Array Value).size = K.size := by rw [sK]; rfl
  have HK := Lib.hid hK; clear hK sK
  have N : Blk _ w.heap.size 99 #[.int .u32 0, .int .u32 0, .int .u32 0, .int .u32 0, .int .u32 0, .int .u32 0, .int .u32 0, .int .u32 0, .int .u32 0, .int .u32 0, .int .u32 0, .int .u32 0, .int .u32 0, .int .u32 0, .int .u32 0, .int .u32 0, .int .u32 0, .int .u32 0, .int .u32 0, .int .u32 0, .int .u32 0, .int .u32 0, .int .u32 0, .int .u32 0, .int .u32 0, .int .u32 0, .int .u32 0, .int .u32 0, .int .u32 0, .int .u32 0, .int .u32 0, .int .u32 0, .int .u32 0, .int .u32 0, .int .u32 0, .int .u32 0, .int .u32 0, .int .u32 0, .int .u32 0, .int .u32 0, .int .u32 0, .int .u32 0, .int .u32 0, .int .u32 0, .int .u32 0, .int .u32 0, .int .u32 0, .int .u32 0, .int .u32 0, .int .u32 0, .int .u32 0, .int .u32 0, .int .u32 0, .int .u32 0, .int .u32 0, .int .u32 0, .int .u32 0, .int .u32 0, .int .u32 0, .int .u32 0, .int .u32 0, .int .u32 0, .int .u32 0, .int .u32 0] := Blk.new w 99 #[.int .u32 0, .int .u32 0, .int .u32 0, .int .u32 0, .int .u32 0, .int .u32 0, .int .u32 0, .int .u32 0, .int .u32 0, .int .u32 0, .int .u32 0, .int .u32 0, .int .u32 0, .int .u32 0, .int .u32 0, .int .u32 0, .int .u32 0, .int .u32 0, .int .u32 0, .int .u32 0, .int .u32 0, .int .u32 0, .int .u32 0, .int .u32 0, .int .u32 0, .int .u32 0, .int .u32 0, .int .u32 0, .int .u32 0, .int .u32 0, .int .u32 0, .int .u32 0, .int .u32 0, .int .u32 0, .int .u32 0, .int .u32 0, .int .u32 0, .int .u32 0, .int .u32 0, .int .u32 0, .int .u32 0, .int .u32 0, .int .u32 0, .int .u32 0, .int .u32 0, .int .u32 0, .int .u32 0, .int .u32 0, .int .u32 0, .int .u32 0, .int .u32 0, .int .u32 0, .int .u32 0, .int .u32 0, .int .u32 0, .int .u32 0, .int .u32 0, .int .u32 0, .int .u32 0, .int .u32 0, .int .u32 0, .int .u32 0, .int .u32 0, .int .u32 0]
  go_enter Tryd.func62, Tryd.ntmps62
  go_wp2_with (first | with_reducible refine ws_row N _ _ _ _ rfl rfl rfl rfl iK sZ aK ?_ | (with_reducible refine wl_run (o := ⟨some 1, _, _, _, _, _⟩) (u := .agg K) rfl (by rw [HK.out]; kernel_rfl) ?_))
  refine bodyPost_ret (v := .agg K) ?_ rfl ⟨by rw [HK.out], setRow_below ((Below.refl _ _).alloc (Nat.le_refl _) _) (Nat.le_refl _) _⟩
  exact results_cell_row rfl _ _ _ _ _ (0, 0) _ rfl (N.row _) Tryd.underlying99 rfl iK
set_option maxRecDepth 100000 in
set_option maxHeartbeats 400000 in
theorem RStart_any (w : World) :
    Calls Tryd.prog 44 #[] w fun e w' => e = .returned (.agg (stC HI (.slice none 0 0) 0)) ∧ Below w.heap.size w w' := by
  go_enter Tryd.func44, Tryd.ntmps44
  go_wp2
  go_loopw [2] (fun i wr => ∃ k : Nat, k ≤ 8 ∧ i = .int .i64 k ∧ Blk wr w.heap.size 87 (startC 0) ∧ Blk wr (w.heap.size + 1) 87 (startC k) ∧ Below w.heap.size w wr) (fun i _ => 8 - (intOf i).toNat)
  case atStart =>
    refine ⟨0, by omega, rfl, ?_, ?_, ?_⟩
    · rw [startC_zero]; exact (Blk.newAt _ _ _ rfl).alloc _
    · rw [startC_zero]; exact Blk.second w _ _ _
    · exact ba (ba (Below.refl _ _) _) _
  case round =>
    obtain ⟨k, hk, rfl, h0, h1, hb⟩ := hrel
    by_cases hlt : k < 8
    · obtain ⟨x, hx⟩ : ∃ x, HI.getD k 0 = x := ⟨_, rfl⟩
      have cI := RInitial_in k hlt wr
      rw [hx] at cI
      have kl : (k : Int) < 8 := by omega
      have k0 : 0 ≤ (k : Int) := by omega
      have J := Lib.hid (And.intro h0 (And.intro h1 (And.intro hb (And.intro cI hx)))); clear h0 h1 hb cI hx
      go_wp2_with fail
      refine J.out.2.2.2.1.mono ?_
      rintro e w2 ⟨rfl, hb2⟩
      obtain ⟨v, hv⟩ := startC_at k k hlt
      have D1 := J.out.2.1.calls hb2
      have c1 := blk_get D1 k _ hv
      have f1 := D1.frozen k
      have D := Lib.hid (And.intro (J.out.1.calls hb2) (And.intro D1 (bt J.out.2.2.1 hb2))); clear D1 hb2
      go_wp2
      go_roundw
      case rel =>
        refine ⟨k + 1, by omega, by go_num, D.out.1.far (by omega) _, ?_, D.out.2.2.setCell (by simp) _⟩
        rw [← startC_set k hlt, J.out.2.2.2.2]
        exact D.out.2.1.set_ k _
      case measure => simp [intOf]; omega
    · obtain rfl : k = 8 := by omega
      have kl : ¬ ((8 : Nat) : Int) < 8 := by omega
      rw [startC_full] at h1
      obtain ⟨S, hS⟩ : ∃ S, S = stC HI (.slice none 0 0) 0 := ⟨_, rfl⟩
      have sS : S.size = 10 := by rw [hS]; exact stC_size _ _ _ HI_length
      have aS : S.all (·.oneCell') = true := by rw [hS]; exact stC_one _ _ _ _ _
      have s0 : (startC 0).size = S.size := by rw [sS]; rfl
      rw [← hS] at h1
      have iS := isRS S sS
      have J := Lib.hid (And.intro h0 (And.intro h1 (And.intro hb hS))); clear h0 h1 hb hS
      go_wp2_with (first | with_reducible refine wl_st J.out.2.1 _ _ rfl rfl rfl _ Tryd.underlying87 iS ?_ | with_reducible refine ws_row J.out.1 _ _ _ _ rfl rfl rfl rfl iS s0 aS ?_)
      refine bodyPost_ret (v := .agg S) ?_ rfl ⟨by rw [J.out.2.2.2], setRow_below J.out.2.2.1 (Nat.le_refl _) _⟩
      exact results_cell_row rfl _ _ _ _ _ (0, 0) _ rfl (J.out.1.row _) Tryd.underlying87 rfl iS
end Go.Proofs.YtlegcceaoglpoaaDoor

namespace Go.Proofs.YtlegcceaoglpoaaDoor
open Go.RowKit
set_option linter.unusedVariables false
theorem add14_wd (f a b c d : Wd) : ((wn f : Int) + ((wn a : Int) + (wn b : Int) + (wn c : Int) + (wn d : Int))) % 4294967296 = (wn (f + (a + b + c + d)) : Int) := by
  simp only [wn, BitVec.toNat_add]
  omega
set_option maxRecDepth 100000 in
set_option maxHeartbeats 4000000 in
theorem RBlock_any (uu : List Wd) (hh : uu.length = 8) (g off c : Nat) (b : List UInt8) (w : World) (hr : Rd w g off b) (hg : g < w.heap.size) (hl : b.length = 64) :
    Calls Tryd.prog 54 #[.agg (u32c uu), .slice (some ⟨g, off, none⟩) 64 c] w fun e w' => e = .returned (.agg (u32c (blk uu b))) ∧ Below w.heap.size w w' := by
  have s2 : (u32c uu).size = 8 := by rw [u32c_size, hh]
  have i2 := is8 (u32c uu) s2
  have s0 : (padW 8 []).size = (u32c uu).size := by rw [s2]; exact padW_size 8 [] (by simp)
  rw [z8_cells] at s0
  have a2 := u32c_one uu
  obtain ⟨ws, hws⟩ : ∃ ws, ws = wordsOf b := ⟨_, rfl⟩
  have hwl : ws.length = 64 := by rw [hws]; exact extW_length b 48
  have hres : blk uu b = List.zipWith (· + ·) (rounds ws uu 64) uu := by unfold blk; rw [if_pos hl, hws]
  have HL := Lib.hid (And.intro hh (And.intro hws (And.intro hwl (And.intro hres (And.intro hr hl))))); clear hh hws hwl hres hr hl
  go_enter Tryd.func54, Tryd.ntmps54
  go_wp2_with fail
  refine (rwords_any g off c b _ (fun i hi => (World.cell?_alloc_lt _ _ _ (by simp; omega)).trans ((World.cell?_alloc_lt _ _ _ hg).trans (HL.out.2.2.2.2.1 i hi))) (by simp; omega) HL.out.2.2.2.2.2).mono ?_
  rintro e w1 ⟨rfl, hb1⟩
  rw [← HL.out.2.1]
  have A0 : Blk w1 w.heap.size 81 (u32c uu) := ((Blk.newAt w _ (u32c uu) rfl).alloc _).calls hb1
  have A1 : Blk w1 (w.heap.size + 1) 81 (padW 8 []) := by rw [z8_cells]; exact (Blk.second w _ _ _).calls hb1
  have AB : Below w.heap.size w w1 := bt (ba (ba (Below.refl _ _) _) _) hb1
  have z0 := A0.lt
  have z1 := A1.lt
  have i3 := is64 (u32c ws) (by rw [u32c_size, HL.out.2.2.1])
  have s3 : (padW 64 []).size = (u32c ws).size := by rw [u32c_size, HL.out.2.2.1]; exact padW_size 64 [] (by simp)
  rw [z64_cells] at s3
  have a3 := u32c_one ws
  have HA := Lib.hid (And.intro A0 (And.intro A1 AB)); clear hb1 A0 A1 AB
  go_wp2_with (with_reducible refine ws_row (Blk.new w1 _ _) _ _ _ _ rfl rfl rfl rfl i3 s3 a3 ?_)
  obtain ⟨A0, A1, AB⟩ := HA.out
  have B0 : Blk ((w1.alloc (.cells (padW 64 []) 99)).setRow w1.heap.size (u32c ws)) w.heap.size 81 (u32c uu) := (A0.alloc _).rowFar (by omega) _
  have B1 : Blk ((w1.alloc (.cells (padW 64 []) 99)).setRow w1.heap.size (u32c ws)) (w.heap.size + 1) 81 (padW 8 []) := (A1.alloc _).rowFar (by omega) _
  have B5 : Blk ((w1.alloc (.cells (padW 64 []) 99)).setRow w1.heap.size (u32c ws)) w1.heap.size 99 (u32c ws) := (Blk.new w1 99 (padW 64 [])).row _
  have BB : Below w.heap.size w ((w1.alloc (.cells (padW 64 []) 99)).setRow w1.heap.size (u32c ws)) := setRow_below (ba AB _) (by omega) _
  have HB := Lib.hid (And.intro B0 (And.intro B1 (And.intro B5 BB)))
  clear HA A0 A1 AB B0 B1 B5 BB
  rw [z64_cells] at HB
  generalize World.setRow _ _ _ = w2 at *
  refine (Constants_any w2).mono ?_
  rintro e w3 ⟨rfl, hb3⟩
  obtain ⟨kc, hkc⟩ : ∃ kc, kc = KC := ⟨_, rfl⟩
  rw [← hkc]
  have hkl : kc.length = 64 := by rw [hkc]; rfl
  have C0 := HB.out.1.calls hb3
  have C1 := HB.out.2.1.calls hb3
  have C5 := HB.out.2.2.1.calls hb3
  have CB := bt HB.out.2.2.2 hb3
  have y0 := C0.lt
  have y1 := C1.lt
  have y5 := C5.lt
  have iK := is64 (u32c kc) (by rw [u32c_size, hkl])
  have sK : (padW 64 []).size = (u32c kc).size := by rw [u32c_size, hkl]; exact padW_size 64 [] (by simp)
  rw [z64_cells] at sK
  have aK := u32c_one kc
  have HK := Lib.hid (And.intro hkc hkl); clear hkc hkl
  have HC := Lib.hid (And.intro C0 (And.intro C1 (And.intro C5 CB))); clear hb3 C0 C1 C5 CB HB
  go_wp2_with (first | with_reducible refine ws_row (Blk.new w3 _ _) _ _ _ _ rfl rfl rfl rfl iK sK aK ?_ | with_reducible refine wl_row ((HC.out.1.alloc _).rowFar (by omega) _) _ _ rfl rfl rfl _ _ Tryd.underlying81 i2 ?_ | with_reducible refine ws_row (Blk.new2 w3 _ _ _ _ _) _ _ _ _ rfl rfl rfl rfl i2 s0 a2 ?_)
  obtain ⟨C0, C1, C5, CB⟩ := HC.out
  have D0 : Blk ((((w3.alloc (.cells (padW 64 []) 99)).setRow w3.heap.size (u32c kc)).alloc (.cells (padW 8 []) 81)).setRow (w3.heap.size + 1) (u32c uu)) w.heap.size 81 (u32c uu) := (((C0.alloc _).rowFar (by omega) _).alloc _).rowFar (by omega) _
  have D1 : Blk ((((w3.alloc (.cells (padW 64 []) 99)).setRow w3.heap.size (u32c kc)).alloc (.cells (padW 8 []) 81)).setRow (w3.heap.size + 1) (u32c uu)) (w.heap.size + 1) 81 (padW 8 []) := (((C1.alloc _).rowFar (by omega) _).alloc _).rowFar (by omega) _
  have D5 : Blk ((((w3.alloc (.cells (padW 64 []) 99)).setRow w3.heap.size (u32c kc)).alloc (.cells (padW 8 []) 81)).setRow (w3.heap.size + 1) (u32c uu)) w1.heap.size 99 (u32c ws) := (((C5.alloc _).rowFar (by omega) _).alloc _).rowFar (by omega) _
  have D7 : Blk ((((w3.alloc (.cells (padW 64 []) 99)).setRow w3.heap.size (u32c kc)).alloc (.cells (padW 8 []) 81)).setRow (w3.heap.size + 1) (u32c uu)) w3.heap.size 99 (u32c kc) := (((Blk.new w3 99 (padW 64 [])).row _).alloc _).rowFar (by omega) _
  have D6 : Blk ((((w3.alloc (.cells (padW 64 []) 99)).setRow w3.heap.size (u32c kc)).alloc (.cells (padW 8 []) 81)).setRow (w3.heap.size + 1) (u32c uu)) (w3.heap.size + 1) 81 (u32c uu) := (Blk.new2 w3 _ _ _ _ _).row _
  have DB : Below w.heap.size w ((((w3.alloc (.cells (padW 64 []) 99)).setRow w3.heap.size (u32c kc)).alloc (.cells (padW 8 []) 81)).setRow (w3.heap.size + 1) (u32c uu)) := setRow_below (ba (setRow_below (ba CB _) (by omega) _) _) (by omega) _
  have HB := Lib.hid (And.intro D0 (And.intro D1 (And.intro D5 (And.intro D7 (And.intro D6 DB)))))
  clear HC C0 C1 C5 CB D0 D1 D5 D7 D6 DB
  rw [z64_cells, z8_cells] at HB
  generalize World.setRow _ _ _ = w4 at *
  go_loopw [8] (fun i wr => ∃ k : Nat, k ≤ 64 ∧ i = .int .i64 k ∧ Blk wr w.heap.size 81 (u32c uu) ∧ Blk wr (w.heap.size + 1) 81 (padW 8 []) ∧ Blk wr w1.heap.size 99 (u32c ws) ∧ Blk wr w3.heap.size 99 (u32c kc) ∧ Blk wr (w3.heap.size + 1) 81 (u32c (rounds ws uu k)) ∧ Below w.heap.size w wr) (fun i _ => 64 - (intOf i).toNat)
  case atStart =>
    obtain ⟨B0, B1, B5, B7, B6, BB⟩ := HB.out
    rw [← z8_cells] at B1
    exact ⟨0, by omega, rfl, B0, B1, B5, B7, B6, BB⟩
  case round =>
    clear HB
    obtain ⟨k, hk, rfl, h0, h1, h5, h7, h6, hb⟩ := hrel
    by_cases hlt : k < 64
    · obtain ⟨v, hv⟩ : ∃ v, v = rounds ws uu k := ⟨_, rfl⟩
      have hvn : rounds ws uu (k + 1) = rnd (KC.getD k 0) (ws.getD k 0) v := by rw [rounds, ← hv]
      obtain ⟨a, b', c', d, e, f, i, j, hv8⟩ := eight v (by rw [hv]; exact rounds_length ws uu HL.out.1 k)
      rw [← hv, hv8] at h6
      obtain ⟨K, hK⟩ : ∃ K, KC.getD k 0 = K := ⟨_, rfl⟩
      obtain ⟨x, hx⟩ : ∃ x, ws.getD k 0 = x := ⟨_, rfl⟩
      rw [hv8, hK, hx] at hvn
      have c6 := cl8 h6
      have f0 := h6.frozen 0
      have f1 := h6.frozen 1
      have f2 := h6.frozen 2
      have f3 := h6.frozen 3
      have f4 := h6.frozen 4
      have f5 := h6.frozen 5
      have f6 := h6.frozen 6
      have f7 := h6.frozen 7
      have cw := blk_get h5 k _ (u32c_at ws k (by rw [HL.out.2.2.1]; exact hlt))
      rw [hx] at cw
      have ck := blk_get h7 k _ (u32c_at kc k (by rw [HK.out.2]; exact hlt))
      rw [HK.out.1, hK] at ck
      obtain ⟨S1, hS1⟩ : ∃ s, s = rr e 6 ^^^ rr e 11 ^^^ rr e 25 := ⟨_, rfl⟩
      obtain ⟨S0, hS0⟩ : ∃ s, s = rr a 2 ^^^ rr a 13 ^^^ rr a 22 := ⟨_, rfl⟩
      obtain ⟨CH, hCH⟩ : ∃ s, s = e &&& f ^^^ ~~~e &&& i := ⟨_, rfl⟩
      obtain ⟨MJ, hMJ⟩ : ∃ s, s = a &&& b' ^^^ a &&& c' ^^^ b' &&& c' := ⟨_, rfl⟩
      obtain ⟨t1, ht1⟩ : ∃ t, t = j + S1 + CH + K + x := ⟨_, rfl⟩
      obtain ⟨t2, ht2⟩ : ∃ t, t = S0 + MJ := ⟨_, rfl⟩
      have p1 := bxor_wd (rr e 6) (rr e 11)
      have p2 := bxor_wd (rr e 6 ^^^ rr e 11) (rr e 25)
      rw [← hS1] at p2
      have p3 := bxor_wd (rr a 2) (rr a 13)
      have p4 := bxor_wd (rr a 2 ^^^ rr a 13) (rr a 22)
      rw [← hS0] at p4
      have p5 := band_wd e f
      have p6 := bnot_wd e
      have p7 := band_wd (~~~e) i
      have p8 := bxor_wd (e &&& f) (~~~e &&& i)
      rw [← hCH] at p8
      have p9 := band_wd a b'
      have p10 := band_wd a c'
      have p11 := band_wd b' c'
      have p12 := bxor_wd (a &&& b') (a &&& c')
      have p13 := bxor_wd (a &&& b' ^^^ a &&& c') (b' &&& c')
      rw [← hMJ] at p13
      have q1 := add_wd j S1
      have q2 := add_wd (j + S1) CH
      have q3 := add_wd (j + S1 + CH) K
      have q4 := add_wd (j + S1 + CH + K) x
      rw [← ht1] at q4
      have q5 := add_wd S0 MJ
      rw [← ht2] at q5
      have q6 := add_wd t1 t2
      have q7 := add_wd d t1
      have k64 : (k : Int) < 64 := by omega
      have H := Lib.hid (And.intro h0 (And.intro h1 (And.intro h5 (And.intro h7 (And.intro h6 (And.intro hb (And.intro hvn (And.intro ht1 ht2))))))))
      have HS := Lib.hid (And.intro hS1 (And.intro hS0 (And.intro hCH hMJ)))
      clear h0 h1 h5 h7 h6 hb hvn hK hv hv8 hx hS1 hS0 hCH hMJ ht1 ht2
      go_wp2
      go_quiet ((first | (go_at_call 63; with_reducible exact Calls.quiet_of_same (rturn_is e 6 6 rfl (by decide) (by decide) _)) | (go_at_call 63; with_reducible exact Calls.quiet_of_same (rturn_is e 11 11 rfl (by decide) (by decide) _)) | (go_at_call 63; with_reducible exact Calls.quiet_of_same (rturn_is e 25 25 rfl (by decide) (by decide) _))))
      go_wp2
      go_quiet ((first | (go_at_call 63; with_reducible exact quiet_addS (rturn_is a 2 2 rfl (by decide) (by decide) _)) | (go_at_call 63; with_reducible exact quiet_addS (rturn_is a 13 13 rfl (by decide) (by decide) _)) | (go_at_call 63; with_reducible exact quiet_addS (rturn_is a 22 22 rfl (by decide) (by decide) _))))
      go_wp2
      obtain ⟨h0, h1, h5, h7, h6, hb, hvn, ht1, ht2⟩ := H.out
      obtain ⟨hS1, hS0, hCH, hMJ⟩ := HS.out
      go_roundw
      case rel =>
        refine ⟨k + 1, by omega, by go_num, ?_, ?_, ?_, ?_, ?_, ?_⟩
        · exact ((((((((h0.drewN _).far (by omega) _).far (by omega) _).far (by omega) _).far (by omega) _).far (by omega) _).far (by omega) _).far (by omega) _).far (by omega) _
        · exact ((((((((h1.drewN _).far (by omega) _).far (by omega) _).far (by omega) _).far (by omega) _).far (by omega) _).far (by omega) _).far (by omega) _).far (by omega) _
        · exact ((((((((h5.drewN _).far (by omega) _).far (by omega) _).far (by omega) _).far (by omega) _).far (by omega) _).far (by omega) _).far (by omega) _).far (by omega) _
        · exact ((((((((h7.drewN _).far (by omega) _).far (by omega) _).far (by omega) _).far (by omega) _).far (by omega) _).far (by omega) _).far (by omega) _).far (by omega) _
        · rw [hvn]
          have e8 : rnd K x [a, b', c', d, e, f, i, j] = [t1 + t2, a, b', c', d + t1, e, f, i] := by
            rw [ht1, ht2, hS1, hS0, hCH, hMJ]; rfl
          rw [e8, ← set8 a b' c' d e f i j]
          have e5 := add5_wd (j + S1) CH K x t2
          have e6 := add14_wd d (j + S1) CH K x
          rw [← ht1] at e5 e6
          rw [e5, e6]
          exact ((((((((h6.drewN _).set_ 0 _).set_ 1 _).set_ 2 _).set_ 3 _).set_ 4 _).set_ 5 _).set_ 6 _).set_ 7 _
        · exact ((((((((bdN hb _).setCell (by simp; omega) _).setCell (by simp; omega) _).setCell (by simp; omega) _).setCell (by simp; omega) _).setCell (by simp; omega) _).setCell (by simp; omega) _).setCell (by simp; omega) _).setCell (by simp; omega) _
      case measure => simp [intOf]; omega
    · obtain rfl : k = 64 := by omega
      obtain ⟨v, hv⟩ : ∃ v, v = rounds ws uu 64 := ⟨_, rfl⟩
      have hvl : v.length = 8 := by rw [hv]; exact rounds_length ws uu HL.out.1 64
      rw [← hv] at h6
      have hres := HL.out.2.2.2.1
      rw [← hv, ← addW_full v uu hvl HL.out.1] at hres
      have HR := Lib.hid (And.intro hres (And.intro hv hvl))
      rw [← addW_zero v uu hvl] at h6
      have HB := Lib.hid (And.intro h0 (And.intro h1 (And.intro h6 hb))); clear h0 h1 h5 h7 h6 hb hres hv hvl hlt
      rw [show ((64 : Nat) : Int) = 64 from rfl]
      go_wp2
      go_loopw [11] (fun i wr => ∃ k : Nat, k ≤ 8 ∧ i = .int .i64 k ∧ Blk wr w.heap.size 81 (u32c uu) ∧ Blk wr (w.heap.size + 1) 81 (padW 8 []) ∧ Blk wr (w3.heap.size + 1) 81 (u32c (addW v uu k)) ∧ Below w.heap.size w wr) (fun i _ => 8 - (intOf i).toNat)
      case atStart =>
        obtain ⟨h0, h1, h6, hb⟩ := HB.out
        exact ⟨0, by omega, rfl, h0, h1, h6, hb⟩
      case round =>
        clear HB
        obtain ⟨k, hk, rfl, h0, h1, h6, hb⟩ := hrel
        by_cases hlt : k < 8
        · obtain ⟨x, hx⟩ : ∃ x, x = v.getD k 0 := ⟨_, rfl⟩
          obtain ⟨y, hy⟩ : ∃ y, y = uu.getD k 0 := ⟨_, rfl⟩
          have cx := blk_get h6 k _ (u32c_at _ k (by rw [addW_length]; exact hlt))
          rw [addW_at v uu k hlt, ← hx] at cx
          have cy := blk_get h0 k _ (u32c_at uu k (by rw [HL.out.1]; exact hlt))
          rw [← hy] at cy
          have fx := h6.frozen k
          have k8 : (k : Int) < 8 := by omega
          have q1 := add_wd x y
          have H := Lib.hid (And.intro h0 (And.intro h1 (And.intro h6 (And.intro hb (And.intro hx hy))))); clear h0 h1 h6 hb hx hy
          go_wp2
          go_region
          go_wp2
          obtain ⟨h0, h1, h6, hb, hx, hy⟩ := H.out
          go_roundw
          case rel =>
            refine ⟨k + 1, by omega, by go_num, (h0.far (by omega) _).drew, (h1.far (by omega) _).drew, ?_, (hb.setCell (by simp; omega) _).drew⟩
            rw [← addW_set v uu k hlt, ← hx, ← hy]
            try rw [add2_wd]
            exact (h6.set_ k _).drew
          case measure => simp [intOf]; omega
        · obtain rfl : k = 8 := by omega
          have hl8 := addW_length v uu 8
          have hres := HR.out.1
          obtain ⟨r, hr⟩ : ∃ r, r = addW v uu 8 := ⟨_, rfl⟩
          rw [← hr] at h6 hl8 hres
          have HR2 := Lib.hid (And.intro hres hr); clear hres hr
          have sr : (u32c r).size = 8 := by rw [u32c_size, hl8]
          have ir := is8 (u32c r) sr
          have s1 : (padW 8 []).size = (u32c r).size := by rw [sr]; exact padW_size 8 [] (by simp)
          have ar := u32c_one r
          have H := Lib.hid (And.intro h1 (And.intro h6 hb)); clear h0 h1 h6 hb hl8 sr
          go_wp2_with (first | with_reducible refine wl_row H.out.2.1 _ _ rfl rfl rfl _ _ Tryd.underlying81 ir ?_ | with_reducible refine ws_row H.out.1 _ _ _ _ rfl rfl rfl rfl ir s1 ar ?_)
          obtain ⟨h1, h6, hb⟩ := H.out
          refine bodyPost_ret (v := .agg (u32c r)) ?_ rfl ⟨by rw [HR2.out.1], setRow_below hb (by omega) _⟩
          exact results_row rfl _ _ _ _ _ rfl (h1.row _) Tryd.underlying81 ir
end Go.Proofs.YtlegcceaoglpoaaDoor

namespace Go.Proofs.YtlegcceaoglpoaaDoor
open Go.RowKit
set_option linter.unusedVariables false
def padP (j : Nat) : List UInt8 := 128 :: List.replicate j 0
theorem padP_snoc (j : Nat) : padP j ++ [0] = padP (j + 1) := by
  unfold padP
  rw [List.cons_append, List.replicate_succ']
def padQ (n k : Nat) : List UInt8 := padP (zerosOf n) ++ (byB (n * 8 % W64) 8).take k
theorem padQ_zero (n : Nat) : padQ n 0 = padP (zerosOf n) := by unfold padQ; rw [List.take_zero, List.append_nil]
theorem padQ_full (n : Nat) : padQ n 8 = padOf n := by
  unfold padQ padP padOf
  rw [List.take_of_length_le (by rw [byB_length]; omega), List.cons_append]
theorem padQ_snoc (n k : Nat) (h : k < 8) : padQ n k ++ [UInt8.ofNat (n * 8 % W64 / 256 ^ (7 - k) % 256)] = padQ n (k + 1) := by
  unfold padQ
  have hb := byB_at (n * 8 % W64) 8 k h
  rw [show 8 - 1 - k = 7 - k by omega] at hb
  have hl := byB_length (n * 8 % W64) 8
  rw [List.take_add_one, ← List.append_assoc, ← hb]
  congr 1
  rw [List.getElem?_eq_getElem (by omega)]
  simp [List.getD, List.getElem?_eq_getElem (show k < (byB (n * 8 % W64) 8).length by omega)]
set_option maxRecDepth 100000 in
set_option maxHeartbeats 1000000 in
theorem RPad_any (n : Nat) (hn : n < W64) (w : World) :
    Calls Tryd.prog 53 #[.int .u64 n] w fun e w' => ∃ v, e = .returned v ∧ Below w.heap.size w w' ∧ ∃ (a : Option Addr) (c : Nat), v = .slice a (padOf n).length c ∧ RdS w' a (padOf n) ∧ (padOf n).length ≤ c ∧ c ≤ maxLen ∧ (a = none → (padOf n).length = 0 ∧ c = 0) := by
  obtain ⟨z, hz⟩ : ∃ z, z = zerosOf n := ⟨_, rfl⟩
  obtain ⟨r, hr⟩ : ∃ r, r = n % 64 := ⟨_, rfl⟩
  have hri : (n : Int) % 64 = (r : Int) := by omega
  have hr64 : r < 64 := by omega
  have hz64 : z < 64 := by rw [hz]; unfold zerosOf; split <;> omega
  have hzr : r + z = 55 ∨ r + z = 119 := by rw [hz, hr]; unfold zerosOf; split <;> omega
  have hzr' : (r ≤ 55 ∧ r + z = 55) ∨ (55 < r ∧ r + z = 119) := by rw [hz, hr]; unfold zerosOf; split <;> omega
  obtain ⟨m, hm⟩ : ∃ m, m = n * 8 % W64 := ⟨_, rfl⟩
  have hmW : m < 18446744073709551616 := by rw [hm]; exact Nat.mod_lt _ W64_pos
  have hmi : IntKind.u64.wrap ((n : Int) * 8) = (m : Int) := by
    rw [hm, IntKind.wrap_u64]
    unfold W64
    omega
  have hmi' : ((n : Int) * 8) % 18446744073709551616 = (m : Int) := by
    rw [hm]
    unfold W64
    omega
  have F := Lib.hid (And.intro hz (And.intro hr (And.intro hm (And.intro hn (And.intro hzr hzr'))))); clear hz hr hm hn hzr hzr'
  obtain ⟨i0, hi, hz0, hz1, hz2⟩ := info_parts (show (Tryd.prog.info? 5).map (fun i => (i.zero, i.size, i.bytes)) = some (some (.int .u8 0), 1, 1) by kernel_rfl)
  have I := Lib.hid (And.intro hi (And.intro hz0 (And.intro hz1 hz2))); clear hi hz0 hz1 hz2
  go_enter Tryd.func53, Tryd.ntmps53
  go_wp2
  go_loopw [3] (fun v wr => ∃ j : Nat, j ≤ z ∧ wr.ownsRow w.heap.size 5 1 v (j + 1) ((padP j).map fun c => Value.int .u8 (c.toNat : Int)) ∧ Below w.heap.size w wr) (fun v _ => 64 - lenS v)
  case atStart =>
    exact ⟨0, by omega, own_laid w [128] 5 1 rfl (by unfold maxLen; omega) (Nat.le_refl _), ba (Below.refl _ _) _⟩
  case round =>
    obtain ⟨j, hj, ho, hb⟩ := hrel
    obtain ⟨va, vc, rfl⟩ := own_slice ho
    obtain ⟨p, hp⟩ : ∃ p, p = j + 1 := ⟨_, rfl⟩
    rw [← hp] at ho ⊢
    obtain ⟨s, hs⟩ : ∃ s, s = r + p := ⟨_, rfl⟩
    obtain ⟨t, ht⟩ : ∃ t, t = s + 8 := ⟨_, rfl⟩
    have e1 : IntKind.u64.wrap (p : Int) = (p : Int) := by rw [IntKind.wrap_u64]; omega
    have e2 : (r : Int) + (p : Int) = (s : Int) := by omega
    have e3 : IntKind.u64.wrap (s : Int) = (s : Int) := by rw [IntKind.wrap_u64]; omega
    have e4 : (s : Int) + 8 = (t : Int) := by omega
    have e5 : IntKind.u64.wrap (t : Int) = (t : Int) := by rw [IntKind.wrap_u64]; omega
    by_cases hlt : j < z
    · have hne : ¬ (t : Int) % 64 = 0 := by have := F.out.2.2.2.2.2; omega
      have hpb : p ≤ 64 := by omega
      have H := Lib.hid (And.intro ho (And.intro hb (And.intro hp (And.intro hs (And.intro ht hj))))); clear ho hb hj hp hs ht
      go_wp2_with (at_builtin; refine wl_one (H.out.1.alloc _) rfl _ _ 23 rfl Tryd.underlying23 i0 I.out.1 I.out.2.1 I.out.2.2.1 I.out.2.2.2 rfl wr.heap.size 1 0 rfl (by rw [(Blk.new wr _ _).cell]; rfl) (by omega) (by have := H.out.2.1.size; simp; omega) ?_)
      intro v' w2 ho hg hnil
      have BB := below_grown (ba H.out.2.1 (.cells #[.int .u8 0] 5)) hg (by have := H.out.2.1.size; simp; omega) (by intro k hk; exact (H.out.1.lt _ hk).1)
      have G := Lib.hid (And.intro ho BB); clear ho BB hg hnil
      go_wp2
      go_roundw
      case rel =>
        have hp := H.out.2.2.1
        refine ⟨j + 1, by omega, ?_, G.out.2⟩
        rw [← padP_snoc, ← hp, List.map_append]
        exact G.out.1
      case measure =>
        obtain ⟨a', c', rfl⟩ := own_slice G.out.1
        have hp := H.out.2.2.1
        simp [lenS]; omega
    · obtain rfl : j = z := by omega
      have hne : (t : Int) % 64 = 0 := by have := F.out.2.2.2.2.2; omega
      have H := Lib.hid (And.intro ho (And.intro hb (And.intro hp (And.intro hs ht)))); clear ho hb hj hlt hp hs ht
      go_wp2
      try simp only [hri, hne]
      go_loopw [3, 5] (fun v i wr => ∃ k : Nat, k ≤ 8 ∧ i = .int .i64 ((k : Int) - 1) ∧ ∃ d : Nat, d = 8 - k ∧ ∃ q : Nat, q = p + d ∧ wr.ownsRow w.heap.size 5 1 v q ((padQ n d).map fun c => Value.int .u8 (c.toNat : Int)) ∧ Below w.heap.size w wr) (fun v i _ => (intOf i + 1).toNat)
      case atStart =>
        refine ⟨8, by omega, rfl, 0, rfl, p, rfl, ?_, H.out.2.1⟩
        rw [padQ_zero, ← F.out.1]
        exact H.out.1
      case round =>
        obtain ⟨k, hk, rfl, d, hd, q, hq, ho, hb⟩ := hrel
        obtain ⟨va, vc, rfl⟩ := own_slice ho
        by_cases hk0 : k = 0
        · subst hk0
          obtain rfl : d = 8 := by omega
          have L := Lib.hid (And.intro ho (And.intro hb hq)); clear ho hb hq
          rw [show ((0 : Nat) : Int) - 1 = -1 from rfl]
          go_wp2
          obtain ⟨ho, hb, hq⟩ := L.out
          rw [padQ_full] at ho
          obtain ⟨a, c, he, hl, h1, h2, h3, h4⟩ := own_rds ho
          injection he with he1 _ he2
          subst he1 he2
          go_ret
          exact ⟨.slice va q vc, rfl, hb, va, vc, by rw [hl], h1, by rw [hl]; exact h2, h3, fun h => ⟨List.length_eq_zero_iff.1 (by rw [hl]; exact (h4 h).1), (h4 h).2⟩⟩
        · obtain ⟨s', rfl⟩ : ∃ s', k = s' + 1 := ⟨k - 1, by omega⟩
          have es : ((s' + 1 : Nat) : Int) - 1 = (s' : Int) := by omega
          rw [es]
          obtain ⟨y, hy⟩ : ∃ y, y = 8 * s' := ⟨_, rfl⟩
          have ey : (8 : Int) * (s' : Int) = (y : Int) := by omega
          have ey2 : IntKind.u64.wrap (y : Int) = (y : Int) := by rw [IntKind.wrap_u64]; omega
          have y64 : y < 64 := by omega
          obtain ⟨x, hx⟩ : ∃ x, x = UInt8.ofNat (m / 256 ^ s' % 256) := ⟨_, rfl⟩
          have hv : ((m : Nat) : Int) / (2 : Int) ^ y % (256 : Int) = ((x.toNat : Nat) : Int) := by
            have h8 : x.toNat = m / 256 ^ s' % 256 := by rw [hx]; simp
            rw [h8, show (256 : Nat) = 2 ^ 8 from rfl, ← Nat.pow_mul, ← hy]
            generalize hyy : m / 2 ^ y = yy
            have e : ((m : Nat) : Int) / (2 : Int) ^ y = (yy : Int) := by rw [← hyy]; push_cast; rfl
            rw [e]
            push_cast
            rfl
          have hs0 : (0 : Int) ≤ (s' : Int) := by omega
          have L := Lib.hid (And.intro ho (And.intro hb (And.intro hq (And.intro hy (And.intro hx (And.intro hd hk)))))); clear ho hb hy hx hk hq hd hk0 es
          go_wp2_with (at_builtin; refine wl_one (L.out.1.alloc _) rfl _ _ 23 rfl Tryd.underlying23 i0 I.out.1 I.out.2.1 I.out.2.2.1 I.out.2.2.2 rfl wr.heap.size 1 x rfl (by rw [(Blk.new wr _ _).cell]; rfl) (by have := L.out.2.2.1; have := L.out.2.2.2.2.2.1; have := H.out.2.2.1; omega) (by have := L.out.2.1.size; simp; omega) ?_)
          intro v' w2 ho hg hnil
          have BB := below_grown (ba L.out.2.1 (.cells #[.int .u8 x.toNat] 5)) hg (by have := L.out.2.1.size; simp; omega) (by intro k hk; exact (L.out.1.lt _ hk).1)
          have G := Lib.hid (And.intro ho BB); clear ho BB hg hnil
          go_wp2
          go_roundw
          case rel =>
            have hd := L.out.2.2.2.2.2.1
            have hk := L.out.2.2.2.2.2.2
            have hq := L.out.2.2.1
            refine ⟨s', by omega, by go_num, d + 1, by omega, q + 1, by omega, ?_, G.out.2⟩
            have hdd : 7 - d = s' := by omega
            rw [← padQ_snoc n d (by omega), hdd, ← F.out.2.2.1, ← L.out.2.2.2.2.1, List.map_append]
            exact G.out.1
          case measure => simp [intOf]; try omega
set_option maxHeartbeats 400000 in
theorem RSane_any (H : List Wd) (hH : H.length = 8) (a : Option Addr) (len c n : Nat) (hn : n < W64) (hlen : len ≤ 9223372036854775807) (b : Bool) (hb : decide (len = n % 64) = b) (w : World) :
    Calls Tryd.prog 52 #[.agg (stC H (.slice a len c) n)] w fun e w' => e = .returned (.bool b) ∧ Below w.heap.size w w' := by
  obtain ⟨x0, x1, x2, x3, x4, x5, x6, x7, rfl⟩ := eight H hH
  rw [stC_lit]
  have hn' : n < 18446744073709551616 := hn
  have hb' : ((len : Int) == ((n : Int) % 64)) = b := by
    rw [← hb, Bool.eq_iff_iff]
    simp
    omega
  have HB := Lib.hid (And.intro hb hn); clear hb hn hH
  go_enter Tryd.func52, Tryd.ntmps52
  go_wp2
  go_ret
  exact ⟨rfl, (Below.refl _ _).alloc (Nat.le_refl _) _⟩
end Go.Proofs.YtlegcceaoglpoaaDoor

namespace Go.Proofs.YtlegcceaoglpoaaDoor
open Go.RowKit
set_option linter.unusedVariables false
def RWPost (w : World) (He : List Wd) (t : List UInt8) (N : Nat) (e : Ending) (w' : World) : Prop :=
  ∃ (a : Option Addr) (c : Nat), e = .returned (.agg (stC (absH He t) (.slice a (absR t).length c) N)) ∧ RdS w' a (absR t) ∧ (absR t).length ≤ c ∧ c ≤ maxLen ∧ (a = none → (absR t).length = 0 ∧ c = 0) ∧ Below w.heap.size w w'
theorem rds_rowFar {w : World} {a : Option Addr} {l : List UInt8} {g g3 o3 b : Nat} (hne : g ≠ b) (c : Array Value) (h1 : a = some ⟨g3, o3, none⟩) (hg : g3 = g) (h2 : g3 < w.heap.size) (h3 : Rd w g3 o3 l) : RdS (w.setRow b c) a l := by
  have hb := setRow_below (B := b) (w0 := w) (w := w) (Below.refl _ _) (Nat.le_refl _) c
  subst hg
  refine .inr ⟨g3, o3, h1, Nat.lt_of_lt_of_le h2 hb.size, fun i hi => ?_⟩
  have h := h3 i hi
  have e : (w.setRow b c).heap[g3]? = w.heap[g3]? := by simp [World.setRow, Array.getElem?_modify, Ne.symm hne]
  unfold World.cell? at h ⊢
  rw [e]
  exact h
theorem z8_at {w : World} {g : Nat} (h : Blk w g 81 (padW 8 [])) : Blk w g 81 #[.int .u32 0, .int .u32 0, .int .u32 0, .int .u32 0, .int .u32 0, .int .u32 0, .int .u32 0, .int .u32 0] := z8_cells ▸ h
set_option maxRecDepth 100000 in
set_option maxHeartbeats 4000000 in
theorem RWrite_any (H : List Wd) (hH : H.length = 8) (a : Option Addr) (rest : List UInt8) (len c n : Nat) (hn : n < W64) (hrl : rest.length = len) (hlc : len ≤ c) (hcm : c ≤ maxLen) (hl47 : len ≤ 70368744177664) (hnoa : a = none → len = 0 ∧ c = 0)
    (a' : Option Addr) (t : List UInt8) (m c' : Nat) (hm : t.length = m) (hc : m ≤ c') (hc2 : m ≤ 70368744177664 ∧ c' ≤ 9223372036854775807) (hno : a' = none → m = 0 ∧ c' = 0) (w : World) (hrr : RdS w a rest) (hr : RdS w a' t) :
    Calls Tryd.prog 43 #[.agg (stC H (.slice a len c) n), .slice a' m c'] w (RWPost w (effH H len n) (effR rest len n ++ t) ((effN len n + m) % W64)) := by
  have hRe47 : (effR rest len n).length ≤ 70368744177664 := by unfold effR; split; omega; simp
  have hl9 : len ≤ 9223372036854775807 := by unfold maxLen at hcm; omega
  obtain ⟨b, hb⟩ : ∃ b, decide (len = n % 64) = b := ⟨_, rfl⟩
  have iS := isRS (stC H (.slice a len c) n) (stC_size _ _ _ hH)
  have cS := fun w => RSane_any H hH a len c n hn hl9 b hb w
  obtain ⟨S, hS⟩ : ∃ S, S = stC H (.slice a len c) n := ⟨_, rfl⟩
  have sS : S.size = 10 := by rw [hS]; exact stC_size _ _ _ hH
  rw [← hS] at iS cS ⊢
  obtain ⟨ae, ce, hae, hce1, hce2, hrae, hnoe⟩ : ∃ (ae : Option Addr) (ce : Nat), ((b = true ∧ ae = a ∧ ce = c) ∨ (b = false ∧ ae = none ∧ ce = 0)) ∧ (effR rest len n).length ≤ ce ∧ ce ≤ maxLen ∧ RdS w ae (effR rest len n) ∧ (ae = none → (effR rest len n).length = 0 ∧ ce = 0) := by
    cases hbb : b with
    | true =>
      have : len = n % 64 := by rw [hbb] at hb; simpa using hb
      refine ⟨a, c, .inl ⟨rfl, rfl, rfl⟩, ?_, hcm, ?_, ?_⟩ <;> simp only [effR, if_pos this]
      · omega
      · exact hrr
      · rw [hrl]; exact hnoa
    | false =>
      have : ¬ len = n % 64 := by rw [hbb] at hb; simpa using hb
      refine ⟨none, 0, .inr ⟨rfl, rfl, rfl⟩, ?_, Nat.zero_le _, ?_, ?_⟩ <;> simp only [effR, if_neg this]
      · exact Nat.le_refl _
      · exact .inl rfl
      · simp
  obtain ⟨SE, hSE⟩ : ∃ SE, SE = stC (effH H len n) (.slice ae (effR rest len n).length ce) (effN len n) := ⟨_, rfl⟩
  have hcase : (b = true ∧ S = SE) ∨ (b = false ∧ stC HI (.slice none 0 0) 0 = SE) := by
    rcases hae with ⟨h1, h2, h3⟩ | ⟨h1, h2, h3⟩
    · have : len = n % 64 := by rw [h1] at hb; simpa using hb
      exact .inl ⟨h1, by rw [hS, hSE, h2, h3]; simp only [effH, effR, effN, if_pos this, hrl]⟩
    · have : ¬ len = n % 64 := by rw [h1] at hb; simpa using hb
      exact .inr ⟨h1, by rw [hSE, h2, h3]; simp only [effH, effR, effN, if_neg this]; rfl⟩
  have hHe : (effH H len n).length = 8 := by unfold effH; split; exact hH; exact HI_length
  have hne : effN len n < W64 := by unfold effN; split; exact hn; exact W64_pos
  have hsane : (effR rest len n).length = effN len n % 64 := by unfold effR effN; split <;> simp_all
  clear hae hl9 hrl hlc hcm hrr hS hnoa
  generalize effH H len n = He at *
  generalize effR rest len n = Re at *
  generalize effN len n = ne at *
  have sE : SE.size = 10 := by rw [hSE]; exact stC_size _ _ _ hHe
  have iE := isRS SE sE
  have aE : SE.all (·.oneCell') = true := by rw [hSE]; exact stC_one _ _ _ _ _
  have sSE : S.size = SE.size := by rw [sS, sE]
  obtain ⟨N, hN⟩ : ∃ N, N = (ne + m) % W64 := ⟨_, rfl⟩
  have hNi := add_num ne m hne
  rw [← hN] at hNi ⊢
  obtain ⟨rl, hrl⟩ : ∃ rl, rl = Re.length := ⟨_, rfl⟩
  rw [← hrl] at hce1 hsane hSE hRe47 hnoe
  have F := Lib.hid (And.intro hSE (And.intro hHe (And.intro hne (And.intro hsane (And.intro hrae (And.intro hr (And.intro hm (And.intro hN hrl)))))))); clear hSE hHe hne hsane hrae hr hm hN hrl hb
  have CS := Lib.hid cS; clear cS
  obtain ⟨i0, hi, hz0, hz1, hz2⟩ := info_parts (show (Tryd.prog.info? 5).map (fun i => (i.zero, i.size, i.bytes)) = some (some (.int .u8 0), 1, 1) by kernel_rfl)
  have I := Lib.hid (And.intro hi (And.intro hz0 (And.intro hz1 hz2))); clear hi hz0 hz1 hz2
  go_enter Tryd.func43, Tryd.ntmps43
  go_wp2_with (with_reducible refine wl_st ((Blk.newAt w _ S rfl).alloc _) _ _ rfl rfl rfl _ Tryd.underlying87 iS ?_)
  refine (CS.out _).mono ?_
  rintro e w1 ⟨rfl, hb1⟩
  have A0 : Blk w1 w.heap.size 87 S := ((Blk.newAt w _ S rfl).alloc _).calls hb1
  have A1 : Blk w1 (w.heap.size + 1) 87 (startC 0) := by rw [startC_zero]; exact (Blk.second w _ _ _).calls hb1
  have AB : Below w.heap.size w w1 := bt (ba (ba (Below.refl _ _) _) _) hb1
  have z0 := A0.lt
  have z1 := A1.lt
  clear hb1
  go_upto_if 9 with fail
  go_cut [] (fun wx => Blk wx w.heap.size 87 SE ∧ Blk wx (w.heap.size + 1) 87 (startC 0) ∧ Below w.heap.size w wx)
  case first =>
    rcases hcase with ⟨h1, h2⟩ | ⟨h1, h2⟩
    · subst h1
      rw [h2] at A0
      have HA := Lib.hid (And.intro A0 (And.intro A1 AB)); clear A0 A1 AB h2
      go_wp2_with fail
      go_meet
      exact HA.out
    · subst h1
      have HA := Lib.hid (And.intro A0 (And.intro A1 AB)); clear A0 A1 AB
      have h2' := Lib.hid h2; clear h2
      go_wp2_with fail
      refine (RStart_any _).mono ?_
      rintro e w2 ⟨rfl, hb2⟩
      rw [h2'.out]
      have B0 := HA.out.1.calls hb2
      have B1 := HA.out.2.1.calls hb2
      have BB := bt HA.out.2.2 hb2
      have HB := Lib.hid (And.intro B0 (And.intro B1 BB)); clear B0 B1 BB hb2 HA
      go_wp2_with (with_reducible refine ws_row HB.out.1 _ _ _ _ rfl rfl rfl rfl iE sSE aE ?_)
      go_meet
      exact ⟨HB.out.1.row _, HB.out.2.1.rowFar (by omega) _, setRow_below HB.out.2.2 (by omega) _⟩
  case rest =>
    obtain ⟨B0, B1, BB⟩ := hcut
    clear hcase sSE iS A0 A1 AB CS z0 z1
    have z0 := B0.lt
    have z1 := B1.lt
    have B := Lib.hid (And.intro B0 (And.intro B1 BB)); clear B0 B1 BB
    have cc := B.out.1.cell
    rw [F.out.1] at cc
    have c8 := cc 8
    rw [stC_rest _ _ _ F.out.2.1] at c8
    have c9 := cc 9
    rw [stC_num _ _ _ F.out.2.1] at c9
    clear cc
    have wz : w.heap.size ≤ wc.heap.size := B.out.2.2.size
    have own : (wc.alloc (.cells #[] 5)).ownsRow wc.heap.size 5 1 (.slice (some ⟨wc.heap.size, 0, none⟩) 0 0) 0 (([] : List UInt8).map fun c => Value.int .u8 (c.toNat : Int)) := World.ownsRow_made wc #[] 0 (Nat.le_refl _) (by unfold maxLen; omega) rfl
    have O := Lib.hid own; clear own
    go_wp2_with (at_builtin; refine wl_app O.out rfl _ _ 23 rfl Tryd.underlying23 i0 I.out.1 I.out.2.1 I.out.2.2.1 I.out.2.2.2 rfl ae rl ce Re rfl (F.out.2.2.2.2.1.below (ba B.out.2.2 (.cells #[] 5)) (Nat.le_refl _)) F.out.2.2.2.2.2.2.2.2.symm hnoe (by omega) (by simp) ?_)
    intro v1 w2 hw1 hg1 hn1
    replace hw1 : w2.ownsRow wc.heap.size 5 1 v1 rl (Re.map fun c => Value.int .u8 (c.toNat : Int)) := by simpa using hw1
    obtain ⟨g1, cap1, cur1, rfl, hgb1, hbg1, _, _, _, _⟩ := own_blk hw1 (by simpa using hn1)
    have D0 := (B.out.1.alloc (.cells #[] 5)).grown hg1 (by simp [Value.ownBlock]; omega)
    have D1 := (B.out.2.1.alloc (.cells #[] 5)).grown hg1 (by simp [Value.ownBlock]; omega)
    have DB := below_grown (ba B.out.2.2 (.cells #[] 5)) hg1 (by simp; omega) (by intro k hk; simp [Value.ownBlock] at hk; omega)
    have lt1 := hbg1.lt
    have D := Lib.hid (And.intro hw1 (And.intro D0 (And.intro D1 DB))); clear hw1 D0 D1 DB hg1 hn1 hbg1
    go_wp2_with (at_builtin; refine wl_app D.out.1 rfl _ _ 23 rfl Tryd.underlying23 i0 I.out.1 I.out.2.1 I.out.2.2.1 I.out.2.2.2 rfl a' m c' t rfl (F.out.2.2.2.2.2.1.below D.out.2.2.2 (Nat.le_refl _)) F.out.2.2.2.2.2.2.1 hno (by omega) (by omega) ?_)
    intro v2 w3 hw2 hg2 hn2
    obtain ⟨txt, htx⟩ : ∃ txt, txt = Re ++ t := ⟨_, rfl⟩
    obtain ⟨M, hM⟩ : ∃ M, M = rl + m := ⟨_, rfl⟩
    rw [← List.map_append, ← htx, ← hM] at hw2
    obtain ⟨g, cap, cur3, rfl, hgb2, hbg2, hcp1, hcp2, hlen, hrd⟩ := own_blk hw2 (by simpa using hn2)
    have E0 := D.out.2.1.grown hg2 (by simp [Value.ownBlock]; omega)
    have E1 := D.out.2.2.1.grown hg2 (by simp [Value.ownBlock]; omega)
    have EB := below_grown D.out.2.2.2 hg2 (by omega) (by intro k hk; simp [Value.ownBlock] at hk; omega)
    have ra : RdS w3 (some ⟨g, 0, none⟩) txt := .inr ⟨g, 0, rfl, hbg2.lt, fun i hi => (hbg2.cell (0 + i)).trans (by rw [Nat.zero_add]; exact hrd i hi)⟩
    have e9 := E0.cell 9
    rw [F.out.1, stC_num _ _ _ F.out.2.1] at e9
    have lt3 := E0.lt
    have lt4 := E1.lt
    have i8H := is8 (u32c He) (by rw [u32c_size, F.out.2.1])
    have s8H : (#[.int .u32 0, .int .u32 0, .int .u32 0, .int .u32 0, .int .u32 0, .int .u32 0, .int .u32 0, .int .u32 0] : Array Value).size = (u32c He).size := by rw [u32c_size, F.out.2.1]; rfl
    have a8H := u32c_one He
    have E := Lib.hid (And.intro (E0.to F.out.1) (And.intro E1 (And.intro EB (And.intro ra (And.intro hlen (And.intro htx hM)))))); clear hw2 hg2 hn2 hbg2 hrd E0 E1 EB ra hlen D O htx hM c8 c9
    have hMb : M ≤ 140737488355328 := by have := E.out.2.2.2.2.2.2; omega
    have N4 : Blk _ w3.heap.size 81 #[.int .u32 0, .int .u32 0, .int .u32 0, .int .u32 0, .int .u32 0, .int .u32 0, .int .u32 0, .int .u32 0] := Blk.new w3 81 #[.int .u32 0, .int .u32 0, .int .u32 0, .int .u32 0, .int .u32 0, .int .u32 0, .int .u32 0, .int .u32 0]
    go_wp2_with (first | (refine wpList_load_mid rfl _ _ rfl w.heap.size 0 rfl (u32c He).toList _ (words_range E.out.1 F.out.2.1) Tryd.underlying81 rfl (by simpa using i8H) ?_) | (with_reducible refine ws_row N4 _ _ _ _ rfl rfl rfl rfl i8H s8H a8H ?_))
    have R4 := N4.row (u32c He)
    have RB := setRow_below (g := w3.heap.size) (ba (Below.refl w3.heap.size w3) (.cells #[.int .u32 0, .int .u32 0, .int .u32 0, .int .u32 0, .int .u32 0, .int .u32 0, .int .u32 0, .int .u32 0] 81)) (Nat.le_refl _) (u32c He)
    have R := Lib.hid (And.intro R4 RB); clear R4 RB N4
    generalize World.setRow _ _ _ = w4 at *
    have eM := E.out.2.2.2.2.2.2
    clear eM
    simp only [Act.put]
    go_loopw [5] (fun s wr => ∃ (j : Nat) (a1 : Option Addr) (c1 p : Nat), p = M - 64 * j ∧ 64 * j ≤ M ∧ s = .slice a1 p c1 ∧ p ≤ c1 ∧ c1 ≤ maxLen ∧ RdS w3 a1 (txt.drop (64 * j)) ∧ (a1 = none → p = 0 ∧ c1 = 0) ∧ (∀ ad, a1 = some ad → ad.block = g) ∧ Blk wr w3.heap.size 81 (u32c (blks txt j He)) ∧ Below w3.heap.size w3 wr) (fun s _ => lenS s)
    case atStart =>
      exact ⟨0, some ⟨g, 0, none⟩, cap, M, by omega, by omega, rfl, hcp1, hcp2, E.out.2.2.2.1, (fun h => by cases h), (fun ad h => by injection h with h; rw [← h]), R.out.1, R.out.2⟩
    case round =>
      clear R
      obtain ⟨j, a1, c1, p, hp, hj, rfl, hpc, hc1, hr1, hno1, hbk, h5, hb⟩ := hrel
      have hpi : (p : Int) ≤ 140737488355328 := by omega
      have hc19 : c1 ≤ 9223372036854775807 := by unfold maxLen at hc1; omega
      by_cases h64 : 64 ≤ p
      · obtain ⟨a2, hs2, hr2, _, _⟩ := slice_to a1 (txt.drop (64 * j)) p c1 64 (by rw [drop_length_eq, E.out.2.2.2.2.1, hp]) h64 hpc
        obtain ⟨Hj, hHj⟩ : ∃ Hj, Hj = blks txt j He := ⟨_, rfl⟩
        have hHl : Hj.length = 8 := by rw [hHj]; exact blks_length txt j He F.out.2.1
        obtain ⟨r, hrr⟩ : ∃ r, r = blk Hj ((txt.drop (64 * j)).take 64) := ⟨_, rfl⟩
        have hnext : blks txt (j + 1) He = r := by rw [blks, ← hHj, hrr]
        have hrl : r.length = 8 := by rw [hrr]; exact blk_length _ _ hHl
        have htl : ((txt.drop (64 * j)).take 64).length = 64 := by rw [List.length_take, drop_length_eq, E.out.2.2.2.2.1, ← hp]; omega
        obtain ⟨g2, o2, ha2, hg2, hrd2⟩ : ∃ g off, a2 = some ⟨g, off, none⟩ ∧ g < w3.heap.size ∧ Rd w3 g off ((txt.drop (64 * j)).take 64) := by
          rcases hr2 w3 hr1 with hh | hh
          · rw [hh] at htl; cases htl
          · exact hh
        subst ha2
        have hcall : ∀ w', Below w3.heap.size w3 w' → Calls Tryd.prog 54 #[.agg (u32c Hj), .slice (some ⟨g2, o2, none⟩) 64 c1] w' fun e w'' => e = .returned (.agg (u32c r)) ∧ Below w'.heap.size w' w'' := fun w' hw' => by
          rw [hrr]
          exact RBlock_any Hj hHl g2 o2 c1 _ w' (fun i hi => hrd2.at hw' hg2 i hi) (Nat.lt_of_lt_of_le hg2 hw'.size) htl
        rw [← hHj] at h5
        have l5 := h5.lt
        have i8j := is8 (u32c Hj) (by rw [u32c_size, hHl])
        have s8r : (u32c r).size = 8 := by rw [u32c_size, hrl]
        have s8j : (u32c Hj).size = (u32c r).size := by rw [s8r, u32c_size, hHl]
        have i8r := is8 (u32c r) s8r
        have a8r := u32c_one r
        have hpm : (p : Int) - 64 = ((p - 64 : Nat) : Int) := by omega
        have K := Lib.hid (And.intro h5 (And.intro hb (And.intro hp (And.intro hnext (And.intro hr1 hbk)))))
        clear h5 hb hbk hp hHj hHl hrr hnext hrl htl hr1 hr2 s8r
        have KC := Lib.hid hcall; clear hcall
        have KS := Lib.hid hs2; clear hs2
        go_wp2_with fail
        refine wp_region_tail [some 23, some 24, some 25, some 26, none] (fun i => ([.agg (u32c Hj), .slice a1 p c1, .slice (some ⟨g2, o2, none⟩) 64 c1, .agg (u32c r), undef] : List Value).getD i undef) 4 (fun w' => ∃ wq, Below wr.heap.size wr wq ∧ w' = wq.setRow w3.heap.size (u32c r)) (by kernel_rfl) rfl rfl rfl rfl rfl rfl ⟨
          .inr ⟨rfl, fun A w' hb hs => op_load _ (.tmp 6) rfl ((hs.2 6 rfl).trans rfl) (K.out.1.below hb K.out.1.lt) Tryd.underlying81 i8j⟩,
          .inr ⟨rfl, fun A w' hb hs => op_move (.tmp 5) (.inl rfl) ((hs.2 5 rfl).trans rfl)⟩,
          .inr ⟨rfl, fun A w' hb hs => op_slice_s _ (.tmp 24) none (some (.const (.int .i64 64))) rfl (hs.1 1 rfl 24 rfl) rfl rfl (by kernel_rfl) (KS.out w')⟩,
          .inr ⟨rfl, fun A w' hb hs => op_call 54 _ (exec_call _ 54 _ rfl rfl (margs2 (hs.1 0 rfl 23 rfl) (hs.1 2 rfl 25 rfl)) Tryd.func54 rfl rfl) (KC.out w' (bt K.out.2.1 hb))⟩,
          .inl ⟨rfl, rfl, fun A w' hb hs => wp_store_row _ (.tmp 6) (.tmp 26) rfl w3.heap.size (u32c r) ((hs.2 6 rfl).trans rfl) (hs.1 3 rfl 26 rfl) 81 (u32c Hj) (K.out.1.below hb K.out.1.lt) i8r s8j a8r ⟨rfl, w', hb, rfl⟩⟩, trivial⟩ ?_
        rintro _ ⟨wq, hbq, rfl⟩
        simp only [Fr, if_true, Act.put, List.setIfInBounds_toArray, List.set_cons_zero, List.set_cons_succ, List.getD_cons_zero, List.getD_cons_succ]
        have D5 := (K.out.1.below hbq l5).row (u32c r)
        have DB := setRow_below (g := w3.heap.size) (bt K.out.2.1 hbq) (Nat.le_refl _) (u32c r)
        have D := Lib.hid (And.intro D5 DB); clear D5 DB hbq
        generalize wq.setRow _ _ = w6 at *
        go_wp2
        obtain ⟨D5, DB⟩ := D.out
        obtain ⟨_, _, hp, hnext, hr1, hbk⟩ := K.out
        go_roundw
        case rel =>
          refine ⟨j + 1, _, c1 - 64, p - 64, by omega, by omega, rfl, by omega, by omega, ?_, ?_, ?_, by rw [hnext]; exact D5, DB⟩
          · have := hr1.from (n := p) (c := c1) (k := 64) (by rw [drop_length_eq, E.out.2.2.2.2.1, hp]) h64 hpc
            rw [List.drop_drop, show 64 * j + 64 = 64 * (j + 1) by omega] at this
            exact this
          · intro hnone
            exfalso
            cases a1 with
            | none => have := (hno1 rfl).1; omega
            | some ad => split at hnone <;> cases hnone
          · intro ad had
            split at had
            · exact hbk ad had
            · obtain ⟨x, hx, rfl⟩ := Option.map_eq_some_iff.1 had
              exact hbk x hx
        case measure => simp [lenS]; omega
      · have hjj : txt.length / 64 = j := by rw [E.out.2.2.2.2.1]; omega
        have hpl : p = (absR txt).length := by rw [absR_length, E.out.2.2.2.2.1]; omega
        have hdr : txt.drop (64 * j) = absR txt := by unfold absR; rw [hjj]
        have hHH : blks txt j He = absH He txt := by unfold absH; rw [hjj]
        have hHl : (absH He txt).length = 8 := absH_length _ _ F.out.2.1
        rw [hdr] at hr1
        rw [hHH] at h5
        clear hjj hdr hHH
        have B1 := E.out.2.1.below hb lt4
        have c9 := E.out.1.below hb lt3 |>.cell 9
        rw [stC_num _ _ _ F.out.2.1] at c9
        have i8h := is8 (u32c (absH He txt)) (by rw [u32c_size, hHl])
        have FB := bt E.out.2.2.1 hb
        have rr2 := hr1.below hb (Nat.le_refl _)
        have l5 := h5.lt
        rw [E.out.2.2.2.2.2.1] at rr2 hpl
        have htx := E.out.2.2.2.2.2.1
        obtain ⟨hh, hhh⟩ : ∃ hh, hh = absH He txt := ⟨_, rfl⟩
        rw [← hhh] at h5 i8h hHl
        obtain ⟨y0, y1, y2, y3, y4, y5, y6, y7, rfl⟩ := eight hh hHl
        have K := Lib.hid (And.intro h5 (And.intro B1 (And.intro FB (And.intro rr2 (And.intro hpl (And.intro hhh (And.intro htx hbk))))))); clear h5 B1 hb FB rr2 hpl hhh htx hr1 hp hj hbk
        rw [u32c_lit] at K i8h
        obtain ⟨C, hC⟩ : ∃ C : Array Value, C = #[.int .u32 (wn y0), .int .u32 (wn y1), .int .u32 (wn y2), .int .u32 (wn y3), .int .u32 (wn y4), .int .u32 (wn y5), .int .u32 (wn y6), .int .u32 (wn y7), .slice a1 p c1, .int .u64 N] := ⟨_, rfl⟩
        have sC : C.size = 10 := by rw [hC]; rfl
        have iC := isRS C sC
        have s1 : (startC 0).size = C.size := by rw [sC]; rfl
        have aC : C.all (·.oneCell') = true := by rw [hC]; simp [Value.oneCell']
        rw [hC] at iC s1 aC
        go_wp2_with (first | with_reducible refine wl_row K.out.1 _ _ rfl rfl rfl _ _ Tryd.underlying81 i8h ?_ | with_reducible refine ws_row K.out.2.1 _ _ _ _ rfl rfl rfl rfl iC s1 aC ?_)
        obtain ⟨h5, B1, FB, rr2, hpl, hhh, htx, hbk⟩ := K.out
        refine bodyPost_ret (v := .agg C) ?_ rfl ⟨a1, c1, ?_, ?_, ?_, hc1, by rw [← hpl]; exact hno1, setRow_below FB (by omega) _⟩
        · rw [hC]; exact results_cell_row rfl _ _ _ _ _ (0, 0) _ rfl (B1.row _) Tryd.underlying87 rfl iC
        · rw [← htx, ← hhh, stC_lit, htx, ← hpl, hC]
        · rcases rr2 with h | ⟨g3, o3, h1, h2, h3⟩
          · exact .inl h
          · have hg3 : g3 = g := hbk _ h1
            exact rds_rowFar (show g ≠ w.heap.size + 1 by omega) _ h1 hg3 h2 h3
        · rw [← hpl]; exact hpc
end Go.Proofs.YtlegcceaoglpoaaDoor

namespace Go.Proofs.YtlegcceaoglpoaaDoor
open Go.RowKit
set_option linter.unusedVariables false
/-- All operations but the last leave what is old alone, and of what each yields F holds; the last waits for all. -/
def ValStep2 (P : Program) (Q : Exit → Act → World → Prop) (w0 : World) (dsts : List (Option Tmp)) (F : Nat → Value → World → Prop) (a0 : Act) (n : Nat) (T : (Nat → Value) → World → Prop) (i : Nat) (o : Oper) : Prop :=
  (i = n ∧ ((List.range n).all fun j => (edgesOf o).contains j) = true ∧ ∀ (A : Act) w' (γ : Nat → Value), Below w0.heap.size w0 w' → (∀ j, j < n → F j (γ j) w') → SlotF dsts γ a0 o A → o.wp P A w' (fun a' w'' => ∃ u, a' = A.put o.dst u ∧ T γ w'') Q) ∨
  (Nat.beq i n = false ∧ ∀ (A : Act) w' (γ : Nat → Value), Below w0.heap.size w0 w' → (∀ j, (edgesOf o).contains j = true → F j (γ j) w') → SlotF dsts γ a0 o A → o.wp P A w' (fun a' w'' => ∃ u, a' = A.put o.dst u ∧ Below w'.heap.size w' w'' ∧ F i u w'') Q)
theorem wp_region_vals2 {P : Program} {Q : Exit → Act → World → Prop} {id : Nat} {l : List Oper} {a : Act} {w : World} (dsts : List (Option Tmp)) (F : Nat → Value → World → Prop) (n : Nat) (T : (Nat → Value) → World → Prop) (hTc : ∀ γ γ' w, (∀ j, j < n → γ j = γ' j) → T γ w → T γ' w)
    (hF : ∀ j u w1 w2, F j u w1 → Below w1.heap.size w1 w2 → F j u w2)
    (hm : P.follows .mixedOrders = true) (hds : l.map (·.dst) = dsts) (hnd : nodupD dsts = true) (hng : (l.all fun o => o.guard.isNone) = true) (hord : ordGo 0 l = true) (hin : inD a.tmps.size dsts = true) (hn : l.length = n + 1)
    (step : StepAll (ValStep2 P Q w dsts F a n T) 0 l) (fin : ∀ γ w', T γ w' → Q .normal (Fr γ (fun _ => true) dsts 0 a) w') : (Code.region id l.toArray true).wp P Q a w := by
  refine wp_region_inv (Γ := Nat → Value) dsts (fun γ => γ) (fun γ L w' => (L n = false ∧ Below w.heap.size w w' ∧ ∀ j, L j = true → F j (γ j) w') ∨ (L n = true ∧ (∀ j, j < n → L j = true) ∧ T γ w')) hm hds hnd hng hord (fun _ => undef) (.inl ⟨rfl, (Below.refl _ _).drew, fun j h => by cases h⟩) ?_ ?_
  · have key : ∀ (l' : List Oper) (k : Nat), k + l'.length = n + 1 → StepAll (ValStep2 P Q w dsts F a n T) k l' → StepAll (fun i o => ∀ (γ : Nat → Value) (L : Nat → Bool) w', ((L n = false ∧ Below w.heap.size w w' ∧ ∀ j, L j = true → F j (γ j) w') ∨ (L n = true ∧ (∀ j, j < n → L j = true) ∧ T γ w')) → L i = false → (∀ j ∈ edgesOf o, L j = true) →
        o.wp P (Fr γ L dsts 0 a) w' (fun a' w'' => ∃ γ' : Nat → Value, (∀ j, L j = true → γ' j = γ j) ∧ a' = (Fr γ L dsts 0 a).put o.dst (γ' i) ∧ ((onL L i n = false ∧ Below w.heap.size w w'' ∧ ∀ j, onL L i j = true → F j (γ' j) w'') ∨ (onL L i n = true ∧ (∀ j, j < n → onL L i j = true) ∧ T γ' w''))) Q) k l' := by
      intro l'
      induction l' with
      | nil => intro _ _ _; trivial
      | cons o l' ih =>
        intro k hk hs
        refine ⟨?_, ih (k + 1) (by simp at hk; omega) hs.2⟩
        intro γ L w' hI hL hdep
        have hkn : k ≤ n := by simp at hk; omega
        have hln : L n = false := by
          cases e : L n with
          | false => rfl
          | true =>
            rcases hI with ⟨h, _⟩ | ⟨_, h, _⟩
            · rw [e] at h; cases h
            · by_cases hk2 : k = n
              · rw [hk2, e] at hL; cases hL
              · rw [h k (by omega)] at hL; cases hL
        obtain ⟨hb, hFs⟩ : Below w.heap.size w w' ∧ ∀ j, L j = true → F j (γ j) w' := by
          rcases hI with ⟨_, h⟩ | ⟨h, _⟩
          · exact h
          · rw [hln] at h; cases h
        have hSF : SlotF dsts γ a o (Fr γ L dsts 0 a) :=
          ⟨fun j hj t ht => Fr_get γ L t j (hdep j (List.contains_iff_mem.1 hj)) dsts 0 a hnd (Nat.zero_le _) (by simpa using ht) (inD_lt hin ht), fun t ht => Fr_old γ L t dsts 0 a ht⟩
        have hup : ∀ u, (fun j => if j = k then u else γ j) k = u := fun u => by simp
        have hkeep : ∀ u j, L j = true → (fun j => if j = k then u else γ j) j = γ j := fun u j hj => by
          by_cases e : j = k
          · rw [e, hL] at hj; cases hj
          · simp [e]
        rcases hs.1 with ⟨rfl, hall, hq⟩ | ⟨hne, hq⟩
        · have hd : ∀ j, j < k → L j = true := fun j hj => hdep j (List.contains_iff_mem.1 (List.all_eq_true.1 hall j (List.mem_range.2 hj)))
          refine Oper.wp_mono ?_ (hq _ w' γ hb (fun j hj => hFs j (hd j hj)) hSF)
          rintro a' w'' ⟨u, rfl, hT⟩
          refine ⟨fun j => if j = k then u else γ j, hkeep u, by rw [hup u], .inr ⟨onL_same, fun j hj => ?_, hTc γ _ _ (fun j hj => by simp [show ¬ j = k by omega]) hT⟩⟩
          simp [onL, hd j hj]
        · refine Oper.wp_mono ?_ (hq _ w' γ hb (fun j hj => hFs j (hdep j (List.contains_iff_mem.1 hj))) hSF)
          rintro a' w'' ⟨u, rfl, hbel, hFi⟩
          refine ⟨fun j => if j = k then u else γ j, hkeep u, by rw [hup u], .inl ⟨?_, bt hb hbel, fun j hj => ?_⟩⟩
          · have hne' : n ≠ k := fun e => by subst e; simp at hne
            rw [onL_ne hne', hln]
          · by_cases e : j = k
            · subst e
              rw [hup u]
              exact hFi
            · have hj' : L j = true := by rw [onL_ne e] at hj; exact hj
              rw [hkeep u j hj']
              exact hF j _ _ _ (hFs j hj') hbel
    exact key l 0 (by omega) step
  · rintro γ L w' hL hI
    rcases hI with ⟨h, _⟩ | ⟨_, _, h⟩
    · rw [hL n (by omega)] at h; cases h
    · exact fin γ w' h
end Go.Proofs.YtlegcceaoglpoaaDoor
