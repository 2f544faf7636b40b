/- What sha2.Block comes to. What sha2.Block comes to, of a whole block. SHA-256's states: may one be, and the first one. What sha2.Pad comes to. Slices of bytes, and how a text is taken up block by block. How arguments are opened: slices of bytes, strings; hashes. -/
import Derived.Test.YtlegcceaoglpoaaDoorIsC
import Derived.Deep.MidRow
import Derived.Laws.AppendOwn
import Derived.Laws.AppendOwnNone
import Derived.Deep.DeepCutAuto
import Derived.Test.YtlegcceaoglpoaaDoorIsA
import Derived.ChangeSlices
namespace Go.Proofs.YtlegcceaoglpoaaDoor
open Go.RowKit
set_option linter.unusedVariables false

theorem eight (l : List Wd) (h : l.length = 8) : ∃ a b c d e f g i, l = [a, b, c, d, e, f, g, i] := by
  match l, h with
  | [a, b, c, d, e, f, g, i], _ => exact ⟨a, b, c, d, e, f, g, i, rfl⟩
theorem cl8 {w : World} {g : Nat} {t : TypeId} {a b c d e f i j : Wd} (h : Blk w g t (u32c [a, b, c, d, e, f, i, j])) :
    w.cell? ⟨g, 0, none⟩ = some (.int .u32 (wn a)) ∧ w.cell? ⟨g, 1, none⟩ = some (.int .u32 (wn b)) ∧ w.cell? ⟨g, 2, none⟩ = some (.int .u32 (wn c)) ∧ w.cell? ⟨g, 3, none⟩ = some (.int .u32 (wn d)) ∧
    w.cell? ⟨g, 4, none⟩ = some (.int .u32 (wn e)) ∧ w.cell? ⟨g, 5, none⟩ = some (.int .u32 (wn f)) ∧ w.cell? ⟨g, 6, none⟩ = some (.int .u32 (wn i)) ∧ w.cell? ⟨g, 7, none⟩ = some (.int .u32 (wn j)) :=
  ⟨h.cell 0, h.cell 1, h.cell 2, h.cell 3, h.cell 4, h.cell 5, h.cell 6, h.cell 7⟩
/-- v with the first k words of h added. -/
def addW (v h : List Wd) (k : Nat) : List Wd := (List.range 8).map fun j => if j < k then v.getD j 0 + h.getD j 0 else v.getD j 0
theorem addW_length (v h : List Wd) (k : Nat) : (addW v h k).length = 8 := by simp [addW]
theorem addW_at (v h : List Wd) (k : Nat) (hk : k < 8) : (addW v h k).getD k 0 = v.getD k 0 := by simp [addW, hk]
theorem addW_zero (v h : List Wd) (hv : v.length = 8) : addW v h 0 = v := by
  apply List.ext_getElem (by rw [addW_length, hv])
  intro i h1 h2
  simp [addW, List.getD, h2]
theorem addW_full (v h : List Wd) (hv : v.length = 8) (hh : h.length = 8) : addW v h 8 = List.zipWith (· + ·) v h := by
  apply List.ext_getElem (by rw [addW_length, List.length_zipWith, hv, hh]; rfl)
  intro i h1 h2
  have h3 : i < 8 := by rw [addW_length] at h1; exact h1
  simp [addW, List.getD, h3, hv, hh]
theorem addW_set (v h : List Wd) (k : Nat) (hk : k < 8) : (u32c (addW v h k)).setIfInBounds k (.int .u32 (wn (v.getD k 0 + h.getD k 0))) = u32c (addW v h (k + 1)) := by
  apply Array.ext
  · simp [u32c, addW]
  · intro i h1 h2
    have h3 : i < 8 := by simpa [u32c, addW] using h2
    rw [Array.getElem_setIfInBounds (by simpa using h1)]
    by_cases e : k = i
    · subst e
      simp [u32c, addW]
    · rw [if_neg e]
      by_cases h4 : i < k
      · simp [u32c, addW, h4, show i < k + 1 by omega]
      · simp [u32c, addW, h4, show ¬ i < k + 1 by omega]

theorem Blk.second (w : World) (o : Obj) (t : TypeId) (cs : Array Value) : Blk ((w.alloc o).alloc (.cells cs t)) (w.heap.size + 1) t cs := Blk.newAt (w.alloc o) t cs (by rw [World.size_alloc])
set_option maxRecDepth 100000 in
set_option maxHeartbeats 400000 in
theorem Block_short (h : List Wd) (hh : h.length = 8) (a : Option Addr) (n c : Nat) (hn : n ≠ 64) (hn2 : n ≤ 9223372036854775807) (w : World) :
    Calls Tryd.prog 50 #[.agg (u32c h), .slice a n c] w fun e w' => e = .returned (.agg (u32c h)) ∧ Below w.heap.size w w' := by
  have hne : ((n : Int) != 64) = true := by simp; omega
  have s2 : (u32c h).size = 8 := by rw [u32c_size, hh]
  have i2 := is8 (u32c h) s2
  have s0 : (padW 8 []).size = (u32c h).size := by rw [s2]; exact padW_size 8 [] (by simp)
  rw [z8_cells] at s0
  have a2 := u32c_one h
  have HL := Lib.hid hh; clear hh hn s2
  go_enter Tryd.func50, Tryd.ntmps50
  go_wp2_with (first | with_reducible refine wl_row ((Blk.newAt w _ (u32c h) rfl).alloc _) _ _ rfl rfl rfl _ _ Tryd.underlying81 i2 ?_ | with_reducible refine ws_row (Blk.second w _ _ _) _ _ _ _ rfl rfl rfl rfl i2 s0 a2 ?_)
  refine bodyPost_ret (v := .agg (u32c h)) ?_ rfl ⟨rfl, setRow_below (((Below.refl _ _).alloc (Nat.le_refl _) _).alloc (by simp) _) (by omega) _⟩
  exact results_row rfl _ _ _ _ _ rfl ((Blk.second w _ _ _).row _) Tryd.underlying81 i2
end Go.Proofs.YtlegcceaoglpoaaDoor

namespace Go.Proofs.YtlegcceaoglpoaaDoor
open Go.RowKit
set_option linter.unusedVariables false

theorem set8 (a b c d e f i j a' b' c' d' e' f' i' j' : Wd) : ((((((((u32c [a, b, c, d, e, f, i, j]).setIfInBounds 0 (.int .u32 (wn a'))).setIfInBounds 1 (.int .u32 (wn b'))).setIfInBounds 2 (.int .u32 (wn c'))).setIfInBounds 3 (.int .u32 (wn d'))).setIfInBounds 4 (.int .u32 (wn e'))).setIfInBounds 5 (.int .u32 (wn f'))).setIfInBounds 6 (.int .u32 (wn i'))).setIfInBounds 7 (.int .u32 (wn j')) = u32c [a', b', c', d', e', f', i', j'] := by
  simp [u32c]

theorem quiet_addS {P : Program} {f : FuncId} {args : Array Value} {w : World} {a n : Nat} {v : Value}
    (uu : Calls P f args (w.drewN (a + n)) fun e w' => e = .returned v ∧ w' = w.drewN (a + n)) :
    Calls P f args (w.drewN (a + n)) fun e w'' => e = .returned v ∧ ∃ m, w'' = w.drewN (a + m) :=
  uu.mono fun _ _ ⟨he, hm⟩ => ⟨he, n, hm⟩
theorem Blk.new2 (w : World) (cs c ds : Array Value) (t u : TypeId) : Blk (((w.alloc (.cells cs t)).setRow w.heap.size c).alloc (.cells ds u)) (w.heap.size + 1) u ds :=
  Blk.newAt _ u ds (by simp [World.setRow])
set_option maxRecDepth 100000 in
set_option maxHeartbeats 4000000 in
theorem Block_any (uu : List Wd) (hh : uu.length = 8) (g off c : Nat) (b : List UInt8) (w : World) (hr : Rd w g off b) (hg : g < w.heap.size) (hl : b.length = 64) (hL : Laid w) :
    Calls Tryd.prog 50 #[.agg (u32c uu), .slice (some ⟨g, off, none⟩) 64 c] w fun e w' => e = .returned (.agg (u32c (blk uu b))) ∧ Below w.heap.size w w' := by
  have s2 : (u32c uu).size = 8 := by rw [u32c_size, hh]
  have i2 := is8 (u32c uu) s2
  have s0 : (padW 8 []).size = (u32c uu).size := by rw [s2]; exact padW_size 8 [] (by simp)
  rw [z8_cells] at s0
  have a2 := u32c_one uu
  obtain ⟨ws, hws⟩ : ∃ ws, ws = wordsOf b := ⟨_, rfl⟩
  have hwl : ws.length = 64 := by rw [hws]; exact extW_length b 48
  have hres : blk uu b = List.zipWith (· + ·) (rounds ws uu 64) uu := by unfold blk; rw [if_pos hl, hws]
  have HL := Lib.hid (And.intro hh (And.intro hws (And.intro hwl (And.intro hres (And.intro hr (And.intro hl hL)))))); clear hh hws hwl hres hr hl hL
  go_enter Tryd.func50, Tryd.ntmps50
  go_wp2_with fail
  refine (words_any g off c b _ (fun i hi => (World.cell?_alloc_lt _ _ _ (by simp; omega)).trans ((World.cell?_alloc_lt _ _ _ hg).trans (HL.out.2.2.2.2.1 i hi))) (by simp; omega) HL.out.2.2.2.2.2.1).mono ?_
  rintro e w1 ⟨rfl, hb1⟩
  rw [← HL.out.2.1]
  have A0 : Blk w1 w.heap.size 81 (u32c uu) := ((Blk.newAt w _ (u32c uu) rfl).alloc _).calls hb1
  have A1 : Blk w1 (w.heap.size + 1) 81 (padW 8 []) := by rw [z8_cells]; exact (Blk.second w _ _ _).calls hb1
  have AB : Below w.heap.size w w1 := bt (ba (ba (Below.refl _ _) _) _) hb1
  have z0 := A0.lt
  have z1 := A1.lt
  have i3 := is64 (u32c ws) (by rw [u32c_size, HL.out.2.2.1])
  have s3 : (padW 64 []).size = (u32c ws).size := by rw [u32c_size, HL.out.2.2.1]; exact padW_size 64 [] (by simp)
  rw [z64_cells] at s3
  have a3 := u32c_one ws
  have HA := Lib.hid (And.intro A0 (And.intro A1 AB)); clear hb1 A0 A1 AB
  go_wp2_with (first | with_reducible refine ws_row (Blk.new w1 _ _) _ _ _ _ rfl rfl rfl rfl i3 s3 a3 ?_ | with_reducible refine wl_row ((HA.out.1.alloc _).rowFar (by omega) _) _ _ rfl rfl rfl _ _ Tryd.underlying81 i2 ?_ | with_reducible refine ws_row (Blk.new2 w1 _ _ _ _ _) _ _ _ _ rfl rfl rfl rfl i2 s0 a2 ?_)
  obtain ⟨A0, A1, AB⟩ := HA.out
  have B0 : Blk ((((w1.alloc (.cells (padW 64 []) 99)).setRow w1.heap.size (u32c ws)).alloc (.cells (padW 8 []) 81)).setRow (w1.heap.size + 1) (u32c uu)) w.heap.size 81 (u32c uu) := (((A0.alloc _).rowFar (by omega) _).alloc _).rowFar (by omega) _
  have B1 : Blk ((((w1.alloc (.cells (padW 64 []) 99)).setRow w1.heap.size (u32c ws)).alloc (.cells (padW 8 []) 81)).setRow (w1.heap.size + 1) (u32c uu)) (w.heap.size + 1) 81 (padW 8 []) := (((A1.alloc _).rowFar (by omega) _).alloc _).rowFar (by omega) _
  have B5 : Blk ((((w1.alloc (.cells (padW 64 []) 99)).setRow w1.heap.size (u32c ws)).alloc (.cells (padW 8 []) 81)).setRow (w1.heap.size + 1) (u32c uu)) w1.heap.size 99 (u32c ws) := (((Blk.new w1 99 (padW 64 [])).row _).alloc _).rowFar (by omega) _
  have B6 : Blk ((((w1.alloc (.cells (padW 64 []) 99)).setRow w1.heap.size (u32c ws)).alloc (.cells (padW 8 []) 81)).setRow (w1.heap.size + 1) (u32c uu)) (w1.heap.size + 1) 81 (u32c uu) := (Blk.new2 w1 _ _ _ _ _).row _
  have BB : Below w.heap.size w ((((w1.alloc (.cells (padW 64 []) 99)).setRow w1.heap.size (u32c ws)).alloc (.cells (padW 8 []) 81)).setRow (w1.heap.size + 1) (u32c uu)) := setRow_below (ba (setRow_below (ba AB _) (by omega) _) _) (by omega) _
  have HB := Lib.hid (And.intro B0 (And.intro B1 (And.intro B5 (And.intro B6 BB))))
  clear HA A0 A1 AB B0 B1 B5 B6 BB
  rw [z64_cells, z8_cells] at HB
  generalize World.setRow _ _ _ = w2 at *
  go_loopw [22] (fun i wr => ∃ k : Nat, k ≤ 64 ∧ i = .int .i64 k ∧ Blk wr w.heap.size 81 (u32c uu) ∧ Blk wr (w.heap.size + 1) 81 (padW 8 []) ∧ Blk wr w1.heap.size 99 (u32c ws) ∧ Blk wr (w1.heap.size + 1) 81 (u32c (rounds ws uu k)) ∧ Below w.heap.size w wr) (fun i _ => 64 - (intOf i).toNat)
  case atStart =>
    obtain ⟨B0, B1, B5, B6, BB⟩ := HB.out
    rw [← z8_cells] at B1
    exact ⟨0, by omega, rfl, B0, B1, B5, B6, BB⟩
  case round =>
    clear HB
    obtain ⟨k, hk, rfl, h0, h1, h5, h6, hb⟩ := hrel
    by_cases hlt : k < 64
    · obtain ⟨v, hv⟩ : ∃ v, v = rounds ws uu k := ⟨_, rfl⟩
      have hvn : rounds ws uu (k + 1) = rnd (KC.getD k 0) (ws.getD k 0) v := by rw [rounds, ← hv]
      obtain ⟨a, b', c', d, e, f, i, j, hv8⟩ := eight v (by rw [hv]; exact rounds_length ws uu HL.out.1 k)
      rw [← hv, hv8] at h6
      obtain ⟨K, hK⟩ : ∃ K, KC.getD k 0 = K := ⟨_, rfl⟩
      obtain ⟨x, hx⟩ : ∃ x, ws.getD k 0 = x := ⟨_, rfl⟩
      rw [hv8, hK, hx] at hvn
      have c6 := cl8 h6
      have f0 := h6.frozen 0
      have f1 := h6.frozen 1
      have f2 := h6.frozen 2
      have f3 := h6.frozen 3
      have f4 := h6.frozen 4
      have f5 := h6.frozen 5
      have f6 := h6.frozen 6
      have f7 := h6.frozen 7
      have cw := blk_get h5 k _ (u32c_at ws k (by rw [HL.out.2.2.1]; exact hlt))
      rw [hx] at cw
      have hLw : Laid wr := HL.out.2.2.2.2.2.2.below hb (Nat.le_refl _)
      obtain ⟨S1, hS1⟩ : ∃ s, s = rr e 6 ^^^ rr e 11 ^^^ rr e 25 := ⟨_, rfl⟩
      obtain ⟨S0, hS0⟩ : ∃ s, s = rr a 2 ^^^ rr a 13 ^^^ rr a 22 := ⟨_, rfl⟩
      obtain ⟨CH, hCH⟩ : ∃ s, s = e &&& f ^^^ ~~~e &&& i := ⟨_, rfl⟩
      obtain ⟨MJ, hMJ⟩ : ∃ s, s = a &&& b' ^^^ a &&& c' ^^^ b' &&& c' := ⟨_, rfl⟩
      obtain ⟨t1, ht1⟩ : ∃ t, t = j + S1 + CH + K + x := ⟨_, rfl⟩
      obtain ⟨t2, ht2⟩ : ∃ t, t = S0 + MJ := ⟨_, rfl⟩
      have p1 := bxor_wd (rr e 6) (rr e 11)
      have p2 := bxor_wd (rr e 6 ^^^ rr e 11) (rr e 25)
      rw [← hS1] at p2
      have p3 := bxor_wd (rr a 2) (rr a 13)
      have p4 := bxor_wd (rr a 2 ^^^ rr a 13) (rr a 22)
      rw [← hS0] at p4
      have p5 := band_wd e f
      have p6 := bnot_wd e
      have p7 := band_wd (~~~e) i
      have p8 := bxor_wd (e &&& f) (~~~e &&& i)
      rw [← hCH] at p8
      have p9 := band_wd a b'
      have p10 := band_wd a c'
      have p11 := band_wd b' c'
      have p12 := bxor_wd (a &&& b') (a &&& c')
      have p13 := bxor_wd (a &&& b' ^^^ a &&& c') (b' &&& c')
      rw [← hMJ] at p13
      have q1 := add_wd j S1
      have q2 := add_wd (j + S1) CH
      have q3 := add_wd (j + S1 + CH) K
      have q4 := add_wd (j + S1 + CH + K) x
      rw [← ht1] at q4
      have q5 := add_wd S0 MJ
      rw [← ht2] at q5
      have q6 := add_wd t1 t2
      have q7 := add_wd d t1
      have k64 : (k : Int) < 64 := by omega
      have H := Lib.hid (And.intro h0 (And.intro h1 (And.intro h5 (And.intro h6 (And.intro hb (And.intro hvn (And.intro hLw (And.intro hK (And.intro ht1 ht2)))))))))
      have HS := Lib.hid (And.intro hS1 (And.intro hS0 (And.intro hCH hMJ)))
      clear h0 h1 h5 h6 hb hvn hLw hK hv hv8 hx hS1 hS0 hCH hMJ ht1 ht2
      go_wp2
      go_quiet ((first | (go_at_call 59; with_reducible exact Calls.quiet_of_same (turned_any e 6 (by decide) (by decide) _)) | (go_at_call 59; with_reducible exact Calls.quiet_of_same (turned_any e 11 (by decide) (by decide) _)) | (go_at_call 59; with_reducible exact Calls.quiet_of_same (turned_any e 25 (by decide) (by decide) _))))
      go_wp2
      go_quiet ((go_at_call 60; with_reducible exact quiet_addS (Constant_any k hlt K H.out.2.2.2.2.2.2.2.1 _ (H.out.2.2.2.2.2.2.1.drewN _))))
      go_wp2
      go_quiet ((first | (go_at_call 59; with_reducible exact quiet_addS (turned_any a 2 (by decide) (by decide) _)) | (go_at_call 59; with_reducible exact quiet_addS (turned_any a 13 (by decide) (by decide) _)) | (go_at_call 59; with_reducible exact quiet_addS (turned_any a 22 (by decide) (by decide) _))))
      go_wp2
      obtain ⟨h0, h1, h5, h6, hb, hvn, hLw, hK, ht1, ht2⟩ := H.out
      obtain ⟨hS1, hS0, hCH, hMJ⟩ := HS.out
      go_roundw
      case rel =>
        refine ⟨k + 1, by omega, by go_num, ?_, ?_, ?_, ?_, ?_⟩
        · exact ((((((((h0.drewN _).far (by omega) _).far (by omega) _).far (by omega) _).far (by omega) _).far (by omega) _).far (by omega) _).far (by omega) _).far (by omega) _
        · exact ((((((((h1.drewN _).far (by omega) _).far (by omega) _).far (by omega) _).far (by omega) _).far (by omega) _).far (by omega) _).far (by omega) _).far (by omega) _
        · exact ((((((((h5.drewN _).far (by omega) _).far (by omega) _).far (by omega) _).far (by omega) _).far (by omega) _).far (by omega) _).far (by omega) _).far (by omega) _
        · rw [hvn]
          have e8 : rnd K x [a, b', c', d, e, f, i, j] = [t1 + t2, a, b', c', d + t1, e, f, i] := by
            rw [ht1, ht2, hS1, hS0, hCH, hMJ]; rfl
          rw [e8, ← set8 a b' c' d e f i j]
          exact ((((((((h6.drewN _).set_ 0 _).set_ 1 _).set_ 2 _).set_ 3 _).set_ 4 _).set_ 5 _).set_ 6 _).set_ 7 _
        · exact ((((((((bdN hb _).setCell (by simp; omega) _).setCell (by simp; omega) _).setCell (by simp; omega) _).setCell (by simp; omega) _).setCell (by simp; omega) _).setCell (by simp; omega) _).setCell (by simp; omega) _).setCell (by simp; omega) _
      case measure => simp [intOf]; omega
    · obtain rfl : k = 64 := by omega
      obtain ⟨v, hv⟩ : ∃ v, v = rounds ws uu 64 := ⟨_, rfl⟩
      have hvl : v.length = 8 := by rw [hv]; exact rounds_length ws uu HL.out.1 64
      rw [← hv] at h6
      have hres := HL.out.2.2.2.1
      rw [← hv, ← addW_full v uu hvl HL.out.1] at hres
      have HR := Lib.hid (And.intro hres (And.intro hv hvl))
      rw [← addW_zero v uu hvl] at h6
      have HB := Lib.hid (And.intro h0 (And.intro h1 (And.intro h6 hb))); clear h0 h1 h5 h6 hb hres hv hvl hlt
      rw [show ((64 : Nat) : Int) = 64 from rfl]
      go_wp2
      go_loopw [113] (fun i wr => ∃ k : Nat, k ≤ 8 ∧ i = .int .i64 k ∧ Blk wr w.heap.size 81 (u32c uu) ∧ Blk wr (w.heap.size + 1) 81 (padW 8 []) ∧ Blk wr (w1.heap.size + 1) 81 (u32c (addW v uu k)) ∧ Below w.heap.size w wr) (fun i _ => 8 - (intOf i).toNat)
      case atStart =>
        obtain ⟨h0, h1, h6, hb⟩ := HB.out
        exact ⟨0, by omega, rfl, h0, h1, h6, hb⟩
      case round =>
        clear HB
        obtain ⟨k, hk, rfl, h0, h1, h6, hb⟩ := hrel
        by_cases hlt : k < 8
        · obtain ⟨x, hx⟩ : ∃ x, x = v.getD k 0 := ⟨_, rfl⟩
          obtain ⟨y, hy⟩ : ∃ y, y = uu.getD k 0 := ⟨_, rfl⟩
          have cx := blk_get h6 k _ (u32c_at _ k (by rw [addW_length]; exact hlt))
          rw [addW_at v uu k hlt, ← hx] at cx
          have cy := blk_get h0 k _ (u32c_at uu k (by rw [HL.out.1]; exact hlt))
          rw [← hy] at cy
          have fx := h6.frozen k
          have k8 : (k : Int) < 8 := by omega
          have q1 := add_wd x y
          have H := Lib.hid (And.intro h0 (And.intro h1 (And.intro h6 (And.intro hb (And.intro hx hy))))); clear h0 h1 h6 hb hx hy
          go_wp2
          go_region
          go_wp2
          obtain ⟨h0, h1, h6, hb, hx, hy⟩ := H.out
          go_roundw
          case rel =>
            refine ⟨k + 1, by omega, by go_num, (h0.far (by omega) _).drew, (h1.far (by omega) _).drew, ?_, (hb.setCell (by simp; omega) _).drew⟩
            rw [← addW_set v uu k hlt, ← hx, ← hy]
            try rw [add2_wd]
            exact (h6.set_ k _).drew
          case measure => simp [intOf]; omega
        · obtain rfl : k = 8 := by omega
          have hl8 := addW_length v uu 8
          have hres := HR.out.1
          obtain ⟨r, hr⟩ : ∃ r, r = addW v uu 8 := ⟨_, rfl⟩
          rw [← hr] at h6 hl8 hres
          have HR2 := Lib.hid (And.intro hres hr); clear hres hr
          have sr : (u32c r).size = 8 := by rw [u32c_size, hl8]
          have ir := is8 (u32c r) sr
          have s1 : (padW 8 []).size = (u32c r).size := by rw [sr]; exact padW_size 8 [] (by simp)
          have ar := u32c_one r
          have H := Lib.hid (And.intro h1 (And.intro h6 hb)); clear h0 h1 h6 hb hl8 sr
          go_wp2_with (first | with_reducible refine wl_row H.out.2.1 _ _ rfl rfl rfl _ _ Tryd.underlying81 ir ?_ | with_reducible refine ws_row H.out.1 _ _ _ _ rfl rfl rfl rfl ir s1 ar ?_)
          obtain ⟨h1, h6, hb⟩ := H.out
          refine bodyPost_ret (v := .agg (u32c r)) ?_ rfl ⟨by rw [HR2.out.1], setRow_below hb (by omega) _⟩
          exact results_row rfl _ _ _ _ _ rfl (h1.row _) Tryd.underlying81 ir
end Go.Proofs.YtlegcceaoglpoaaDoor

namespace Go.Proofs.YtlegcceaoglpoaaDoor
open Go.RowKit
set_option linter.unusedVariables false

theorem wl_st {P : Program} {w : World} {g : Nat} {t : TypeId} {cs : Array Value} {ops : Array Oper} {rest : List Oper} {o : Oper} {a : Act} {Q : Exit → Act → World → Prop} (h : Blk w g t cs) (ty : TypeId) (x : Operand) (hgd : o.guard = none) (ho : o.op = .load ty x)
    (hx : a.eval x = .pointer (some ⟨g, 0, none⟩)) (fs : Array Field) (hu : P.underlying ty = some (.struct fs)) (hi : (P.info? ty).map (·.size) = some cs.size)
    (k : wpList P ops Q rest (a.put o.dst (.agg cs)) w) : wpList P ops Q (o :: rest) a w :=
  wpList_load_row hgd ty x ho g hx t cs (0, 0) _ h hu rfl hi k
/-- A state's cells: its words, its rest, its number. -/
def stC (H : List Wd) (v : Value) (n : Nat) : Array Value := (H.map (fun x => Value.int .u32 (wn x)) ++ [v, .int .u64 n]).toArray
theorem stC_lit (a b c d e f g h : Wd) (v : Value) (n : Nat) : stC [a, b, c, d, e, f, g, h] v n = #[.int .u32 (wn a), .int .u32 (wn b), .int .u32 (wn c), .int .u32 (wn d), .int .u32 (wn e), .int .u32 (wn f), .int .u32 (wn g), .int .u32 (wn h), v, .int .u64 n] := rfl
theorem u32c_lit (a b c d e f g h : Wd) : u32c [a, b, c, d, e, f, g, h] = #[.int .u32 (wn a), .int .u32 (wn b), .int .u32 (wn c), .int .u32 (wn d), .int .u32 (wn e), .int .u32 (wn f), .int .u32 (wn g), .int .u32 (wn h)] := rfl
theorem stC_size (H : List Wd) (v : Value) (n : Nat) (h : H.length = 8) : (stC H v n).size = 10 := by simp [stC, h]
theorem stC_one (H : List Wd) (a : Option Addr) (len c n : Nat) : (stC H (.slice a len c) n).all (·.oneCell') = true := by simp [stC, Value.oneCell']
theorem stC_word (H : List Wd) (v : Value) (n i : Nat) (h : H.length = 8) (hi : i < 8) : (stC H v n)[i]? = some (.int .u32 (wn (H.getD i 0))) := by
  have h1 : i < H.length := by omega
  unfold stC
  rw [List.getElem?_toArray, List.getElem?_append_left (by simpa using h1)]
  simp [h1]
theorem stC_rest (H : List Wd) (v : Value) (n : Nat) (h : H.length = 8) : (stC H v n)[8]? = some v := by simp [stC, h]
theorem stC_num (H : List Wd) (v : Value) (n : Nat) (h : H.length = 8) : (stC H v n)[9]? = some (.int .u64 n) := by simp [stC, h]

set_option maxHeartbeats 400000 in
theorem Sane_any (H : List Wd) (hH : H.length = 8) (a : Option Addr) (len c n : Nat) (hn : n < W64) (hlen : len ≤ 9223372036854775807) (b : Bool) (hb : decide (len = n % 64) = b) (w : World) :
    Calls Tryd.prog 48 #[.agg (stC H (.slice a len c) n)] w fun e w' => e = .returned (.bool b) ∧ Below w.heap.size w w' := by
  obtain ⟨x0, x1, x2, x3, x4, x5, x6, x7, rfl⟩ := eight H hH
  rw [stC_lit]
  have hn' : n < 18446744073709551616 := hn
  have hb' : ((len : Int) == ((n : Int) % 64)) = b := by
    rw [← hb, Bool.eq_iff_iff]
    simp
    omega
  have HB := Lib.hid (And.intro hb hn); clear hb hn hH
  go_enter Tryd.func48, Tryd.ntmps48
  go_wp2
  go_ret
  exact ⟨rfl, (Below.refl _ _).alloc (Nat.le_refl _) _⟩

theorem HI_length : HI.length = 8 := rfl
/-- The first state's cells when k words are laid. -/
def startC (k : Nat) : Array Value := ((List.range 8).map (fun i => Value.int .u32 (if i < k then (wn (HI.getD i 0) : Int) else 0)) ++ [Value.slice none 0 0, Value.int .u64 0]).toArray
theorem startC_at (k i : Nat) (hi : i < 8) : ∃ v, (startC k)[i]? = some v := by
  unfold startC
  rw [List.getElem?_toArray, List.getElem?_append_left (by simpa using hi)]
  simp [hi]
theorem startC_set (k : Nat) (h : k < 8) : (startC k).setIfInBounds k (.int .u32 (wn (HI.getD k 0))) = startC (k + 1) := by
  rcases (show k = 0 ∨ k = 1 ∨ k = 2 ∨ k = 3 ∨ k = 4 ∨ k = 5 ∨ k = 6 ∨ k = 7 from by omega) with rfl | rfl | rfl | rfl | rfl | rfl | rfl | rfl <;> rfl
theorem startC_zero : startC 0 = #[.int .u32 0, .int .u32 0, .int .u32 0, .int .u32 0, .int .u32 0, .int .u32 0, .int .u32 0, .int .u32 0, .slice none 0 0, .int .u64 0] := rfl
theorem startC_full : startC 8 = stC HI (.slice none 0 0) 0 := rfl

theorem isSt10 (c : Array Value) (h : c.size = 10) : (Tryd.prog.info? 83).map (·.size) = some c.size := by rw [h]; kernel_rfl
set_option maxRecDepth 100000 in
set_option maxHeartbeats 400000 in
theorem Start_any (w : World) (hL : Laid w) :
    Calls Tryd.prog 41 #[] w fun e w' => e = .returned (.agg (stC HI (.slice none 0 0) 0)) ∧ Below w.heap.size w w' := by
  have HL := Lib.hid hL; clear hL
  go_enter Tryd.func41, Tryd.ntmps41
  go_wp2
  go_loopw [3] (fun i wr => ∃ k : Nat, k ≤ 8 ∧ i = .int .i64 k ∧ Blk wr w.heap.size 83 (startC 0) ∧ Blk wr (w.heap.size + 1) 83 (startC k) ∧ Below w.heap.size w wr) (fun i _ => 8 - (intOf i).toNat)
  case atStart =>
    refine ⟨0, by omega, rfl, ?_, ?_, ?_⟩
    · rw [startC_zero]; exact (Blk.newAt _ _ _ rfl).alloc _
    · rw [startC_zero]; exact Blk.second w _ _ _
    · exact ba (ba (Below.refl _ _) _) _
  case round =>
    obtain ⟨k, hk, rfl, h0, h1, hb⟩ := hrel
    by_cases hlt : k < 8
    · obtain ⟨x, hx⟩ : ∃ x, HI.getD k 0 = x := ⟨_, rfl⟩
      have hLw : Laid wr := HL.out.below hb (Nat.le_refl _)
      obtain ⟨v, hv⟩ := startC_at k k hlt
      have c1 := blk_get h1 k _ hv
      have f1 := h1.frozen k
      have k8 : (k : Int) < 8 := by omega
      have H := Lib.hid (And.intro h0 (And.intro h1 (And.intro hb (And.intro hx hLw)))); clear h0 h1 hb hx hLw hv
      go_wp2_with (go_at_call 51; refine (Initial_any k hlt x H.out.2.2.2.1 _ H.out.2.2.2.2).mono ?_; rintro e w' ⟨rfl, rfl⟩)
      obtain ⟨h0, h1, hb, hx, hLw⟩ := H.out
      go_roundw
      case rel =>
        exact ⟨k + 1, by omega, by go_num, h0.far (by omega) _, (h1.set_ k _).to (by rw [← hx]; exact startC_set k hlt), hb.setCell (by simp) _⟩
      case measure => simp [intOf]; omega
    · obtain rfl : k = 8 := by omega
      rw [startC_full] at h1
      obtain ⟨C, hC⟩ : ∃ C, C = stC HI (.slice none 0 0) 0 := ⟨_, rfl⟩
      rw [← hC] at h1
      have sC : C.size = 10 := by rw [hC]; rfl
      have iC := isSt10 C sC
      have s1 : (startC 0).size = C.size := by rw [sC]; rfl
      have aC : C.all (·.oneCell') = true := by rw [hC]; exact stC_one _ _ _ _ _
      have H := Lib.hid (And.intro h0 (And.intro h1 (And.intro hb hC))); clear h0 h1 hb hC sC
      go_wp2_with (first | with_reducible refine wl_st H.out.2.1 _ _ rfl rfl rfl _ Tryd.underlying83 iC ?_ | with_reducible refine ws_row H.out.1 _ _ _ _ rfl rfl rfl rfl iC s1 aC ?_)
      obtain ⟨h0, h1, hb, hC⟩ := H.out
      refine bodyPost_ret (v := .agg C) ?_ rfl ⟨by rw [hC], setRow_below hb (by omega) _⟩
      exact results_cell_row rfl _ _ _ _ _ (0, 0) _ rfl (h0.row _) Tryd.underlying83 rfl iC
end Go.Proofs.YtlegcceaoglpoaaDoor

namespace Go.Proofs.YtlegcceaoglpoaaDoor
open Go.RowKit
set_option linter.unusedVariables false

/-- How many zeros stand between. -/
def zerosOf (n : Nat) : Nat := if n % 64 ≤ 55 then 55 - n % 64 else 119 - n % 64
/-- What stands behind n bytes. -/
def padOf (n : Nat) : List UInt8 := 128 :: (List.replicate (zerosOf n) 0 ++ byB (n * 8 % W64) 8)
theorem padOf_length (n : Nat) : (padOf n).length = zerosOf n + 9 := by simp [padOf, byB_length]
theorem padOf_mid (n i : Nat) (h1 : 0 < i) (h2 : i ≤ zerosOf n) : (padOf n).getD i 0 = 0 := by
  obtain ⟨j, rfl⟩ : ∃ j, i = j + 1 := ⟨i - 1, by omega⟩
  have h3 : j < zerosOf n := by omega
  simp [padOf, List.getD, List.getElem?_append_left, h3]
theorem padOf_end (n k : Nat) (h : k < 8) : (padOf n).getD (1 + zerosOf n + k) 0 = UInt8.ofNat (n * 8 % W64 / 256 ^ (7 - k) % 256) := by
  have e : 1 + zerosOf n + k = (zerosOf n + k) + 1 := by omega
  have hb := byB_at (n * 8 % W64) 8 k h
  rw [show 8 - 1 - k = 7 - k by omega] at hb
  rw [← hb, e]
  unfold padOf
  rw [List.getD_cons_succ]
  simp [List.getD, List.getElem?_append_right]
theorem partB_skip (l : List UInt8) (a b : Nat) (h : a ≤ b) (hz : ∀ i, a ≤ i → i < b → l.getD i 0 = 0) : partB l a = partB l b := by
  unfold partB
  congr 1
  apply List.map_congr_left
  intro j hj
  by_cases h1 : j < a
  · rw [if_pos h1, if_pos (by omega)]
  · rw [if_neg h1]
    by_cases h2 : j < b
    · rw [if_pos h2, hz j (by omega) h2]
      rfl
    · rw [if_neg h2]

set_option maxRecDepth 100000 in
set_option maxHeartbeats 1000000 in
theorem Pad_any (n : Nat) (hn : n < W64) (L : Nat) (hL : (padOf n).length = L) (w : World) :
    Calls Tryd.prog 49 #[.int .u64 n] w fun e w' => e = .returned (.slice (some ⟨w.heap.size, 0, none⟩) L L) ∧ Below w.heap.size w w' ∧ Blk w' w.heap.size 5 (u8cells (padOf n)) := by
  have hn' : n < 18446744073709551616 := hn
  obtain ⟨z, hz⟩ : ∃ z, z = zerosOf n := ⟨_, rfl⟩
  have hLz : L = z + 9 := by rw [← hL, padOf_length, hz]
  have hz64 : z < 64 := by rw [hz]; unfold zerosOf; split <;> omega
  obtain ⟨r, hr⟩ : ∃ r, r = n % 64 := ⟨_, rfl⟩
  have hri : (n : Int) % 64 = (r : Int) := by omega
  have hr64 : r < 64 := by omega
  obtain ⟨l, hl⟩ : ∃ l, l = padOf n := ⟨_, rfl⟩
  rw [← hl] at hL ⊢
  have hmk : ∀ w : World, (Instr.makeSlice 23 (.int .i64 L) (.int .i64 L)).run Tryd.prog w = .ok (.slice (some ⟨w.heap.size, 0, none⟩) L L) (w.alloc (.cells (partB l 0) 5)) := by
    intro w
    rw [partB_zero, hL]
    exact make_bytes L _ rfl (by omega) w
  have hLi : (1 : Int) + (z : Int) + 8 = (L : Int) := by omega
  have h9 : 9 ≤ L := by omega
  have h72 : L ≤ 72 := by omega
  have l0 : l.getD 0 0 = 128 := by rw [hl]; rfl
  have hmid : partB l 1 = partB l (1 + z) := partB_skip l 1 (1 + z) (by omega) fun i h1 h2 => by rw [hl]; exact padOf_mid n i (by omega) (by omega)
  have hend : ∀ k, k < 8 → (l.getD (1 + z + k) 0).toNat = n * 8 % W64 / 256 ^ (7 - k) % 256 := fun k hk => by
    rw [hl, hz, padOf_end n k hk]
    simp
  obtain ⟨m, hm⟩ : ∃ m, m = n * 8 % W64 := ⟨_, rfl⟩
  have hmW : m < 18446744073709551616 := by rw [hm]; exact Nat.mod_lt _ W64_pos
  have hmi : IntKind.u64.wrap ((n : Int) * 8) = (m : Int) := by
    rw [hm, IntKind.wrap_u64]
    unfold W64
    omega
  have hmi' : ((n : Int) * 8) % 18446744073709551616 = (m : Int) := by
    rw [hm]
    unfold W64
    omega
  rw [← hm] at hend
  have HF := Lib.hid (And.intro hz (And.intro hr (And.intro hl (And.intro hm (And.intro l0 (And.intro hmid (And.intro hend (And.intro hL hn))))))))
  have hzr : (r ≤ 55 ∧ z = 55 - r) ∨ (55 < r ∧ z = 119 - r) := by
    rw [hz, hr]; unfold zerosOf; split <;> omega
  clear hz hr hl hm l0 hmid hend hL hn hLz
  obtain ⟨v0, hv0⟩ := partB_at l 0 0 (by have := HF.out.2.2.2.2.2.2.2.1; omega)
  have hnz : ¬ ((z : Int) < 0) := by omega
  rcases hzr with ⟨g1, g2⟩ | ⟨g1, g2⟩
  · have e1 : (55 : Int) - (r : Int) = (z : Int) := by omega
    have G := Lib.hid g2; clear g2
    go_enter Tryd.func49, Tryd.ntmps49
    go_wp2
    go_loopw [22] (fun i wr => ∃ k : Nat, k ≤ 8 ∧ i = .int .i64 k ∧ Blk wr w.heap.size 5 (partB l (1 + z + k)) ∧ Below w.heap.size w wr) (fun i _ => 8 - (intOf i).toNat)
    case atStart =>
      refine ⟨0, by omega, rfl, ?_, ba (Below.refl _ _) _⟩
      have hs := partB_set l 0 (by have := HF.out.2.2.2.2.2.2.2.1; omega)
      rw [HF.out.2.2.2.2.1] at hs
      rw [Nat.add_zero, ← HF.out.2.2.2.2.2.1, ← hs]
      exact Blk.new w _ _
    case round =>
      obtain ⟨k, hk, rfl, h1, hb⟩ := hrel
      by_cases hlt : k < 8
      · obtain ⟨p, hp⟩ : ∃ p, p = 1 + z + k := ⟨_, rfl⟩
        obtain ⟨q, hq⟩ : ∃ q, q = 8 * k := ⟨_, rfl⟩
        obtain ⟨s, hs⟩ : ∃ s, s = 56 - q := ⟨_, rfl⟩
        obtain ⟨x, hx⟩ : ∃ x, x = (l.getD p 0).toNat := ⟨_, rfl⟩
        have hv : ((m : Nat) : Int) / (2 : Int) ^ s % (256 : Int) = (x : Int) := by
          have h8 := HF.out.2.2.2.2.2.2.1 k hlt
          rw [← hp, ← hx] at h8
          rw [h8, show (256 : Nat) = 2 ^ 8 from rfl, ← Nat.pow_mul, show 8 * (7 - k) = s by omega]
          generalize hy : m / 2 ^ s = y
          have e : ((m : Nat) : Int) / (2 : Int) ^ s = (y : Int) := by rw [← hy]; push_cast; rfl
          rw [e]
          push_cast
          rfl
        have ip : (1 : Int) + (z : Int) + (k : Int) = (p : Int) := by omega
        have iq : (8 : Int) * (k : Int) = (q : Int) := by omega
        have is : (56 : Int) - (q : Int) = (s : Int) := by omega
        have s64 : s < 64 := by omega
        have q64 : q ≤ 56 := by omega
        have pL : p < L := by omega
        have pLi : (p : Int) < (L : Int) := by omega
        obtain ⟨v1, hv1⟩ := partB_at l p p (by have := HF.out.2.2.2.2.2.2.2.1; omega)
        rw [← hp] at h1
        have c1 := blk_get h1 p _ hv1
        have f1 := h1.frozen p
        have H := Lib.hid (And.intro h1 (And.intro hb (And.intro hp (And.intro hq (And.intro hs hx))))); clear h1 hb hp hq hs hx hv1
        go_wp2
        obtain ⟨h1, hb, hp, hq, hs, hx⟩ := H.out
        go_roundw
        case rel =>
          refine ⟨k + 1, by omega, by go_num, ?_, hb.setCell (by simp) _⟩
          have hset := partB_set l p (by have := HF.out.2.2.2.2.2.2.2.1; omega)
          rw [← hx] at hset
          rw [show 1 + z + (k + 1) = p + 1 by omega, ← hset]
          exact h1.set_ p _
        case measure => simp [intOf]; omega
      · obtain rfl : k = 8 := by omega
        rw [partB_full l (1 + z + 8) (by have := HF.out.2.2.2.2.2.2.2.1; omega)] at h1
        have H := Lib.hid (And.intro h1 hb); clear h1 hb
        go_wp2
        go_ret
        exact ⟨rfl, H.out.2, H.out.1⟩
  · obtain ⟨y, hy⟩ : ∃ y : Int, y = 55 - (r : Int) := ⟨_, rfl⟩
    have e1 : (55 : Int) - (r : Int) = y := by omega
    have e2 : y + 64 = (z : Int) := by omega
    have hy0 : y < 0 := by omega
    have hy1 : -64 < y := by omega
    have G := Lib.hid (And.intro g2 hy); clear g2 hy
    go_enter Tryd.func49, Tryd.ntmps49
    go_wp2
    go_loopw [22] (fun i wr => ∃ k : Nat, k ≤ 8 ∧ i = .int .i64 k ∧ Blk wr w.heap.size 5 (partB l (1 + z + k)) ∧ Below w.heap.size w wr) (fun i _ => 8 - (intOf i).toNat)
    case atStart =>
      refine ⟨0, by omega, rfl, ?_, ba (Below.refl _ _) _⟩
      have hs := partB_set l 0 (by have := HF.out.2.2.2.2.2.2.2.1; omega)
      rw [HF.out.2.2.2.2.1] at hs
      rw [Nat.add_zero, ← HF.out.2.2.2.2.2.1, ← hs]
      exact Blk.new w _ _
    case round =>
      obtain ⟨k, hk, rfl, h1, hb⟩ := hrel
      by_cases hlt : k < 8
      · obtain ⟨p, hp⟩ : ∃ p, p = 1 + z + k := ⟨_, rfl⟩
        obtain ⟨q, hq⟩ : ∃ q, q = 8 * k := ⟨_, rfl⟩
        obtain ⟨s, hs⟩ : ∃ s, s = 56 - q := ⟨_, rfl⟩
        obtain ⟨x, hx⟩ : ∃ x, x = (l.getD p 0).toNat := ⟨_, rfl⟩
        have hv : ((m : Nat) : Int) / (2 : Int) ^ s % (256 : Int) = (x : Int) := by
          have h8 := HF.out.2.2.2.2.2.2.1 k hlt
          rw [← hp, ← hx] at h8
          rw [h8, show (256 : Nat) = 2 ^ 8 from rfl, ← Nat.pow_mul, show 8 * (7 - k) = s by omega]
          generalize hy : m / 2 ^ s = y
          have e : ((m : Nat) : Int) / (2 : Int) ^ s = (y : Int) := by rw [← hy]; push_cast; rfl
          rw [e]
          push_cast
          rfl
        have ip : (1 : Int) + (z : Int) + (k : Int) = (p : Int) := by omega
        have iq : (8 : Int) * (k : Int) = (q : Int) := by omega
        have is : (56 : Int) - (q : Int) = (s : Int) := by omega
        have s64 : s < 64 := by omega
        have q64 : q ≤ 56 := by omega
        have pL : p < L := by omega
        have pLi : (p : Int) < (L : Int) := by omega
        obtain ⟨v1, hv1⟩ := partB_at l p p (by have := HF.out.2.2.2.2.2.2.2.1; omega)
        rw [← hp] at h1
        have c1 := blk_get h1 p _ hv1
        have f1 := h1.frozen p
        have H := Lib.hid (And.intro h1 (And.intro hb (And.intro hp (And.intro hq (And.intro hs hx))))); clear h1 hb hp hq hs hx hv1
        go_wp2
        obtain ⟨h1, hb, hp, hq, hs, hx⟩ := H.out
        go_roundw
        case rel =>
          refine ⟨k + 1, by omega, by go_num, ?_, hb.setCell (by simp) _⟩
          have hset := partB_set l p (by have := HF.out.2.2.2.2.2.2.2.1; omega)
          rw [← hx] at hset
          rw [show 1 + z + (k + 1) = p + 1 by omega, ← hset]
          exact h1.set_ p _
        case measure => simp [intOf]; omega
      · obtain rfl : k = 8 := by omega
        rw [partB_full l (1 + z + 8) (by have := HF.out.2.2.2.2.2.2.2.1; omega)] at h1
        have H := Lib.hid (And.intro h1 hb); clear h1 hb
        go_wp2
        go_ret
        exact ⟨rfl, H.out.2, H.out.1⟩
end Go.Proofs.YtlegcceaoglpoaaDoor

namespace Go.Proofs.YtlegcceaoglpoaaDoor
open Go.RowKit
set_option linter.unusedVariables false

/-- The bytes of a slice, none of them perhaps. -/
def RdS (w : World) (a : Option Addr) (l : List UInt8) : Prop := l = [] ∨ ∃ g off, a = some ⟨g, off, none⟩ ∧ g < w.heap.size ∧ Rd w g off l
theorem RdS.below {w w' : World} {a : Option Addr} {l : List UInt8} {B : Nat} (h : RdS w a l) (hb : Below B w w') (hB : w.heap.size ≤ B) : RdS w' a l := by
  rcases h with h | ⟨g, off, e, hg, hr⟩
  · exact .inl h
  · exact .inr ⟨g, off, e, Nat.lt_of_lt_of_le hg hb.size, fun i hi => hr.at hb (Nat.lt_of_lt_of_le hg hB) i hi⟩
theorem RdS.calls {w w' : World} {a : Option Addr} {l : List UInt8} (h : RdS w a l) (hb : Below w.heap.size w w') : RdS w' a l := h.below hb (Nat.le_refl _)
theorem getD_drop (l : List UInt8) (k i : Nat) : (l.drop k).getD i 0 = l.getD (k + i) 0 := by simp [List.getD]
theorem Rd.drop {w : World} {g off k : Nat} {l : List UInt8} (h : Rd w g off l) : Rd w g (off + k) (l.drop k) := fun i hi => by
  rw [getD_drop]
  have := h (k + i) (by simp at hi; omega)
  rw [← Nat.add_assoc] at this
  exact this
theorem Rd.take {w : World} {g off k : Nat} {l : List UInt8} (h : Rd w g off l) : Rd w g off (l.take k) := fun i hi => by
  have hi' : i < k ∧ i < l.length := by rw [List.length_take] at hi; omega
  have := h i hi'.2
  rw [this]
  simp [List.getD, hi'.1]
/-- 's[k:]'. -/
theorem slice_from (a : Option Addr) (l : List UInt8) (n c k : Nat) (hn : l.length = n) (hk : k ≤ n) (hc : n ≤ c) :
    ∃ a', (∀ w, (Instr.slice 23 (.slice a n c) (some (.int .i64 k)) none none).run Tryd.prog w = .ok (.slice a' (n - k : Nat) (c - k : Nat)) w) ∧ (∀ w, RdS w a l → RdS w a' (l.drop k)) ∧ (a' = none → a = none) := by
  have h0 : ∀ w, (Instr.slice 23 (.slice a n c) (some (.int .i64 k)) none none).run Tryd.prog w = .ok (sliced a k n c 1) w := by
    intro w
    have hs : (sizeOf (Tryd.prog.elem 23)).run Tryd.prog w = .ok 1 w := by kernel_rfl
    rw [run_slice_l w 23 a n c (by kernel_rfl) .i64 k (by omega) (by omega), hs]
    rfl
  refine ⟨if c = k then a else a.map (·.add (k * 1)), fun w => ?_, fun w hr => ?_, fun h => by split at h <;> cases a <;> simp_all⟩
  · rw [h0 w]
    rfl
  · by_cases e : k = n
    · exact .inl (by rw [e, ← hn]; exact List.drop_length)
    · rcases hr with hr | ⟨g, off, he, hg, hr⟩
      · exact .inl (by rw [hr]; exact List.drop_nil)
      · refine .inr ⟨g, off + k, ?_, hg, hr.drop⟩
        rw [if_neg (by omega), he]
        simp [Addr.add_mid]
/-- 's[:k]'. -/
theorem slice_to (a : Option Addr) (l : List UInt8) (n c k : Nat) (hn : l.length = n) (hk : k ≤ n) (hc : n ≤ c) :
    ∃ a', (∀ w, (Instr.slice 23 (.slice a n c) none (some (.int .i64 k)) none).run Tryd.prog w = .ok (.slice a' k c) w) ∧ (∀ w, RdS w a l → RdS w a' (l.take k)) ∧ (a = none ↔ a' = none) ∧ ((∃ g off, a = some ⟨g, off, none⟩) → ∃ g off, a' = some ⟨g, off, none⟩) := by
  have h0 : ∀ w, (Instr.slice 23 (.slice a n c) none (some (.int .i64 k)) none).run Tryd.prog w = .ok (sliced a 0 k c 1) w := by
    intro w
    have hs : (sizeOf (Tryd.prog.elem 23)).run Tryd.prog w = .ok 1 w := by kernel_rfl
    rw [run_slice_h w 23 a n c (by kernel_rfl) .i64 k (by omega) (by omega), hs]
    rfl
  refine ⟨if c = 0 then a else a.map (·.add (0 * 1)), fun w => ?_, fun w hr => ?_, ?_, fun ⟨g, off, h⟩ => ?_⟩
  · rw [h0 w]
    rfl
  · rcases hr with hr | ⟨g, off, he, hg, hr⟩
    · exact .inl (by rw [hr]; exact List.take_nil)
    · refine .inr ⟨g, off, ?_, hg, hr.take⟩
      rw [he]
      split
      · rfl
      · simp [Addr.add_mid]
  · split
    · exact Iff.rfl
    · cases a <;> simp
  · refine ⟨g, off, ?_⟩
    rw [h]
    split
    · rfl
    · simp [Addr.add_mid]

/-! ## Taken up block by block -/
def blks (l : List UInt8) : Nat → List Wd → List Wd
  | 0, H => H
  | k + 1, H => blk (blks l k H) ((l.drop (64 * k)).take 64)
theorem blks_length (l : List UInt8) (k : Nat) (H : List Wd) (h : H.length = 8) : (blks l k H).length = 8 := by
  induction k with
  | zero => exact h
  | succ k ih => exact blk_length _ _ ih
def absH (H : List Wd) (l : List UInt8) : List Wd := blks l (l.length / 64) H
def absR (l : List UInt8) : List UInt8 := l.drop (64 * (l.length / 64))
theorem absR_length (l : List UInt8) : (absR l).length = l.length % 64 := by
  unfold absR
  rw [List.length_drop]
  omega
theorem drop_length_eq (l : List UInt8) (j : Nat) : (l.drop (64 * j)).length = l.length - 64 * j := List.length_drop
theorem add_num (n m : Nat) (hn : n < W64) : IntKind.u64.wrap ((n : Int) + (m : Int)) = (((n + m) % W64 : Nat) : Int) := by
  rw [IntKind.wrap_u64]
  unfold W64
  omega

/-! ## A state's words are read and set -/
theorem Blk.setsFar {g b : Nat} {t : TypeId} {cs : Array Value} (hne : g ≠ b) : ∀ (vs : List Value) (o : Nat) {w : World}, Blk w g t cs → Blk (w.setCells b o vs) g t cs
  | [], _, _, h => h
  | v :: vs, o, _, h => Blk.setsFar hne vs (o + 1) (h.far hne v)
theorem below_sets {B b : Nat} {w0 : World} (hb : B ≤ b) : ∀ (vs : List Value) (o : Nat) {w : World}, Below B w0 w → Below B w0 (w.setCells b o vs)
  | [], _, _, h => h
  | v :: vs, o, _, h => below_sets hb vs (o + 1) (h.setCell hb v)
theorem Blk.setWords {w : World} {g : Nat} {t : TypeId} {H r : List Wd} {v : Value} {n : Nat} (h : Blk w g t (stC H v n)) (hH : H.length = 8) (hr : r.length = 8) : Blk (w.setCells g 0 (u32c r).toList) g t (stC r v n) := by
  obtain ⟨x0, x1, x2, x3, x4, x5, x6, x7, rfl⟩ := eight H hH
  obtain ⟨y0, y1, y2, y3, y4, y5, y6, y7, rfl⟩ := eight r hr
  have e : (u32c [y0, y1, y2, y3, y4, y5, y6, y7]).toList = [.int .u32 (wn y0), .int .u32 (wn y1), .int .u32 (wn y2), .int .u32 (wn y3), .int .u32 (wn y4), .int .u32 (wn y5), .int .u32 (wn y6), .int .u32 (wn y7)] := rfl
  rw [e]
  simp only [World.setCells, Nat.zero_add, Nat.reduceAdd]
  refine ((((((((h.set_ 0 _).set_ 1 _).set_ 2 _).set_ 3 _).set_ 4 _).set_ 5 _).set_ 6 _).set_ 7 _).to ?_
  simp [stC]
theorem words_range {w : World} {g : Nat} {t : TypeId} {H : List Wd} {v : Value} {n : Nat} (h : Blk w g t (stC H v n)) (hH : H.length = 8) : w.rangeAt g 0 (u32c H).toList := by
  intro j u hu
  have hj : j < 8 := by
    have := (List.getElem?_eq_some_iff.1 hu).1
    simp [u32c, hH] at this
    exact this
  rw [Nat.zero_add, h.cell, stC_word H v n j hH hj]
  have e := u32c_at H j (by omega)
  rw [← Array.getElem?_toList, hu] at e
  exact e.symm
theorem words_there {w : World} {g : Nat} {t : TypeId} {H : List Wd} {v : Value} {n : Nat} (h : Blk w g t (stC H v n)) (hH : H.length = 8) : w.there g 0 8 := fun j hj => by
  rw [Nat.zero_add, h.cell, stC_word H v n j hH hj]
  exact ⟨rfl, h.frozen j⟩
theorem op_load_mid {P : Program} {Q : Exit → Act → World → Prop} {o : Oper} {A : Act} {w : World} (ty : TypeId) (x : Operand) (ho : o.op = .load ty x) (b f : Nat) (hx : A.eval x = .pointer (some ⟨b, f, none⟩)) (cs : List Value) (d : TypeDesc) (hc : w.rangeAt b f cs)
    (hu : P.underlying ty = some d) (hd : d.isRow = true) (hi : (P.info? ty).map (·.size) = some cs.length) : o.wp P A w (fun a' w'' => a' = A.put o.dst (.agg cs.toArray) ∧ Below w.heap.size w w'') Q :=
  wp_load_mid ty x ho b f hx cs d hc hu hd hi ⟨rfl, Below.refl _ _⟩
theorem op_field0 {Q : Exit → Act → World → Prop} {o : Oper} {A : Act} {w : World} (x : Operand) (ho : o.op = .fieldAddr 83 x 0) (g : Nat) (hx : A.eval x = .pointer (some ⟨g, 0, none⟩)) :
    o.wp Tryd.prog A w (fun a' w'' => a' = A.put o.dst (.pointer (some ⟨g, 0, none⟩)) ∧ Below w.heap.size w w'') Q := by
  have hf : (Instr.fieldAt 83 (.pointer (some ⟨g, 0, none⟩)) 0).run Tryd.prog w = .ok (.pointer (some ⟨g, 0, none⟩)) w := by kernel_rfl
  refine op_run ?_
  unfold execOp
  simp only [ho, hx, Sem.run_bind, hf]
  rfl
theorem op_slice_s {P : Program} {Q : Exit → Act → World → Prop} {o : Oper} {A : Act} {w : World} (t : TypeId) (x : Operand) (lo hi : Option Operand) (ho : o.op = .slice t x lo hi none) {xv u : Value} {lv hv : Option Value} (hx : A.eval x = xv) (hl : lo.map A.eval = lv) (hh : hi.map A.eval = hv)
    (ht : P.underlying t = some (.slice (P.elem t))) (hrun : (Instr.slice t xv lv hv none).run P w = .ok u w) : o.wp P A w (fun a' w'' => a' = A.put o.dst u ∧ Below w.heap.size w w'') Q := by
  refine op_run ?_
  unfold execOp
  simp only [ho, hx, hl, hh, Option.map_none, Sem.run_bind, run_sliceAt_slice w t xv lv hv none ht, hrun]
  rfl
theorem margs2 {A : Act} {x y : Operand} {u v : Value} (h1 : A.eval x = u) (h2 : A.eval y = v) : #[x, y].map A.eval = #[u, v] := by simp [h1, h2]
theorem margs1 {A : Act} {x : Operand} {u : Value} (h1 : A.eval x = u) : #[x].map A.eval = #[u] := by simp [h1]
/-- How long a slice is. -/
def lenS : Value → Nat
  | .slice _ n _ => n
  | _ => 0
theorem RdS.from {w : World} {a : Option Addr} {l : List UInt8} {n c k : Nat} (h : RdS w a l) (hn : l.length = n) (hk : k ≤ n) (hc : n ≤ c) : RdS w (if c = k then a else Option.map (fun x => ({ block := x.block, off := x.off + k } : Addr)) a) (l.drop k) := by
  by_cases e : k = n
  · exact .inl (by rw [e, ← hn]; exact List.drop_length)
  · rcases h with h | ⟨g, off, he, hg, hr⟩
    · exact .inl (by rw [h]; exact List.drop_nil)
    · refine .inr ⟨g, off + k, ?_, hg, hr.drop⟩
      rw [if_neg (by omega), he]
      rfl
/-- What a row of the call's own that has grown is. -/
theorem own_blk {w : World} {base : Nat} {e : TypeId} {v : Value} {n : Nat} {l : List UInt8} (h : w.ownsRow base e 1 v n (l.map fun c => Value.int .u8 c.toNat)) (hv : ¬ v = .slice none 0 0) :
    ∃ g cap cur, v = .slice (some ⟨g, 0, none⟩) n cap ∧ base ≤ g ∧ Blk w g e cur ∧ n ≤ cap ∧ cap ≤ maxLen ∧ l.length = n ∧ ∀ i, i < l.length → cur[i]? = some (.int .u8 (l.getD i 0).toNat) := by
  obtain ⟨h1, h2 | ⟨g, cap, cur, h3, h4, h5, h6, h7, h8, h9⟩⟩ := h
  · exact absurd h2.1 hv
  · refine ⟨g, cap, cur, h3, h4, h5, h6, h7, by simpa using h1, fun i hi => ?_⟩
    have e : (cur.toList.take (n * 1))[i]? = some (.int .u8 (l.getD i 0).toNat) := by rw [h9]; simp [hi]
    rw [List.getElem?_take] at e
    split at e
    · simpa using e
    · cases e
theorem Blk.grown {w w' : World} {g : Nat} {t : TypeId} {cs : Array Value} {row : Option Nat} (h : Blk w g t cs) (hg : w.grownBy w' row) (hne : some g ≠ row) : Blk w' g t cs := (hg.block g h.lt hne).trans h
theorem below_grown {w0 w w' : World} {B : Nat} {row : Option Nat} (h : Below B w0 w) (hg : w.grownBy w' row) (hB : B ≤ w.heap.size) (hr : ∀ k, row = some k → B ≤ k) : Below B w0 w' :=
  h.trans ⟨hg.os, hg.tape, hg.output, hg.size, fun k hk => hg.block k (by omega) (fun e => by have := hr k e.symm; omega)⟩
theorem rd_news {w : World} {a : Addr} {l : List UInt8} (h : RdS w (some a) l) : ∀ j u, (l.map fun c => Value.int .u8 (c.toNat : Int))[j]? = some u → w.cell? (a.add j) = some u := by
  intro j u hu
  have hj : j < l.length := by simpa using (List.getElem?_eq_some_iff.1 hu).1
  rcases h with h | ⟨g, off, he, hg, hr⟩
  · rw [h] at hj; cases hj
  · injection he with he
    subst he
    rw [Addr.add_mid, hr j hj]
    simp [hj] at hu
    rw [← hu]
    simp [hj]
theorem stC_setRest (H : List Wd) (v v' : Value) (n : Nat) (h : H.length = 8) : (stC H v n).setIfInBounds 8 v' = stC H v' n := by
  obtain ⟨x0, x1, x2, x3, x4, x5, x6, x7, rfl⟩ := eight H h
  rw [stC_lit, stC_lit]
  rfl
theorem one_news (l : List UInt8) : ∀ u ∈ (l.map fun c => Value.int .u8 (c.toNat : Int)), u.oneCell' = true := by
  intro u hu
  obtain ⟨c, _, rfl⟩ := List.mem_map.1 hu
  rfl
/-- 'append(v, l...)' where v is the call's own row of bytes. -/
theorem wl_app {P : Program} {w : World} {ops : Array Oper} {rest : List Oper} {o : Oper} {a : Act} {Q : Exit → Act → World → Prop} {base : Nat} {e : TypeId} {v : Value} {n : Nat} {xs : List UInt8} (hown : w.ownsRow base e 1 v n (xs.map fun c => Value.int .u8 (c.toNat : Int)))
    (hgd : o.guard = none) (s x : Operand) (t : TypeId) (ho : o.op = .call { callee := .builtin .append, args := #[s, x], argTypes := #[t, t] }) (ht : P.underlying t = some (.slice e)) (i : TypeInfo) (hi : P.info? e = some i) (hz : i.zero = some (.int .u8 0)) (h1 : i.size = 1) (hby : i.bytes = 1)
    (hs : a.eval s = v) (a2 : Option Addr) (m c : Nat) (l : List UInt8) (hx : a.eval x = .slice a2 m c) (hr : RdS w a2 l) (hl : l.length = m) (hno : a2 = none → m = 0 ∧ c = 0) (hn : n + m ≤ 140737488355328) (hbase : base ≤ w.heap.size)
    (k : ∀ v' w', w'.ownsRow base e 1 v' (n + m) ((xs ++ l).map fun c => Value.int .u8 (c.toNat : Int)) → w.grownBy w' v.ownBlock → (¬ v = .slice none 0 0 → ¬ v' = .slice none 0 0) → wpList P ops Q rest (a.put o.dst v') w') : wpList P ops Q (o :: rest) a w := by
  cases a2 with
  | none =>
    obtain ⟨h2, h3⟩ := hno rfl
    subst h2 h3
    have hl0 : l = [] := List.length_eq_zero_iff.1 hl
    subst hl0
    exact wpList_append_own_none hgd s x t ho base e i 1 ht hi v n _ hs hown hx (k v w (by rw [List.append_nil]; exact hown) ⟨rfl, rfl, rfl, Nat.le_refl _, fun _ _ _ => rfl⟩ id)
  | some ad =>
    refine wpList_append_own w hgd s x t ho base e i (.int .u8 0) 1 1 ht hi hz h1 hby rfl (by omega) v n _ hs hown ad m c (l.map fun c => Value.int .u8 (c.toNat : Int)) hx (by rw [List.length_map, hl, Nat.mul_one]) (fun j u hu => rd_news hr j u hu) (one_news l) (by unfold maxLen; omega) (by omega) hbase fun v' w' h2 h3 h4 => ?_
    refine k v' w' (by rw [List.map_append]; exact h2) h3 fun h5 h6 => h5 (h4.1 h6).1
/-- What is taken up: a text after 64 bytes. -/
theorem absH_cons (H : List Wd) (l : List UInt8) (h : 64 ≤ l.length) : absH H l = absH (blk H (l.take 64)) (l.drop 64) := by
  have hb : ∀ k, blks l (k + 1) H = blks (l.drop 64) k (blk H (l.take 64)) := by
    intro k
    induction k with
    | zero => rfl
    | succ k ih =>
      rw [blks, ih, blks, List.drop_drop, show 64 + 64 * k = 64 * (k + 1) by omega]
  unfold absH
  rw [List.length_drop, ← hb, show (l.length - 64) / 64 + 1 = l.length / 64 by omega]
theorem absR_cons (l : List UInt8) (h : 64 ≤ l.length) : absR l = absR (l.drop 64) := by
  unfold absR
  rw [List.length_drop, List.drop_drop]
  congr 1
  omega
theorem absH_few (H : List Wd) (l : List UInt8) (h : l.length < 64) : absH H l = H := by
  unfold absH
  rw [show l.length / 64 = 0 by omega]
  rfl
theorem absR_few (l : List UInt8) (h : l.length < 64) : absR l = l := by
  unfold absR
  rw [show l.length / 64 = 0 by omega]
  rfl
theorem make_bytesC (n c : Nat) (hnc : n ≤ c) (hn : c ≤ 140737488355328) (w : World) :
    (Instr.makeSlice 23 (.int .i64 n) (.int .i64 c)).run Tryd.prog w = .ok (.slice (some ⟨w.heap.size, 0, none⟩) n c) (w.alloc (.cells (Array.replicate c (.int .u8 0)) 5)) := by
  obtain ⟨i0, hi, hz0, hz1, hz2⟩ := info_parts (show (Tryd.prog.info? 5).map (fun i => (i.zero, i.size, i.bytes)) = some (some (.int .u8 0), 1, 1) by kernel_rfl)
  rw [run_make w 23 5 i0 (.int .u8 0) Tryd.underlying23 hi hz0 .i64 .i64 n c (by omega) (by omega) (by rw [hz2]; omega) (by omega), hz1, Int.toNat_natCast, Int.toNat_natCast, Nat.mul_one]
  exact congrArg (fun cs => Result.ok _ (w.alloc (.cells cs 5))) (madeCells_one _ c)
end Go.Proofs.YtlegcceaoglpoaaDoor

namespace Go.Proofs.YtlegcceaoglpoaaDoor
open Go.ChangeShapes Go.WideShapes Go.ChangeAt Go.RowKit
set_option linter.unusedVariables false

theorem spot_none {w : World} {a : Addr} {v : Value} (h : w.cell? a = some v) : a = ⟨a.block, a.off, none⟩ ∧ a.block < w.heap.size := by
  obtain ⟨b, o, s⟩ := a
  unfold World.cell? at h
  cases hb : w.heap[b]? with
  | none => rw [hb] at h; cases h
  | some ob =>
    have hlt : b < w.heap.size := (Array.getElem?_eq_some_iff.1 hb).1
    rw [hb] at h
    cases s with
    | none => exact ⟨rfl, hlt⟩
    | some k =>
      cases ob <;> simp at h
theorem u8_of (n : Int) (h : (Lit.int .u8 n).wf = true) : n = ((UInt8.ofNat n.toNat).toNat : Int) := by
  simp [Lit.wf, IntKind.min, IntKind.max, IntKind.signed, IntKind.bits] at h
  simp
  omega
theorem hash_of (zs : List Int) (h : zs.length = 32) (hw : ∀ z ∈ zs, (Lit.int .u8 z).wf = true) : ∃ l : List UInt8, l.length = 32 ∧ Value.agg (zs.map (Value.int .u8)).toArray = .agg (u8cells l) := by
  refine ⟨zs.map fun z => UInt8.ofNat z.toNat, by simp [h], ?_⟩
  congr 1
  apply Array.ext
  · simp [u8cells]
  · intro i h1 h2
    have hi : i < zs.length := by simpa using h1
    have := hw (zs[i]) (List.getElem_mem hi)
    simp [Lit.wf, IntKind.min, IntKind.max, IntKind.signed, IntKind.bits] at this
    simp [u8cells]
    omega
theorem open_bytes {H : Type} {enc : TypeId × Value → H} {P : Program} {w : World} {r : Reach} {b0 : Nat} {t e : TypeId} {v : Value} {d : DataW H} {p : List MemPlace} (ht : P.underlying t = some (.slice e)) (he : P.underlying e = some (.int .u8)) (hc : P.cellsOf e = 1) (hby : P.bytesOf e = 1)
    (hv : Value.okWide P w r b0 t v) (h : DataW.Trod enc P w 0 (fun _ => true) true t v d p) (hwt : (DataW.weights P t d).all (· ≤ reachBytes) = true) :
    ∃ (a : Option Addr) (n c : Nat) (l : List UInt8), v = .slice a n c ∧ l.length = n ∧ n ≤ c ∧ c ≤ 140737488355328 ∧ (a = none → n = 0 ∧ c = 0) ∧ RdS w a l := by
  obtain ⟨a0, len, cap, rfl⟩ := okWide_slice ht hv
  obtain ⟨fuel, hf⟩ := h
  rcases open_ints ht he hc hf with ⟨hcs, hx⟩ | ⟨a, len', cap', zs, hcs, _, hl, hm, hz, hx, hcell, hwz⟩
  · simp [Value.cells] at hcs
    obtain ⟨rfl, rfl, rfl⟩ := hcs
    exact ⟨none, 0, 0, [], rfl, rfl, Nat.le_refl _, by omega, fun _ => ⟨rfl, rfl⟩, .inl rfl⟩
  · simp [Value.cells] at hcs
    obtain ⟨rfl, rfl, rfl⟩ := hcs
    simp only [if_true] at hz
    simp only [Prod.mk.injEq] at hx
    obtain ⟨rfl, rfl⟩ := hx
    have hcap : cap ≤ 140737488355328 := by
      simp only [DataW.weights, ht, List.all_cons, Bool.and_eq_true, decide_eq_true_eq] at hwt
      have h1 := hwt.1
      rw [hby, Nat.mul_one] at h1
      have e1 : (lits (H := H) IntKind.u8 (zs.take len)).length + (lits (H := H) IntKind.u8 (zs.drop len)).length = cap := by
        simp [lits]; omega
      rw [e1] at h1
      unfold reachBytes at h1
      omega
    have hlz : len ≤ zs.length := by rw [hz]; exact hl
    refine ⟨some a, len, cap, (zs.take len).map fun z => UInt8.ofNat z.toNat, rfl, by simp; omega, hl, hcap, fun h => (by cases h), ?_⟩
    by_cases h0 : len = 0
    · left
      subst h0
      rfl
    · right
      have hc0 := hcell 0 (by omega)
      obtain ⟨e1, e2⟩ := spot_none (w := w) (a := a) (by simpa [Addr.add] using hc0)
      refine ⟨a.block, a.off, by rw [← e1], e2, fun i hi => ?_⟩
      have hi' : i < len := by simp at hi; omega
      have hci := hcell i (by omega)
      have ea : a.add i = ⟨a.block, a.off + i, none⟩ := by
        unfold Addr.add
        split
        · rename_i h; subst h; exact e1
        · rfl
      rw [ea] at hci
      rw [hci]
      have hzi : zs.getD i 0 = zs[i]'(by omega) := by simp [List.getD, List.getElem?_eq_getElem (show i < zs.length by omega)]
      have hgd : (((zs.take len).map fun z => UInt8.ofNat z.toNat).getD i 0) = UInt8.ofNat (zs[i]'(by omega)).toNat := by
        rw [List.getD, List.getElem?_map, List.getElem?_take_of_lt hi', List.getElem?_eq_getElem (by omega)]
        rfl
      rw [hgd, hzi, ← u8_of _ (hwz _ (List.getElem_mem _))]
end Go.Proofs.YtlegcceaoglpoaaDoor
