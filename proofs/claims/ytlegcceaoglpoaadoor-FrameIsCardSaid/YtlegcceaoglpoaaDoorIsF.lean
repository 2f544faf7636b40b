/- What sha2.Write comes to, of a state with a rest. What sha2.Write comes to, of any state; and of a state that has taken up a text. A region that draws its order, whose values are known by what holds of them; sha2.End. What a hash is as a number and as bytes. What hash's Zero, Number and FromNumber come to. -/
import Derived.Test.YtlegcceaoglpoaaDoorIsE
import Derived.Test.YtlegcceaoglpoaaDoorIsB
namespace Go.Proofs.YtlegcceaoglpoaaDoor
open Go.RowKit
set_option linter.unusedVariables false

set_option maxRecDepth 100000 in
set_option maxHeartbeats 4000000 in
theorem Write_few (H : List Wd) (hH : H.length = 8) (ad : Addr) (rest : List UInt8) (len c n : Nat) (hn : n < W64) (hlen : len = n % 64) (hpos : 0 < len) (hrl : rest.length = len) (hlc : len ≤ c) (hcm : c ≤ maxLen)
    (a0 : Option Addr) (t0 : List UInt8) (m0 c0 : Nat) (hm0 : t0.length = m0) (hc0 : m0 ≤ c0) (hc02 : m0 ≤ 140737488355328 ∧ c0 ≤ 9223372036854775807) (hno0 : a0 = none → m0 = 0 ∧ c0 = 0) (hfew : len + m0 < 64) (w : World) (hrr : RdS w (some ad) rest) (hr : RdS w a0 t0) (hL : Laid w) :
    Calls Tryd.prog 40 #[.agg (stC H (.slice (some ad) len c) n), .slice a0 m0 c0] w (WrPost w H (rest ++ t0) ((n + m0) % W64)) := by
  have hlen64 : len < 64 := by rw [hlen]; exact Nat.mod_lt _ (by omega)
  have iS := isSt10 (stC H (.slice (some ad) len c) n) (stC_size _ _ _ hH)
  have cS := fun w => Sane_any H hH (some ad) len c n hn (by omega) true (by simpa using hlen) w
  obtain ⟨S, hS⟩ : ∃ S, S = stC H (.slice (some ad) len c) n := ⟨_, rfl⟩
  rw [← hS] at iS cS ⊢
  obtain ⟨x0, x1, x2, x3, x4, x5, x6, x7, h8⟩ := eight H hH
  obtain ⟨N, hN⟩ : ∃ N, N = (n + m0) % W64 := ⟨_, rfl⟩
  have hNi := add_num n m0 hn
  rw [← hN] at hNi
  have CS := Lib.hid cS
  clear cS
  have F := Lib.hid (And.intro hS (And.intro h8 (And.intro hN (And.intro hrr (And.intro hr (And.intro hL (And.intro hH (And.intro hrl hm0)))))))); clear hS h8 hN hrr hr hL hH hrl hm0 hn hlen
  go_enter Tryd.func40, Tryd.ntmps40
  go_wp2_with (with_reducible refine wl_st ((Blk.newAt w _ S rfl).alloc _) _ _ rfl rfl rfl _ Tryd.underlying83 iS ?_)
  refine (CS.out _).mono ?_
  rintro e w1 ⟨rfl, hb1⟩
  have A0 : Blk w1 w.heap.size 83 S := ((Blk.newAt w _ S rfl).alloc _).calls hb1
  have A1 : Blk w1 (w.heap.size + 1) 83 (startC 0) := by rw [startC_zero]; exact (Blk.second w _ _ _).calls hb1
  have AB : Below w.heap.size w w1 := bt (ba (ba (Below.refl _ _) _) _) hb1
  have z0 := A0.lt
  have z1 := A1.lt
  clear hb1 iS CS
  have A0' := A0
  rw [F.out.1, F.out.2.1, stC_lit] at A0'
  have cc := A0'.cell
  clear A0'
  have hmk : ∀ w : World, (Instr.makeSlice 23 (.int .i64 0) (.int .i64 64)).run Tryd.prog w = .ok (.slice (some ⟨w.heap.size, 0, none⟩) 0 64) (w.alloc (.cells (Array.replicate 64 (.int .u8 0)) 5)) := fun w => make_bytesC 0 64 (by omega) (by omega) w
  have own : ((w1.alloc (.cells (stC H (.slice none 0 0) N) 83)).alloc (.cells (Array.replicate 64 (.int .u8 0)) 5)).ownsRow (w1.heap.size + 1) 5 1 (.slice (some ⟨w1.heap.size + 1, 0, none⟩) 0 64) 0 (([] : List UInt8).map fun c => Value.int .u8 (c.toNat : Int)) := by
    have h := World.ownsRow_made (w1.alloc (.cells (stC H (.slice none 0 0) N) 83)) (base := w1.heap.size + 1) (e := 5) (size := 1) (Array.replicate 64 (.int .u8 0)) 64 (by simp) (by unfold maxLen; omega) (by simp)
    simpa using h
  have hmi : (m0 : Int) ≤ 140737488355328 := by omega
  obtain ⟨k, hk⟩ : ∃ k, k = min (64 - len) m0 := ⟨_, rfl⟩
  have d1 : (64 : Int) - (len : Int) = ((64 - len : Nat) : Int) := by omega
  have hmin : min ((64 - len : Nat) : Int) (m0 : Int) = (k : Int) := by omega
  have lp : 0 < (len : Int) := by omega
  obtain ⟨i0, hi, hz0, hz1, hz2⟩ := info_parts (show (Tryd.prog.info? 5).map (fun i => (i.zero, i.size, i.bytes)) = some (some (.int .u8 0), 1, 1) by kernel_rfl)
  have A5 : Blk _ w1.heap.size 83 (stC H (.slice none 0 0) N) := (Blk.new w1 83 (stC H (.slice none 0 0) N)).alloc (.cells (Array.replicate 64 (.int .u8 0)) 5)
  have A1' := (A1.alloc (.cells (stC H (.slice none 0 0) N) 83)).alloc (.cells (Array.replicate 64 (.int .u8 0)) 5)
  have A0'' := (A0.alloc (.cells (stC H (.slice none 0 0) N) 83)).alloc (.cells (Array.replicate 64 (.int .u8 0)) 5)
  have AB' := ba (ba AB (.cells (stC H (.slice none 0 0) N) 83)) (.cells (Array.replicate 64 (.int .u8 0)) 5)
  have I := Lib.hid (And.intro hi (And.intro hz0 (And.intro hz1 (And.intro hz2 (And.intro own (And.intro A5 (And.intro A1' (And.intro AB' (And.intro hk A0''))))))))); clear hi hz0 hz1 hz2 own A0 A1 AB A5 A1' A0'' AB' hk
  rw [F.out.2.1, stC_lit] at I
  go_wp2_with (at_builtin; refine wl_app I.out.2.2.2.2.1 rfl _ _ 23 rfl Tryd.underlying23 i0 I.out.1 I.out.2.1 I.out.2.2.1 I.out.2.2.2.1 rfl (some ad) len c rest rfl ((F.out.2.2.2.1.below I.out.2.2.2.2.2.2.2.1 (Nat.le_refl _))) F.out.2.2.2.2.2.2.2.1 (by simp) (by omega) (by simp) ?_)
  intro v' w2 ho hg hnil
  obtain ⟨a2, hs2, hr2, hno2, _⟩ := slice_to a0 t0 m0 c0 k F.out.2.2.2.2.2.2.2.2 (by have := I.out.2.2.2.2.2.2.2.2.1; omega) hc0
  obtain ⟨g1, cap1, cur1, rfl, hgb, hbg, hpc1, hcm1, _, _⟩ := own_blk ho hnil
  have B5 := I.out.2.2.2.2.2.1.grown hg (by simp [Value.ownBlock])
  have B0 := I.out.2.2.2.2.2.2.2.2.2.grown hg (by simp [Value.ownBlock]; omega)
  have B1 := I.out.2.2.2.2.2.2.1.grown hg (by simp [Value.ownBlock]; omega)
  have BB := below_grown I.out.2.2.2.2.2.2.2.1 hg (by simp; omega) (by intro k hk; simp [Value.ownBlock] at hk; omega)
  have zz : w1.heap.size + 1 < w2.heap.size := Nat.lt_of_le_of_lt hgb hbg.lt
  have hkb : len + k ≤ 64 := by have := I.out.2.2.2.2.2.2.2.2.1; omega
  have hk2 : k ≤ m0 := by have := I.out.2.2.2.2.2.2.2.2.1; omega
  have hno3 : a2 = none → k = 0 ∧ c0 = 0 := fun h => by
    have := hno0 (hno2.2 h)
    exact ⟨by omega, this.2⟩
  have L2 := Lib.hid (And.intro ho (And.intro B5 (And.intro B0 (And.intro B1 (And.intro BB hr2))))); clear ho B5 B0 B1 BB hr2 hbg hg hnil hmk cc
  go_wp2_with (at_builtin; refine wl_app L2.out.1 rfl _ _ 23 rfl Tryd.underlying23 i0 I.out.1 I.out.2.1 I.out.2.2.1 I.out.2.2.2.1 rfl a2 k c0 (t0.take k) rfl (L2.out.2.2.2.2.2 _ (F.out.2.2.2.2.1.below L2.out.2.2.2.2.1 (Nat.le_refl _))) (by rw [List.length_take, F.out.2.2.2.2.2.2.2.2]; omega) hno3 (by omega) (by omega) ?_)
  intro v3 w3 ho' hg hnil
  have ho : w3.ownsRow (w1.heap.size + 1) 5 1 v3 (len + k) ((rest ++ t0.take k).map fun c => Value.int .u8 (c.toNat : Int)) := by rw [List.map_append, List.map_take]; exact ho'
  clear ho'
  obtain ⟨L, hL⟩ : ∃ L, L = len + k := ⟨_, rfl⟩
  rw [← hL] at ho
  have HL := Lib.hid hL; clear hL
  obtain ⟨g, cap, cur, rfl, hgb, hbg, hpc2, hcm2, hRp, hrd⟩ := own_blk ho hnil
  clear ho hnil
  have B5 := L2.out.2.1.grown hg (by simp [Value.ownBlock]; omega)
  have B1 := L2.out.2.2.2.1.grown hg (by simp [Value.ownBlock]; omega)
  have BB := below_grown L2.out.2.2.2.2.1 hg (by omega) (by intro k hk; simp [Value.ownBlock] at hk; omega)
  clear hg
  have hLl : L < 64 := by have := HL.out; omega
  have hLi : (L : Int) < 64 := by omega
  have hkm : t0.take k = t0 := List.take_of_length_le (by have := I.out.2.2.2.2.2.2.2.2.1; have := F.out.2.2.2.2.2.2.2.2; omega)
  rw [hkm] at hrd hRp
  obtain ⟨C, hC⟩ : ∃ C, C = stC H (.slice (some ⟨g, 0, none⟩) L cap) N := ⟨_, rfl⟩
  have sC : C.size = 10 := by rw [hC]; exact stC_size _ _ _ F.out.2.2.2.2.2.2.1
  have iC := isSt10 C sC
  have s1 : (startC 0).size = C.size := by rw [sC]; rfl
  have aC : C.all (·.oneCell') = true := by rw [hC]; exact stC_one _ _ _ _ _
  rw [← stC_lit, ← F.out.2.1] at B5
  have c8 := blk_get B5 8 _ (stC_rest _ _ _ F.out.2.2.2.2.2.2.1)
  have f8 := B5.frozen 8
  have M5 : Blk _ w1.heap.size 83 C := (B5.set_ 8 (.slice (some ⟨g, 0, none⟩) L cap)).to (show _ = C by rw [hC]; exact stC_setRest _ _ _ _ F.out.2.2.2.2.2.2.1)
  have M1 := B1.far (show w.heap.size + 1 ≠ w1.heap.size by omega) (i := 8) (.slice (some ⟨g, 0, none⟩) L cap)
  have MG := hbg.far (show g ≠ w1.heap.size by omega) (i := 8) (.slice (some ⟨g, 0, none⟩) L cap)
  have MB := BB.setCell (show w.heap.size ≤ (⟨w1.heap.size, 8, none⟩ : Addr).block by show w.heap.size ≤ w1.heap.size; omega) (.slice (some ⟨g, 0, none⟩) L cap)
  have M := Lib.hid (And.intro M5 (And.intro M1 (And.intro MB (And.intro hC (And.intro MG (And.intro hrd hRp)))))); clear M5 M1 MB B5 B1 BB hbg hC sC MG hrd hRp
  go_wp2_with (first | with_reducible refine wl_st M.out.1 _ _ rfl rfl rfl _ Tryd.underlying83 iC ?_ | with_reducible refine ws_row M.out.2.1 _ _ _ _ rfl rfl rfl rfl iC s1 aC ?_)
  obtain ⟨M5, M1, MB, hC, MG, hrd, hRp⟩ := M.out
  have hq : (rest ++ t0).length < 64 := by omega
  refine bodyPost_ret (v := .agg C) ?_ rfl ⟨some ⟨g, 0, none⟩, cap, by rw [hC, absH_few _ _ hq, absR_few _ hq, hRp, ← F.out.2.2.1], ?_, by rw [absR_few _ hq, hRp]; exact hpc2, hcm2, setRow_below MB (by omega) _⟩
  · exact results_cell_row rfl _ _ _ _ _ (0, 0) _ rfl (M1.row _) Tryd.underlying83 rfl iC
  · rw [absR_few _ hq]
    refine .inr ⟨g, 0, rfl, (MG.rowFar (show g ≠ w.heap.size + 1 by omega) _).lt, ?_⟩
    intro i hi
    exact ((MG.rowFar (show g ≠ w.heap.size + 1 by omega) _).cell (0 + i)).trans (by rw [Nat.zero_add]; exact hrd i hi)

set_option maxRecDepth 100000 in
set_option maxHeartbeats 4000000 in
theorem Write_many (H : List Wd) (hH : H.length = 8) (ad : Addr) (rest : List UInt8) (len c n : Nat) (hn : n < W64) (hlen : len = n % 64) (hpos : 0 < len) (hrl : rest.length = len) (hlc : len ≤ c) (hcm : c ≤ maxLen)
    (a0 : Option Addr) (t0 : List UInt8) (m0 c0 : Nat) (hm0 : t0.length = m0) (hc0 : m0 ≤ c0) (hc02 : m0 ≤ 140737488355328 ∧ c0 ≤ 9223372036854775807) (hno0 : a0 = none → m0 = 0 ∧ c0 = 0) (hmany : 64 ≤ len + m0) (w : World) (hrr : RdS w (some ad) rest) (hr : RdS w a0 t0) (hL : Laid w) :
    Calls Tryd.prog 40 #[.agg (stC H (.slice (some ad) len c) n), .slice a0 m0 c0] w (WrPost w H (rest ++ t0) ((n + m0) % W64)) := by
  have hlen64 : len < 64 := by rw [hlen]; exact Nat.mod_lt _ (by omega)
  have iS := isSt10 (stC H (.slice (some ad) len c) n) (stC_size _ _ _ hH)
  have cS := fun w => Sane_any H hH (some ad) len c n hn (by omega) true (by simpa using hlen) w
  obtain ⟨S, hS⟩ : ∃ S, S = stC H (.slice (some ad) len c) n := ⟨_, rfl⟩
  rw [← hS] at iS cS ⊢
  obtain ⟨x0, x1, x2, x3, x4, x5, x6, x7, h8⟩ := eight H hH
  obtain ⟨N, hN⟩ : ∃ N, N = (n + m0) % W64 := ⟨_, rfl⟩
  have hNi := add_num n m0 hn
  rw [← hN] at hNi
  have CS := Lib.hid cS
  clear cS
  have F := Lib.hid (And.intro hS (And.intro h8 (And.intro hN (And.intro hrr (And.intro hr (And.intro hL (And.intro hH (And.intro hrl hm0)))))))); clear hS h8 hN hrr hr hL hH hrl hm0 hn hlen
  go_enter Tryd.func40, Tryd.ntmps40
  go_wp2_with (with_reducible refine wl_st ((Blk.newAt w _ S rfl).alloc _) _ _ rfl rfl rfl _ Tryd.underlying83 iS ?_)
  refine (CS.out _).mono ?_
  rintro e w1 ⟨rfl, hb1⟩
  have A0 : Blk w1 w.heap.size 83 S := ((Blk.newAt w _ S rfl).alloc _).calls hb1
  have A1 : Blk w1 (w.heap.size + 1) 83 (startC 0) := by rw [startC_zero]; exact (Blk.second w _ _ _).calls hb1
  have AB : Below w.heap.size w w1 := bt (ba (ba (Below.refl _ _) _) _) hb1
  have z0 := A0.lt
  have z1 := A1.lt
  clear hb1 iS CS
  have A0' := A0
  rw [F.out.1, F.out.2.1, stC_lit] at A0'
  have cc := A0'.cell
  clear A0'
  have hmk : ∀ w : World, (Instr.makeSlice 23 (.int .i64 0) (.int .i64 64)).run Tryd.prog w = .ok (.slice (some ⟨w.heap.size, 0, none⟩) 0 64) (w.alloc (.cells (Array.replicate 64 (.int .u8 0)) 5)) := fun w => make_bytesC 0 64 (by omega) (by omega) w
  have own : ((w1.alloc (.cells (stC H (.slice none 0 0) N) 83)).alloc (.cells (Array.replicate 64 (.int .u8 0)) 5)).ownsRow (w1.heap.size + 1) 5 1 (.slice (some ⟨w1.heap.size + 1, 0, none⟩) 0 64) 0 (([] : List UInt8).map fun c => Value.int .u8 (c.toNat : Int)) := by
    have h := World.ownsRow_made (w1.alloc (.cells (stC H (.slice none 0 0) N) 83)) (base := w1.heap.size + 1) (e := 5) (size := 1) (Array.replicate 64 (.int .u8 0)) 64 (by simp) (by unfold maxLen; omega) (by simp)
    simpa using h
  have hmi : (m0 : Int) ≤ 140737488355328 := by omega
  obtain ⟨k, hk⟩ : ∃ k, k = min (64 - len) m0 := ⟨_, rfl⟩
  have d1 : (64 : Int) - (len : Int) = ((64 - len : Nat) : Int) := by omega
  have hmin : min ((64 - len : Nat) : Int) (m0 : Int) = (k : Int) := by omega
  have lp : 0 < (len : Int) := by omega
  obtain ⟨i0, hi, hz0, hz1, hz2⟩ := info_parts (show (Tryd.prog.info? 5).map (fun i => (i.zero, i.size, i.bytes)) = some (some (.int .u8 0), 1, 1) by kernel_rfl)
  have A5 : Blk _ w1.heap.size 83 (stC H (.slice none 0 0) N) := (Blk.new w1 83 (stC H (.slice none 0 0) N)).alloc (.cells (Array.replicate 64 (.int .u8 0)) 5)
  have A1' := (A1.alloc (.cells (stC H (.slice none 0 0) N) 83)).alloc (.cells (Array.replicate 64 (.int .u8 0)) 5)
  have A0'' := (A0.alloc (.cells (stC H (.slice none 0 0) N) 83)).alloc (.cells (Array.replicate 64 (.int .u8 0)) 5)
  have AB' := ba (ba AB (.cells (stC H (.slice none 0 0) N) 83)) (.cells (Array.replicate 64 (.int .u8 0)) 5)
  have I := Lib.hid (And.intro hi (And.intro hz0 (And.intro hz1 (And.intro hz2 (And.intro own (And.intro A5 (And.intro A1' (And.intro AB' (And.intro hk A0''))))))))); clear hi hz0 hz1 hz2 own A0 A1 AB A5 A1' A0'' AB' hk
  rw [F.out.2.1, stC_lit] at I
  go_wp2_with (at_builtin; refine wl_app I.out.2.2.2.2.1 rfl _ _ 23 rfl Tryd.underlying23 i0 I.out.1 I.out.2.1 I.out.2.2.1 I.out.2.2.2.1 rfl (some ad) len c rest rfl ((F.out.2.2.2.1.below I.out.2.2.2.2.2.2.2.1 (Nat.le_refl _))) F.out.2.2.2.2.2.2.2.1 (by simp) (by omega) (by simp) ?_)
  intro v' w2 ho hg hnil
  obtain ⟨a2, hs2, hr2, hno2, _⟩ := slice_to a0 t0 m0 c0 k F.out.2.2.2.2.2.2.2.2 (by have := I.out.2.2.2.2.2.2.2.2.1; omega) hc0
  obtain ⟨g1, cap1, cur1, rfl, hgb, hbg, hpc1, hcm1, _, _⟩ := own_blk ho hnil
  have B5 := I.out.2.2.2.2.2.1.grown hg (by simp [Value.ownBlock])
  have B0 := I.out.2.2.2.2.2.2.2.2.2.grown hg (by simp [Value.ownBlock]; omega)
  have B1 := I.out.2.2.2.2.2.2.1.grown hg (by simp [Value.ownBlock]; omega)
  have BB := below_grown I.out.2.2.2.2.2.2.2.1 hg (by simp; omega) (by intro k hk; simp [Value.ownBlock] at hk; omega)
  have zz : w1.heap.size + 1 < w2.heap.size := Nat.lt_of_le_of_lt hgb hbg.lt
  have hkb : len + k ≤ 64 := by have := I.out.2.2.2.2.2.2.2.2.1; omega
  have hk2 : k ≤ m0 := by have := I.out.2.2.2.2.2.2.2.2.1; omega
  have hno3 : a2 = none → k = 0 ∧ c0 = 0 := fun h => by
    have := hno0 (hno2.2 h)
    exact ⟨by omega, this.2⟩
  have L2 := Lib.hid (And.intro ho (And.intro B5 (And.intro B0 (And.intro B1 (And.intro BB hr2))))); clear ho B5 B0 B1 BB hr2 hbg hg hnil hmk cc
  go_wp2_with (at_builtin; refine wl_app L2.out.1 rfl _ _ 23 rfl Tryd.underlying23 i0 I.out.1 I.out.2.1 I.out.2.2.1 I.out.2.2.2.1 rfl a2 k c0 (t0.take k) rfl (L2.out.2.2.2.2.2 _ (F.out.2.2.2.2.1.below L2.out.2.2.2.2.1 (Nat.le_refl _))) (by rw [List.length_take, F.out.2.2.2.2.2.2.2.2]; omega) hno3 (by omega) (by omega) ?_)
  intro v3 w3 ho' hg hnil
  have ho : w3.ownsRow (w1.heap.size + 1) 5 1 v3 (len + k) ((rest ++ t0.take k).map fun c => Value.int .u8 (c.toNat : Int)) := by rw [List.map_append, List.map_take]; exact ho'
  clear ho'
  obtain ⟨L, hL⟩ : ∃ L, L = len + k := ⟨_, rfl⟩
  rw [← hL] at ho
  have HL := Lib.hid hL; clear hL
  obtain ⟨g, cap, cur, rfl, hgb, hbg, hpc2, hcm2, hRp, hrd⟩ := own_blk ho hnil
  clear ho hnil
  have B5 := L2.out.2.1.grown hg (by simp [Value.ownBlock]; omega)
  have B1 := L2.out.2.2.2.1.grown hg (by simp [Value.ownBlock]; omega)
  have BB := below_grown L2.out.2.2.2.2.1 hg (by omega) (by intro k hk; simp [Value.ownBlock] at hk; omega)
  clear hg
  obtain rfl : L = 64 := by have := HL.out; have := I.out.2.2.2.2.2.2.2.2.1; omega
  have hkl : len + k = 64 := HL.out.symm
  have hk3 : k = 64 - len := by omega
  obtain ⟨He, hHe⟩ : ∃ He, He = blk H (rest ++ t0.take k) := ⟨_, rfl⟩
  obtain ⟨t, ht⟩ : ∃ t, t = t0.drop k := ⟨_, rfl⟩
  obtain ⟨m, hm⟩ : ∃ m, m = m0 - k := ⟨_, rfl⟩
  obtain ⟨c', hc'⟩ : ∃ c', c' = c0 - k := ⟨_, rfl⟩
  have hHel : He.length = 8 := by rw [hHe]; exact blk_length _ _ F.out.2.2.2.2.2.2.1
  have htm : t.length = m := by rw [ht, hm, List.length_drop, F.out.2.2.2.2.2.2.2.2]
  have hc : m ≤ c' := by omega
  have hc2 : m ≤ 140737488355328 ∧ c' ≤ 9223372036854775807 := by omega
  obtain ⟨a', hs3, hr3, hno4⟩ := slice_from a0 t0 m0 c0 k F.out.2.2.2.2.2.2.2.2 hk2 hc0
  rw [← hm, ← hc'] at hs3
  have hno : a' = none → m = 0 ∧ c' = 0 := fun h => by
    have := hno0 (hno4 h)
    exact ⟨by omega, by omega⟩
  have e1 : (rest ++ t0).take 64 = rest ++ t0.take k := by rw [List.take_append, List.take_of_length_le (by have := F.out.2.2.2.2.2.2.2.1; omega), F.out.2.2.2.2.2.2.2.1, ← hk3]
  have e2 : (rest ++ t0).drop 64 = t := by rw [List.drop_append, List.drop_of_length_le (by have := F.out.2.2.2.2.2.2.2.1; omega), F.out.2.2.2.2.2.2.2.1, ← hk3, ht]; rfl
  have e3 : 64 ≤ (rest ++ t0).length := by rw [List.length_append, F.out.2.2.2.2.2.2.2.1, F.out.2.2.2.2.2.2.2.2]; omega
  have FIN := Lib.hid (fun (a : Option Addr) (c : Nat) (w2 : World) (h1 : RdS w2 a (absR t)) (h2 : (absR t).length ≤ c) (h3 : c ≤ maxLen) (h4 : Below w.heap.size w w2) => show WrPost w H (rest ++ t0) ((n + m0) % W64) (.returned (.agg (stC (absH He t) (.slice a (absR t).length c) N))) w2 from ⟨a, c, by rw [absH_cons _ _ e3, absR_cons _ e3, e1, e2, ← hHe, F.out.2.2.1], by rw [absR_cons _ e3, e2]; exact h1, by rw [absR_cons _ e3, e2]; exact h2, h3, h4⟩)
  clear e1 e2 e3
  have hrd2 : Rd w3 g 0 (rest ++ t0.take k) := fun i hi => (hbg.cell (0 + i)).trans (by rw [Nat.zero_add]; exact hrd i hi)
  have hLw := F.out.2.2.2.2.2.1.below BB (Nat.le_refl _)
  have cB := Lib.hid (fun (_ : Unit) => Block_any H F.out.2.2.2.2.2.2.1 g 0 cap _ w3 hrd2 hbg.lt hRp hLw)
  rw [← hHe] at cB
  have hr4 := hr3 w F.out.2.2.2.2.1
  rw [← ht] at hr4
  have F5 := Lib.hid (And.intro trivial (And.intro trivial (And.intro trivial (And.intro hr4 (And.intro F.out.2.2.2.2.2.1 (And.intro hHel (And.intro htm trivial)))))))
  rw [← stC_lit, ← F.out.2.1] at B5
  have l5 := B5.lt
  have l1 := B1.lt
  have i8H := is8 (u32c H) (by rw [u32c_size, F.out.2.2.2.2.2.2.1])
  have s8r : (u32c He).size = 8 := by rw [u32c_size, hHel]
  have i8r := is8 (u32c He) s8r
  have a8r := u32c_one He
  have W := Lib.hid (And.intro B5 (And.intro B1 (And.intro BB (And.intro F.out.2.2.2.2.2.2.1 (And.intro s8r hHel))))); clear B5 B1 BB hbg hrd hRp hLw hrd2 hr3 hr4 hno4 ht hHe hHel htm s8r hno0 HL
  clear F L2 I
  have F := F5; clear F5
  have hcN : (64 : Int) < 64 ↔ False := by decide
  have hmI : m = m0 - k := hm
  have KM := Lib.hid (And.intro hm (And.intro hc' (And.intro hkl hk3))); clear hm hc' hkl hk3 hmI d1 hmin hcN
  go_wp2_with (refine wpList_load_mid rfl _ _ rfl w1.heap.size 0 rfl (u32c H).toList _ (words_range W.out.1 W.out.2.2.2.1) Tryd.underlying81 rfl (by simpa using i8H) ?_)
  refine (cB.out ()).mono ?_
  rintro e w4 ⟨rfl, hb4⟩
  have D1 := (W.out.2.1.calls hb4).setsFar (b := w1.heap.size) (by omega) (u32c He).toList 0
  have D5 := (W.out.1.calls hb4).setWords W.out.2.2.2.1 W.out.2.2.2.2.2
  have DB := below_sets (b := w1.heap.size) (show w.heap.size ≤ w1.heap.size by omega) (u32c He).toList 0 (bt W.out.2.2.1 hb4)
  have D := Lib.hid (And.intro D1 (And.intro D5 (And.intro DB (And.intro (W.out.1.calls hb4) trivial)))); clear D1 D5 DB hb4
  go_wp2_with (refine wpList_store_mid rfl _ _ _ rfl w1.heap.size 0 (u32c He) rfl rfl (by rw [W.out.2.2.2.2.1]; exact words_there D.out.2.2.2.1 W.out.2.2.2.1) i8r a8r ?_)
  have HA := Lib.hid (And.intro D.out.2.1 (And.intro D.out.1 D.out.2.2.1)); clear D W cB
  generalize w4.setCells _ _ _ = w5 at *
  have hm0 : 0 ≤ (m : Int) := by omega
  have hmb : m ≤ 140737488355328 := by omega
  go_loopw [1] (fun s wr => ∃ (j : Nat) (a1 : Option Addr) (c1 p : Nat), p = m - 64 * j ∧ 64 * j ≤ m ∧ s = .slice a1 p c1 ∧ p ≤ c1 ∧ (p ≤ 140737488355328 ∧ c1 ≤ 9223372036854775807) ∧ RdS w a1 (t.drop (64 * j)) ∧ (a1 = none → p = 0 ∧ c1 = 0) ∧ Blk wr (w.heap.size + 1) 83 (startC 0) ∧ Blk wr w1.heap.size 83 (stC (blks t j He) (.slice none 0 0) N) ∧ Below w.heap.size w wr) (fun s _ => lenS s)
  case atStart =>
    obtain ⟨A5, A1, AB⟩ := HA.out
    refine ⟨0, a', c', m, by omega, by omega, rfl, hc, hc2, F.out.2.2.2.1, hno, A1, ?_, AB⟩
    rw [blks]
    exact A5
  case round =>
    clear HA
    obtain ⟨j, a1, c1, p, hp, hj, rfl, hpc, hc1, hr1, hno1, h1, h5, hb⟩ := hrel
    have hpi : (p : Int) ≤ 140737488355328 := by omega
    by_cases h64 : 64 ≤ p
    · obtain ⟨a2, hs2, hr2, _, _⟩ := slice_to a1 (t.drop (64 * j)) p c1 64 (by rw [drop_length_eq, F.out.2.2.2.2.2.2.1, hp]) h64 hpc
      obtain ⟨Hj, hHj⟩ : ∃ Hj, Hj = blks t j He := ⟨_, rfl⟩
      have hHl : Hj.length = 8 := by rw [hHj]; exact blks_length t j He F.out.2.2.2.2.2.1
      obtain ⟨r, hrr⟩ : ∃ r, r = blk Hj ((t.drop (64 * j)).take 64) := ⟨_, rfl⟩
      have hnext : blks t (j + 1) He = r := by rw [blks, ← hHj, hrr]
      have hrl : r.length = 8 := by rw [hrr]; exact blk_length _ _ hHl
      have htl : ((t.drop (64 * j)).take 64).length = 64 := by rw [List.length_take, drop_length_eq, F.out.2.2.2.2.2.2.1, ← hp]; omega
      obtain ⟨g2, o2, ha2, hg2, hrd2⟩ : ∃ g off, a2 = some ⟨g, off, none⟩ ∧ g < w.heap.size ∧ Rd w g off ((t.drop (64 * j)).take 64) := by
        rcases hr2 w hr1 with hh | hh
        · rw [hh] at htl; cases htl
        · exact hh
      subst ha2
      have hcall : ∀ w', Below w.heap.size w w' → Calls Tryd.prog 50 #[.agg (u32c Hj), .slice (some ⟨g2, o2, none⟩) 64 c1] w' fun e w'' => e = .returned (.agg (u32c r)) ∧ Below w'.heap.size w' w'' := fun w' hw' => by
        rw [hrr]
        exact Block_any Hj hHl g2 o2 c1 _ w' (fun i hi => hrd2.at hw' hg2 i hi) (Nat.lt_of_lt_of_le hg2 hw'.size) htl (F.out.2.2.2.2.1.below hw' (Nat.le_refl _))
      rw [← hHj] at h5
      have l5 := h5.lt
      have l1 := h1.lt
      have i8H := is8 (u32c Hj) (by rw [u32c_size, hHl])
      have s8r : (u32c r).size = 8 := by rw [u32c_size, hrl]
      have i8r := is8 (u32c r) s8r
      have a8r := u32c_one r
      have hpm : (p : Int) - 64 = ((p - 64 : Nat) : Int) := by omega
      have K := Lib.hid (And.intro h1 (And.intro h5 (And.intro hb (And.intro hp (And.intro hHj (And.intro hHl (And.intro hrr (And.intro hnext (And.intro hrl (And.intro htl (And.intro hr1 (And.intro hr1 s8r))))))))))))
      clear h1 h5 hb hp hHj hHl hrr hnext hrl htl hr1 hr2 s8r
      have KC := Lib.hid hcall; clear hcall
      have KS := Lib.hid hs2; clear hs2
      go_wp2_with fail
      refine wp_region_tail [some 61, some 62, some 63, some 64, some 65, some 66, none] (fun i => ([.pointer (some ⟨w1.heap.size, 0, none⟩), .agg (u32c Hj), .slice a1 p c1, .slice (some ⟨g2, o2, none⟩) 64 c1, .agg (u32c r), .pointer (some ⟨w1.heap.size, 0, none⟩), undef] : List Value).getD i undef) 6 (fun w' => ∃ wq, Below wr.heap.size wr wq ∧ w' = wq.setCells w1.heap.size 0 (u32c r).toList) (by kernel_rfl) rfl rfl rfl rfl rfl rfl ⟨
        .inr ⟨rfl, fun A w' hb hs => op_field0 (.tmp 5) rfl w1.heap.size ((hs.2 5 rfl).trans rfl)⟩,
        .inr ⟨rfl, fun A w' hb hs => op_load_mid _ (.tmp 61) rfl w1.heap.size 0 (hs.1 0 rfl 61 rfl) (u32c Hj).toList _ (words_range (K.out.2.1.below hb K.out.2.1.lt) K.out.2.2.2.2.2.1) Tryd.underlying81 rfl (by simpa using i8H)⟩,
        .inr ⟨rfl, fun A w' hb hs => op_move (.tmp 1) (.inl rfl) ((hs.2 1 rfl).trans rfl)⟩,
        .inr ⟨rfl, fun A w' hb hs => op_slice_s _ (.tmp 63) none (some (.const (.int .i64 64))) rfl (hs.1 2 rfl 63 rfl) rfl rfl (by kernel_rfl) (KS.out w')⟩,
        .inr ⟨rfl, fun A w' hb hs => op_call 50 _ (exec_call _ 50 _ rfl rfl (margs2 (hs.1 1 rfl 62 rfl) (hs.1 3 rfl 64 rfl)) Tryd.func50 rfl rfl) (KC.out w' (bt K.out.2.2.1 hb))⟩,
        .inr ⟨rfl, fun A w' hb hs => op_field0 (.tmp 5) rfl w1.heap.size ((hs.2 5 rfl).trans rfl)⟩,
        .inl ⟨rfl, rfl, fun A w' hb hs => wp_store_mid _ (.tmp 66) (.tmp 65) rfl w1.heap.size 0 (u32c r) (hs.1 5 rfl 66 rfl) (hs.1 4 rfl 65 rfl) (by rw [K.out.2.2.2.2.2.2.2.2.2.2.2.2]; exact words_there (K.out.2.1.below hb K.out.2.1.lt) K.out.2.2.2.2.2.1) i8r a8r ⟨rfl, w', hb, rfl⟩⟩, trivial⟩ ?_
      rintro _ ⟨wq, hbq, rfl⟩
      simp only [Fr, if_true, Act.put, List.setIfInBounds_toArray, List.set_cons_zero, List.set_cons_succ, List.getD_cons_zero, List.getD_cons_succ]
      have D1 := (K.out.1.below hbq l1).setsFar (b := w1.heap.size) (by omega) (u32c r).toList 0
      have D5 := (K.out.2.1.below hbq l5).setWords K.out.2.2.2.2.2.1 K.out.2.2.2.2.2.2.2.2.1
      have DB := below_sets (b := w1.heap.size) (show w.heap.size ≤ w1.heap.size by omega) (u32c r).toList 0 (bt K.out.2.2.1 hbq)
      have D := Lib.hid (And.intro D1 (And.intro D5 DB)); clear D1 D5 DB hbq
      generalize wq.setCells _ _ _ = w6 at *
      go_wp2
      obtain ⟨D1, D5, DB⟩ := D.out
      obtain ⟨_, _, _, hp, hHj, _, _, hnext, _, _, hr1, _, _⟩ := K.out
      go_roundw
      case rel =>
        refine ⟨j + 1, _, c1 - 64, p - 64, by omega, by omega, rfl, by omega, by omega, ?_, ?_, D1, by rw [hnext]; exact D5, DB⟩
        · have := hr1.from (n := p) (c := c1) (k := 64) (by rw [drop_length_eq, F.out.2.2.2.2.2.2.1, hp]) h64 hpc
          rw [List.drop_drop, show 64 * j + 64 = 64 * (j + 1) by omega] at this
          exact this
        · intro hnone
          exfalso
          have hsome := hno1
          cases a1 with
          | none => have := (hno1 rfl).1; omega
          | some ad => split at hnone <;> cases hnone
      case measure => simp [lenS]; omega
    · have hjj : t.length / 64 = j := by rw [F.out.2.2.2.2.2.2.1]; omega
      have hpl : p = (absR t).length := by rw [absR_length, F.out.2.2.2.2.2.2.1]; omega
      have hdr : t.drop (64 * j) = absR t := by unfold absR; rw [hjj]
      have hHH : blks t j He = absH He t := by unfold absH; rw [hjj]
      rw [hdr] at hr1
      rw [hHH] at h5
      clear hjj hdr hHH
      have hRl : (absR t).length = p := hpl.symm
      have hmx : (absR t).length ≤ maxLen := by rw [hRl]; unfold maxLen; omega
      obtain ⟨i0, hi, hz0, hz1, hz2⟩ := info_parts (show (Tryd.prog.info? 5).map (fun i => (i.zero, i.size, i.bytes)) = some (some (.int .u8 0), 1, 1) by kernel_rfl)
      have l5 := h5.lt
      have l1 := h1.lt
      have hHl : (absH He t).length = 8 := blks_length _ _ _ F.out.2.2.2.2.2.1
      obtain ⟨HH, hHH⟩ : ∃ HH, HH = absH He t := ⟨_, rfl⟩
      obtain ⟨R, hR⟩ : ∃ R, R = absR t := ⟨_, rfl⟩
      rw [← hHH] at h5 hHl
      rw [← hR] at hr1 hRl hmx
      have K := Lib.hid (And.intro h1 (And.intro h5 (And.intro hb (And.intro hp (And.intro hHH (And.intro hHl (And.intro hR (And.intro hRl (And.intro hr1 hmx)))))))))
      clear h1 h5 hb hp hHH hHl hR hRl hr1 hpl hmx
      have HI0 := Lib.hid (And.intro hi (And.intro hz0 (And.intro hz1 hz2))); clear hi hz0 hz1 hz2
      cases a1 with
      | none =>
        obtain ⟨hp0, hc0⟩ := hno1 rfl
        subst hp0 hc0
        have R0 : R = [] := List.length_eq_zero_iff.1 K.out.2.2.2.2.2.2.2.1
        obtain ⟨C, hC⟩ : ∃ C, C = stC HH (.slice (some ⟨wr.heap.size, 0, none⟩) 0 0) N := ⟨_, rfl⟩
        have sC : C.size = 10 := by rw [hC]; exact stC_size _ _ _ K.out.2.2.2.2.2.1
        have iC := isSt10 C sC
        have s1 : (startC 0).size = C.size := by rw [sC]; rfl
        have aC : C.all (·.oneCell') = true := by rw [hC]; exact stC_one _ _ _ _ _
        have B5 := K.out.2.1.alloc (.cells #[] 5)
        have c8 := blk_get B5 8 _ (stC_rest _ _ _ K.out.2.2.2.2.2.1)
        have f8 := B5.frozen 8
        have M5 : Blk _ w1.heap.size 83 C := ((K.out.2.1.set_ 8 (.slice (some ⟨wr.heap.size, 0, none⟩) 0 0)).to (show _ = C by rw [hC]; exact stC_setRest _ _ _ _ K.out.2.2.2.2.2.1)).alloc (.cells #[] 5)
        have M1 := (K.out.1.far (show w.heap.size + 1 ≠ w1.heap.size by omega) (i := 8) (.slice (some ⟨wr.heap.size, 0, none⟩) 0 0)).alloc (.cells #[] 5)
        have MB := ba (K.out.2.2.1.setCell (show w.heap.size ≤ (⟨w1.heap.size, 8, none⟩ : Addr).block by show w.heap.size ≤ w1.heap.size; omega) (.slice (some ⟨wr.heap.size, 0, none⟩) 0 0)) (.cells #[] 5)
        have M := Lib.hid (And.intro M5 (And.intro M1 (And.intro MB (And.intro hC R0)))); clear M5 M1 MB B5 hC sC R0
        go_wp2_with (first | (at_builtin; refine wpList_append_own_none rfl _ _ 23 rfl wr.heap.size 5 i0 1 Tryd.underlying23 HI0.out.1 _ 0 [] rfl (World.ownsRow_made wr #[] 0 (Nat.le_refl _) (by omega) rfl) rfl ?_) | with_reducible refine wl_st M.out.1 _ _ rfl rfl rfl _ Tryd.underlying83 iC ?_ | with_reducible refine ws_row M.out.2.1 _ _ _ _ rfl rfl rfl rfl iC s1 aC ?_)
        obtain ⟨M5, M1, MB, hC, R0⟩ := M.out
        have hRR := K.out.2.2.2.2.2.2.1
        have hHH := K.out.2.2.2.2.1
        rw [R0] at hRR
        have hCC : C = stC (absH He t) (.slice (some ⟨wr.heap.size, 0, none⟩) (absR t).length 0) N := by rw [hC, hHH, ← hRR]; rfl
        refine bodyPost_ret (v := .agg C) ?_ rfl (by rw [hCC]; exact FIN.out _ _ _ (.inl hRR.symm) (by rw [← hRR]; exact Nat.le_refl _) (by unfold maxLen; omega) (setRow_below MB (by omega) _))
        exact results_cell_row rfl _ _ _ _ _ (0, 0) _ rfl (M1.row _) Tryd.underlying83 rfl iC
      | some ad =>
        clear hno1
        have hmb2 : p ≤ maxLen := by unfold maxLen; omega
        have hmb3 : (0 + p) * 1 ≤ 140737488355328 := by omega
        go_wp2_with (at_builtin; go_loud (refine wpList_append_own _ rfl _ _ 23 rfl wr.heap.size 5 i0 (.int .u8 0) 1 1 Tryd.underlying23 HI0.out.1 HI0.out.2.1 HI0.out.2.2.1 HI0.out.2.2.2 rfl (by omega) _ 0 [] rfl (World.ownsRow_made wr #[] 0 (Nat.le_refl _) (by omega) rfl) ad p c1 (R.map fun c => Value.int .u8 (c.toNat : Int)) rfl (by rw [List.length_map, K.out.2.2.2.2.2.2.2.1, Nat.mul_one]) (fun j u hu => rd_news ((K.out.2.2.2.2.2.2.2.2.1.below K.out.2.2.1 (Nat.le_refl _)).below ((Below.refl _ _).alloc (Nat.le_refl _) _) (Nat.le_refl _)) j u hu) (one_news R) (by omega) hmb3 (by simp) ?_))
        intro v' w' ho hg hnil
        obtain ⟨g, cap, cur, rfl, hgb, hbg, hpc2, hcm3, hRp, hrd⟩ := own_blk ho hnil
        clear ho hnil
        have B5 := (K.out.2.1.alloc (.cells #[] 5)).grown hg (by simp [Value.ownBlock]; omega)
        have B1 := (K.out.1.alloc (.cells #[] 5)).grown hg (by simp [Value.ownBlock]; omega)
        have BB := below_grown (ba K.out.2.2.1 (.cells #[] 5)) hg (by simp; omega) (by intro k hk; simp [Value.ownBlock] at hk; omega)
        clear hg
        obtain ⟨C, hC⟩ : ∃ C, C = stC HH (.slice (some ⟨g, 0, none⟩) p cap) N := ⟨_, rfl⟩
        have sC : C.size = 10 := by rw [hC]; exact stC_size _ _ _ K.out.2.2.2.2.2.1
        have iC := isSt10 C sC
        have s1 : (startC 0).size = C.size := by rw [sC]; rfl
        have aC : C.all (·.oneCell') = true := by rw [hC]; exact stC_one _ _ _ _ _
        have c8 := blk_get B5 8 _ (stC_rest _ _ _ K.out.2.2.2.2.2.1)
        have f8 := B5.frozen 8
        have M5 : Blk _ w1.heap.size 83 C := (B5.set_ 8 (.slice (some ⟨g, 0, none⟩) p cap)).to (show _ = C by rw [hC]; exact stC_setRest _ _ _ _ K.out.2.2.2.2.2.1)
        have M1 := B1.far (show w.heap.size + 1 ≠ w1.heap.size by omega) (i := 8) (.slice (some ⟨g, 0, none⟩) p cap)
        have MG := hbg.far (show g ≠ w1.heap.size by omega) (i := 8) (.slice (some ⟨g, 0, none⟩) p cap)
        have MB := BB.setCell (show w.heap.size ≤ (⟨w1.heap.size, 8, none⟩ : Addr).block by show w.heap.size ≤ w1.heap.size; omega) (.slice (some ⟨g, 0, none⟩) p cap)
        have M := Lib.hid (And.intro M5 (And.intro M1 (And.intro MB (And.intro hC (And.intro MG hrd))))); clear M5 M1 MB B5 B1 BB hbg hC sC MG hrd
        go_wp2_with (first | with_reducible refine wl_st M.out.1 _ _ rfl rfl rfl _ Tryd.underlying83 iC ?_ | with_reducible refine ws_row M.out.2.1 _ _ _ _ rfl rfl rfl rfl iC s1 aC ?_)
        obtain ⟨M5, M1, MB, hC, MG, hrd⟩ := M.out
        have hRR := K.out.2.2.2.2.2.2.1
        have hHH := K.out.2.2.2.2.1
        have hRl := K.out.2.2.2.2.2.2.2.1
        have hCC : C = stC (absH He t) (.slice (some ⟨g, 0, none⟩) (absR t).length cap) N := by rw [hC, hHH, ← hRR, hRl]
        refine bodyPost_ret (v := .agg C) ?_ rfl (by
          rw [hCC]
          refine FIN.out _ _ _ (.inr ⟨g, 0, rfl, (MG.rowFar (show g ≠ w.heap.size + 1 by omega) _).lt, ?_⟩) (by rw [← hRR, hRl]; exact hpc2) hcm3 (setRow_below MB (by omega) _)
          intro i hi
          rw [← hRR] at hi ⊢
          exact ((MG.rowFar (show g ≠ w.heap.size + 1 by omega) _).cell (0 + i)).trans (by rw [Nat.zero_add]; exact hrd i hi))
        exact results_cell_row rfl _ _ _ _ _ (0, 0) _ rfl (M1.row _) Tryd.underlying83 rfl iC
end Go.Proofs.YtlegcceaoglpoaaDoor

namespace Go.Proofs.YtlegcceaoglpoaaDoor
open Go.RowKit
set_option linter.unusedVariables false

/-- The state that Write goes on from. -/
def effH (H : List Wd) (len n : Nat) : List Wd := if len = n % 64 then H else HI
def effR (r : List UInt8) (len n : Nat) : List UInt8 := if len = n % 64 then r else []
def effN (len n : Nat) : Nat := if len = n % 64 then n else 0
theorem Write_any (H : List Wd) (hH : H.length = 8) (a : Option Addr) (rest : List UInt8) (len c n : Nat) (hn : n < W64) (hrl : rest.length = len) (hlc : len ≤ c) (hcm : c ≤ maxLen)
    (a' : Option Addr) (t : List UInt8) (m c' : Nat) (hm : t.length = m) (hc : m ≤ c') (hc2 : m ≤ 140737488355328 ∧ c' ≤ 9223372036854775807) (hno : a' = none → m = 0 ∧ c' = 0) (w : World) (hrr : RdS w a rest) (hr : RdS w a' t) (hL : Laid w) :
    Calls Tryd.prog 40 #[.agg (stC H (.slice a len c) n), .slice a' m c'] w (WrPost w (effH H len n) (effR rest len n ++ t) ((effN len n + m) % W64)) := by
  have hl9 : len ≤ 9223372036854775807 := by unfold maxLen at hcm; omega
  unfold effH effR effN
  by_cases h : len = n % 64
  · rw [if_pos h, if_pos h, if_pos h]
    by_cases h0 : len = 0
    · have hr0 : rest = [] := List.length_eq_zero_iff.1 (by omega)
      rw [hr0, List.nil_append]
      exact Write_empty H hH a len c n hn hl9 H hH a c n hn hcm (.inl ⟨h, rfl, rfl, rfl, rfl, h0⟩) a' t m c' hm hc hc2 hno w hr hL
    · rcases hrr with hrr | ⟨g, off, ha, hg, hrd⟩
      · rw [hrr] at hrl; exact absurd hrl.symm h0
      · subst ha
        by_cases hf : len + m < 64
        · exact Write_few H hH _ rest len c n hn h (by omega) hrl hlc hcm a' t m c' hm hc hc2 hno hf w (.inr ⟨g, off, rfl, hg, hrd⟩) hr hL
        · exact Write_many H hH _ rest len c n hn h (by omega) hrl hlc hcm a' t m c' hm hc hc2 hno (by omega) w (.inr ⟨g, off, rfl, hg, hrd⟩) hr hL
  · rw [if_neg h, if_neg h, if_neg h, List.nil_append]
    exact Write_empty H hH a len c n hn hl9 HI HI_length none 0 0 (by unfold W64; omega) (by omega) (.inr ⟨h, rfl, rfl, rfl, rfl⟩) a' t m c' hm hc hc2 hno w hr hL

/-! ## Taking up in parts is taking up at once -/
theorem abs_app (H : List Wd) (t : List UInt8) : ∀ (k : Nat) (l : List UInt8), l.length ≤ k → ∀ H, absH H (l ++ t) = absH (absH H l) (absR l ++ t) ∧ absR (l ++ t) = absR (absR l ++ t)
  | 0, l, h, H => by
    have : l = [] := List.length_eq_zero_iff.1 (by omega)
    subst this
    exact ⟨rfl, rfl⟩
  | k + 1, l, h, H => by
    by_cases h64 : l.length < 64
    · rw [absH_few H l h64, absR_few l h64]
      exact ⟨rfl, rfl⟩
    · have hlt : 64 ≤ (l ++ t).length := by rw [List.length_append]; omega
      have e1 : (l ++ t).take 64 = l.take 64 := List.take_append_of_le_length (by omega)
      have e2 : (l ++ t).drop 64 = l.drop 64 ++ t := List.drop_append_of_le_length (by omega)
      have ih := abs_app H t k (l.drop 64) (by rw [List.length_drop]; omega) (blk H (l.take 64))
      rw [absH_cons H (l ++ t) hlt, absR_cons (l ++ t) hlt, e1, e2, absH_cons H l (by omega), absR_cons l (by omega)]
      exact ih
theorem absH_app (H : List Wd) (l t : List UInt8) : absH H (l ++ t) = absH (absH H l) (absR l ++ t) := (abs_app H t l.length l (Nat.le_refl _) H).1
theorem absR_app (l t : List UInt8) : absR (l ++ t) = absR (absR l ++ t) := (abs_app [] t l.length l (Nat.le_refl _) []).2
theorem absH_length (H : List Wd) (l : List UInt8) (h : H.length = 8) : (absH H l).length = 8 := blks_length _ _ _ h

/-- v is the state that has taken up txt, from the beginning on. -/
def StAt (w : World) (v : Value) (txt : List UInt8) : Prop :=
  ∃ (a : Option Addr) (c : Nat), v = .agg (stC (absH HI txt) (.slice a (absR txt).length c) (txt.length % W64)) ∧ RdS w a (absR txt) ∧ (absR txt).length ≤ c ∧ c ≤ maxLen
theorem StAt.below {w w' : World} {v : Value} {txt : List UInt8} (h : StAt w v txt) (hb : Below w.heap.size w w') : StAt w' v txt := by
  obtain ⟨a, c, e, hr, h1, h2⟩ := h
  exact ⟨a, c, e, hr.calls hb, h1, h2⟩
theorem StAt.start (w : World) : StAt w (.agg (stC HI (.slice none 0 0) 0)) [] := ⟨none, 0, rfl, .inl rfl, Nat.le_refl _, Nat.zero_le _⟩
/-- Write goes on with a text. -/
theorem Write_at (v : Value) (txt : List UInt8) (a' : Option Addr) (t : List UInt8) (m c' : Nat) (hm : t.length = m) (hc : m ≤ c') (hc2 : m ≤ 140737488355328 ∧ c' ≤ 9223372036854775807) (hno : a' = none → m = 0 ∧ c' = 0) (w : World) (hv : StAt w v txt) (hr : RdS w a' t) (hL : Laid w) :
    Calls Tryd.prog 40 #[v, .slice a' m c'] w fun e w' => ∃ v', e = .returned v' ∧ StAt w' v' (txt ++ t) ∧ Below w.heap.size w w' := by
  obtain ⟨a, c, rfl, hra, h1, h2⟩ := hv
  have hW : txt.length % W64 < W64 := Nat.mod_lt _ W64_pos
  have hs : (absR txt).length = txt.length % W64 % 64 := by rw [absR_length]; unfold W64; omega
  refine (Write_any (absH HI txt) (absH_length _ _ HI_length) a (absR txt) _ c _ hW rfl h1 h2 a' t m c' hm hc hc2 hno w hra hr hL).mono ?_
  rintro e w' ⟨a2, c2, rfl, hr2, h3, h4, hb⟩
  refine ⟨_, rfl, ?_, hb⟩
  simp only [effH, effR, effN, if_pos hs] at hr2 h3 ⊢
  refine ⟨a2, c2, ?_, by rw [absR_app]; exact hr2, by rw [absR_app]; exact h3, h4⟩
  rw [absH_app HI txt t, absR_app txt t, List.length_append, hm]
  have e : (txt.length % W64 + m) % W64 = (txt.length + m) % W64 := by unfold W64; omega
  rw [e]
end Go.Proofs.YtlegcceaoglpoaaDoor

namespace Go.Proofs.YtlegcceaoglpoaaDoor
open Go.RowKit
set_option linter.unusedVariables false

/-- All operations but the last leave what is old alone, and of what each yields F holds; the last waits for all. -/
def ValStep (P : Program) (Q : Exit → Act → World → Prop) (w0 : World) (dsts : List (Option Tmp)) (F : Nat → Value → World → Prop) (a0 : Act) (n : Nat) (T : World → Prop) (i : Nat) (o : Oper) : Prop :=
  (i = n ∧ ((List.range n).all fun j => (edgesOf o).contains j) = true ∧ ∀ (A : Act) w' (γ : Nat → Value), Below w0.heap.size w0 w' → (∀ j, j < n → F j (γ j) w') → SlotF dsts γ a0 o A → o.wp P A w' (fun a' w'' => ∃ u, a' = A.put o.dst u ∧ T w'') Q) ∨
  (Nat.beq i n = false ∧ ∀ (A : Act) w' (γ : Nat → Value), Below w0.heap.size w0 w' → (∀ j, (edgesOf o).contains j = true → F j (γ j) w') → SlotF dsts γ a0 o A → o.wp P A w' (fun a' w'' => ∃ u, a' = A.put o.dst u ∧ Below w'.heap.size w' w'' ∧ F i u w'') Q)
theorem wp_region_vals {P : Program} {Q : Exit → Act → World → Prop} {id : Nat} {l : List Oper} {a : Act} {w : World} (dsts : List (Option Tmp)) (F : Nat → Value → World → Prop) (n : Nat) (T : World → Prop)
    (hF : ∀ j u w1 w2, F j u w1 → Below w1.heap.size w1 w2 → F j u w2)
    (hm : P.follows .mixedOrders = true) (hds : l.map (·.dst) = dsts) (hnd : nodupD dsts = true) (hng : (l.all fun o => o.guard.isNone) = true) (hord : ordGo 0 l = true) (hin : inD a.tmps.size dsts = true) (hn : l.length = n + 1)
    (step : StepAll (ValStep P Q w dsts F a n T) 0 l) (fin : ∀ γ w', T w' → Q .normal (Fr γ (fun _ => true) dsts 0 a) w') : (Code.region id l.toArray true).wp P Q a w := by
  refine wp_region_inv (Γ := Nat → Value) dsts (fun γ => γ) (fun γ L w' => (L n = false ∧ Below w.heap.size w w' ∧ ∀ j, L j = true → F j (γ j) w') ∨ (L n = true ∧ (∀ j, j < n → L j = true) ∧ T w')) hm hds hnd hng hord (fun _ => undef) (.inl ⟨rfl, (Below.refl _ _).drew, fun j h => by cases h⟩) ?_ ?_
  · have key : ∀ (l' : List Oper) (k : Nat), k + l'.length = n + 1 → StepAll (ValStep P Q w dsts F a n T) k l' → StepAll (fun i o => ∀ (γ : Nat → Value) (L : Nat → Bool) w', ((L n = false ∧ Below w.heap.size w w' ∧ ∀ j, L j = true → F j (γ j) w') ∨ (L n = true ∧ (∀ j, j < n → L j = true) ∧ T w')) → L i = false → (∀ j ∈ edgesOf o, L j = true) →
        o.wp P (Fr γ L dsts 0 a) w' (fun a' w'' => ∃ γ' : Nat → Value, (∀ j, L j = true → γ' j = γ j) ∧ a' = (Fr γ L dsts 0 a).put o.dst (γ' i) ∧ ((onL L i n = false ∧ Below w.heap.size w w'' ∧ ∀ j, onL L i j = true → F j (γ' j) w'') ∨ (onL L i n = true ∧ (∀ j, j < n → onL L i j = true) ∧ T w''))) Q) k l' := by
      intro l'
      induction l' with
      | nil => intro _ _ _; trivial
      | cons o l' ih =>
        intro k hk hs
        refine ⟨?_, ih (k + 1) (by simp at hk; omega) hs.2⟩
        intro γ L w' hI hL hdep
        have hkn : k ≤ n := by simp at hk; omega
        have hln : L n = false := by
          cases e : L n with
          | false => rfl
          | true =>
            rcases hI with ⟨h, _⟩ | ⟨_, h, _⟩
            · rw [e] at h; cases h
            · by_cases hk2 : k = n
              · rw [hk2, e] at hL; cases hL
              · rw [h k (by omega)] at hL; cases hL
        obtain ⟨hb, hFs⟩ : Below w.heap.size w w' ∧ ∀ j, L j = true → F j (γ j) w' := by
          rcases hI with ⟨_, h⟩ | ⟨h, _⟩
          · exact h
          · rw [hln] at h; cases h
        have hSF : SlotF dsts γ a o (Fr γ L dsts 0 a) :=
          ⟨fun j hj t ht => Fr_get γ L t j (hdep j (List.contains_iff_mem.1 hj)) dsts 0 a hnd (Nat.zero_le _) (by simpa using ht) (inD_lt hin ht), fun t ht => Fr_old γ L t dsts 0 a ht⟩
        have hup : ∀ u, (fun j => if j = k then u else γ j) k = u := fun u => by simp
        have hkeep : ∀ u j, L j = true → (fun j => if j = k then u else γ j) j = γ j := fun u j hj => by
          by_cases e : j = k
          · rw [e, hL] at hj; cases hj
          · simp [e]
        rcases hs.1 with ⟨rfl, hall, hq⟩ | ⟨hne, hq⟩
        · have hd : ∀ j, j < k → L j = true := fun j hj => hdep j (List.contains_iff_mem.1 (List.all_eq_true.1 hall j (List.mem_range.2 hj)))
          refine Oper.wp_mono ?_ (hq _ w' γ hb (fun j hj => hFs j (hd j hj)) hSF)
          rintro a' w'' ⟨u, rfl, hT⟩
          refine ⟨fun j => if j = k then u else γ j, hkeep u, by rw [hup u], .inr ⟨onL_same, fun j hj => ?_, hT⟩⟩
          simp [onL, hd j hj]
        · refine Oper.wp_mono ?_ (hq _ w' γ hb (fun j hj => hFs j (hdep j (List.contains_iff_mem.1 hj))) hSF)
          rintro a' w'' ⟨u, rfl, hbel, hFi⟩
          refine ⟨fun j => if j = k then u else γ j, hkeep u, by rw [hup u], .inl ⟨?_, bt hb hbel, fun j hj => ?_⟩⟩
          · have hne' : n ≠ k := fun e => by subst e; simp at hne
            rw [onL_ne hne', hln]
          · by_cases e : j = k
            · subst e
              rw [hup u]
              exact hFi
            · have hj' : L j = true := by rw [onL_ne e] at hj; exact hj
              rw [hkeep u j hj']
              exact hF j _ _ _ (hFs j hj') hbel
    exact key l 0 (by omega) step
  · rintro γ L w' hL hI
    rcases hI with ⟨h, _⟩ | ⟨_, _, h⟩
    · rw [hL n (by omega)] at h; cases h
    · exact fin γ w' h
end Go.Proofs.YtlegcceaoglpoaaDoor

namespace Go.Proofs.YtlegcceaoglpoaaDoor
open Go.RowKit
set_option linter.unusedVariables false

/-- The number of the first k bytes, the lowest first. -/
def leN (l : List UInt8) : Nat → Nat
  | 0 => 0
  | k + 1 => leN l k + (l.getD k 0).toNat * 256 ^ k
theorem leN_0 (l : List UInt8) : leN l 0 = 0 := rfl
theorem leN_succ (l : List UInt8) (k : Nat) : leN l (k + 1) = leN l k + (l.getD k 0).toNat * 256 ^ k := rfl
theorem leN_lt (l : List UInt8) (k : Nat) : leN l k < 256 ^ k := by
  induction k with
  | zero => simp [leN]
  | succ k ih =>
    have h := (l.getD k 0).toNat_lt
    have e : 256 ^ (k + 1) = 256 ^ k + 255 * 256 ^ k := by rw [Nat.pow_succ]; omega
    have hm : (l.getD k 0).toNat * 256 ^ k ≤ 255 * 256 ^ k := Nat.mul_le_mul_right _ (by omega)
    unfold leN
    omega
theorem leN_T (l : List UInt8) (k : Nat) (h : k ≤ 32) : leN l k < T := by
  have h1 := leN_lt l k
  have h2 : 256 ^ k ≤ 256 ^ 32 := Nat.pow_le_pow_right (by decide) h
  have h3 : (256 : Nat) ^ 32 = T := by decide
  omega
/-- m as 32 bytes, the lowest first. -/
def leB (m : Nat) : List UInt8 := (List.range 32).map fun i => UInt8.ofNat (m / 256 ^ i % 256)
theorem leB_length (m : Nat) : (leB m).length = 32 := by simp [leB]
theorem leN_byte (l : List UInt8) (k i : Nat) (h : i < k) : leN l k / 256 ^ i % 256 = (l.getD i 0).toNat := by
  induction k with
  | zero => omega
  | succ k ih =>
    unfold leN
    by_cases e : i = k
    · subst e
      have h1 := leN_lt l i
      have h2 := (l.getD i 0).toNat_lt
      rw [Nat.add_mul_div_right _ _ (Nat.pow_pos (by decide)), Nat.div_eq_of_lt h1, Nat.zero_add, Nat.mod_eq_of_lt h2]
    · rw [← ih (by omega)]
      have e2 : (l.getD k 0).toNat * 256 ^ k = ((l.getD k 0).toNat * 256 ^ (k - i - 1) * 256) * 256 ^ i := by
        rw [Nat.mul_assoc, Nat.mul_assoc, ← Nat.pow_succ', ← Nat.pow_add]
        congr 2
        omega
      rw [e2, Nat.add_mul_div_right _ _ (Nat.pow_pos (by decide)), Nat.add_mul_mod_self_right]
theorem leB_leN (l : List UInt8) (h : l.length = 32) : leB (leN l 32) = l := by
  unfold leB
  apply List.ext_getElem
  · simp [h]
  · intro i h1 h2
    simp only [List.getElem_map, List.getElem_range]
    rw [leN_byte l 32 i (by omega)]
    simp [List.getD, h2]
theorem leN_zero (l : List UInt8) (k : Nat) : leN l k = 0 ↔ ∀ i, i < k → l.getD i 0 = 0 := by
  induction k with
  | zero => simp [leN]
  | succ k ih =>
    unfold leN
    constructor
    · intro h i hi
      have h1 : leN l k = 0 := by omega
      have h2 : (l.getD k 0).toNat * 256 ^ k = 0 := by omega
      by_cases e : i = k
      · subst e
        have h3 := (Nat.mul_eq_zero.1 h2).resolve_right (by have := Nat.pow_pos (n := i) (show 0 < 256 by decide); omega)
        exact UInt8.toNat_inj.1 (by simpa using h3)
      · exact ih.1 h1 i (by omega)
    · intro h
      rw [ih.2 fun i hi => h i (by omega), h k (by omega)]
      simp
theorem lim_leN_other (l : List UInt8) (k j : Nat) (hj : j ≠ k / 8) (hk : k < 32) : lim (leN l (k + 1)) j = lim (leN l k) j := by
  have h1 := leN_lt l k
  have h0 := leN_lt l (k + 1)
  have hW : W64 = 256 ^ 8 := by decide
  unfold lim
  rw [hW, ← Nat.pow_mul]
  by_cases hlt : k / 8 < j
  · have e0 : 256 ^ (k + 1) ≤ 256 ^ (8 * j) := Nat.pow_le_pow_right (by decide) (by omega)
    have e1 : 256 ^ k ≤ 256 ^ (8 * j) := Nat.pow_le_pow_right (by decide) (by omega)
    rw [Nat.div_eq_of_lt (by omega), Nat.div_eq_of_lt (by omega)]
  · rw [leN_succ]
    have e2 : (l.getD k 0).toNat * 256 ^ k = ((l.getD k 0).toNat * 256 ^ (k - 8 * j - 8) * 256 ^ 8) * 256 ^ (8 * j) := by
      rw [Nat.mul_assoc, Nat.mul_assoc, ← Nat.pow_add, ← Nat.pow_add]
      congr 2
      omega
    rw [e2, Nat.add_mul_div_right _ _ (Nat.pow_pos (by decide)), Nat.add_mul_mod_self_right]
theorem lim_leN_at (l : List UInt8) (k : Nat) (hk : k < 32) : lim (leN l (k + 1)) (k / 8) = lim (leN l k) (k / 8) + (l.getD k 0).toNat * 2 ^ (8 * (k % 8)) ∧ lim (leN l k) (k / 8) < 2 ^ (8 * (k % 8)) := by
  have h1 := leN_lt l k
  have hW : W64 = 256 ^ 8 := by decide
  have hp : (2 : Nat) ^ (8 * (k % 8)) = 256 ^ (k % 8) := by rw [Nat.pow_mul]
  have hs : (256 : Nat) ^ k = 256 ^ (k % 8) * 256 ^ (8 * (k / 8)) := by rw [← Nat.pow_add]; congr 1; omega
  have hb := (l.getD k 0).toNat_lt
  have hq : leN l k / 256 ^ (8 * (k / 8)) < 256 ^ (k % 8) := Nat.div_lt_of_lt_mul (by rw [Nat.mul_comm, ← hs]; exact h1)
  have hle : (256 : Nat) ^ (k % 8) ≤ 256 ^ 7 := Nat.pow_le_pow_right (by decide) (by omega)
  unfold lim
  rw [hW, ← Nat.pow_mul, hp]
  rw [leN_succ, hs, ← Nat.mul_assoc, Nat.add_mul_div_right _ _ (Nat.pow_pos (by decide))]
  have hm : (l.getD k 0).toNat * 256 ^ (k % 8) ≤ 255 * 256 ^ (k % 8) := Nat.mul_le_mul_right _ (by omega)
  generalize leN l k / 256 ^ (8 * (k / 8)) = a at *
  generalize 256 ^ (k % 8) = c at *
  generalize (l.getD k 0).toNat * c = d at *
  have e7 : (256 : Nat) ^ 7 = 72057594037927936 := by decide
  have e8 : (256 : Nat) ^ 8 = 18446744073709551616 := by decide
  rw [e7] at hle
  rw [e8, Nat.mod_eq_of_lt (by omega), Nat.mod_eq_of_lt (by omega)]
  exact ⟨rfl, hq⟩
end Go.Proofs.YtlegcceaoglpoaaDoor

namespace Go.Proofs.YtlegcceaoglpoaaDoor
open Go.RowKit
set_option linter.unusedVariables false

theorem u8cells_at (l : List UInt8) (i : Nat) (h : i < l.length) : (u8cells l)[i]? = some (.int .u8 (l.getD i 0).toNat) := by
  simp [u8cells, h]
theorem u8cells_size (l : List UInt8) : (u8cells l).size = l.length := by simp [u8cells]
theorem u8cells_one (l : List UInt8) : (u8cells l).all (·.oneCell') = true := by simp [u8cells, Value.oneCell']
theorem u8cells_inj (l k : List UInt8) (h : l.length = k.length) : u8cells l = u8cells k ↔ l = k := by
  constructor
  · intro e
    apply List.ext_getElem h
    intro i h1 h2
    have e1 := u8cells_at l i h1
    rw [e, u8cells_at k i h2] at e1
    injection e1 with e2
    injection e2 with _ e3
    have e4 : k.getD i 0 = l.getD i 0 := UInt8.toNat_inj.1 (by omega)
    simpa [List.getD, h1, h2] using e4.symm
  · rintro rfl; rfl
/-- == on hashes. -/
theorem eqH (l k : List UInt8) (b : Bool) (hl : l.length = 32) (hk : k.length = 32) (hb : (decide (l = k)) = b) (w : World) :
    (Op.equalIn 10000 58 (.agg (u8cells l)) (.agg (u8cells k))).run Tryd.prog w = .ok b w := by
  obtain ⟨i, hi⟩ := Option.isSome_iff_exists.1 (show (Tryd.prog.info? 5).isSome = true by kernel_rfl)
  refine run_eqInts (P := Tryd.prog) w .u8 .u8 (by kernel_rfl) Tryd.underlying5 Tryd.underlying58 hi (by kernel_rfl) (fun i => ((l.getD i 0).toNat : Int)) (fun i => ((k.getD i 0).toNat : Int)) _ _ (fun i h => ⟨u8cells_at l i (by omega), u8cells_at k i (by omega)⟩) b ?_
  rw [← hb]
  rw [Bool.eq_iff_iff]
  simp only [List.all_eq_true, List.mem_range, beq_iff_eq, decide_eq_true_eq]
  constructor
  · intro h
    apply List.ext_getElem (by omega)
    intro i h1 h2
    have e := h i (by omega)
    have e4 : l.getD i 0 = k.getD i 0 := UInt8.toNat_inj.1 (by omega)
    simpa [List.getD, h1, h2] using e4
  · rintro rfl i _; rfl
theorem isH (l : List UInt8) (hl : l.length = 32) : (Tryd.prog.info? 58).map (·.size) = some (u8cells l).size := by rw [u8cells_size, hl]; kernel_rfl
theorem u8size {i : TypeInfo} (hi : Tryd.prog.info? 5 = some i) : i.size = 1 := by
  have h : (Tryd.prog.info? 5).map (·.size) = some 1 := by kernel_rfl
  rw [hi] at h
  simpa using h
theorem index_H (l : List UInt8) (k : Nat) (hl : l.length = 32) (hk : k < 32) (w : World) :
    (Instr.index 58 (.agg (u8cells l)) (.int .i64 k)).run Tryd.prog w = .ok (.int .u8 (l.getD k 0).toNat) w := by
  obtain ⟨i, hi⟩ := Option.isSome_iff_exists.1 (show (Tryd.prog.info? 5).isSome = true by kernel_rfl)
  exact index_arr (by kernel_rfl) Tryd.underlying58 hi (u8size hi) hk (u8cells_at l k (by omega)) w
theorem index_B (l : List UInt8) (k : Nat) (hl : l.length = 32) (hk : k < 32) (w : World) :
    (Instr.index 57 (.agg (u8cells l)) (.int .i64 k)).run Tryd.prog w = .ok (.int .u8 (l.getD k 0).toNat) w := by
  obtain ⟨i, hi⟩ := Option.isSome_iff_exists.1 (show (Tryd.prog.info? 5).isSome = true by kernel_rfl)
  exact index_arr (by kernel_rfl) Tryd.underlying57 hi (u8size hi) hk (u8cells_at l k (by omega)) w
abbrev zeroH : List UInt8 := List.replicate 32 0

theorem zeroH_cells : u8cells zeroH = #[.int .u8 0, .int .u8 0, .int .u8 0, .int .u8 0, .int .u8 0, .int .u8 0, .int .u8 0, .int .u8 0, .int .u8 0, .int .u8 0, .int .u8 0, .int .u8 0, .int .u8 0, .int .u8 0, .int .u8 0, .int .u8 0, .int .u8 0, .int .u8 0, .int .u8 0, .int .u8 0, .int .u8 0, .int .u8 0, .int .u8 0, .int .u8 0, .int .u8 0, .int .u8 0, .int .u8 0, .int .u8 0, .int .u8 0, .int .u8 0, .int .u8 0, .int .u8 0] := by kernel_rfl
theorem ucells_set (a b j : Nat) (h : j < 4) (ho : ∀ i, i < 4 → i ≠ j → lim b i = lim a i) : (ucells a).setIfInBounds j (.int .u64 (lim b j)) = ucells b := by
  have h0 := ho 0
  have h1 := ho 1
  have h2 := ho 2
  have h3 := ho 3
  rcases (show j = 0 ∨ j = 1 ∨ j = 2 ∨ j = 3 from by omega) with rfl | rfl | rfl | rfl <;> simp_all [ucells]
theorem ucells_zero : ucells 0 = #[.int .u64 0, .int .u64 0, .int .u64 0, .int .u64 0] := by simp [ucells, lim]


theorem or_shift (a x s : Nat) (ha : a < 2 ^ s) (hx : x < 256) (hs : s ≤ 56) : bits .or .u64 (a : Int) (IntKind.u64.wrap (IntKind.u64.wrap (x : Int) * 2 ^ s)) = ((a + x * 2 ^ s : Nat) : Int) := by
  have h56 : (2 : Nat) ^ s ≤ 2 ^ 56 := Nat.pow_le_pow_right (by decide) hs
  have hx2 : x * 2 ^ s ≤ 255 * 2 ^ 56 := Nat.mul_le_mul (by omega) h56
  have w1 : IntKind.u64.wrap (x : Int) = (x : Int) := by simp [IntKind.wrap, IntKind.signed, IntKind.bits]; omega
  have w2 : IntKind.u64.wrap ((x : Int) * 2 ^ s) = ((x * 2 ^ s : Nat) : Int) := by
    have e : (x : Int) * 2 ^ s = ((x * 2 ^ s : Nat) : Int) := by push_cast; rfl
    rw [e]
    generalize x * 2 ^ s = y at *
    simp [IntKind.wrap, IntKind.signed, IntKind.bits]; omega
  rw [w1, w2]
  have e2 := u64_or_nat a (x * 2 ^ s) (by omega) (by omega)
  rw [e2]
  congr 1
  rw [Nat.or_comm, ← Nat.shiftLeft_eq, ← Nat.shiftLeft_add_eq_or_of_lt ha]
  omega

end Go.Proofs.YtlegcceaoglpoaaDoor
