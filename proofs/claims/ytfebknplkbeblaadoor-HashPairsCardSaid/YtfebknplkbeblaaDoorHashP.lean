/- hash.Cmp, bytes.Equal, hash.Witness, hash.Pair. -/
import Derived.Test.YtfebknplkbeblaaDoorShaP
import Derived.Test.YtfebknplkbeblaaDoorOps
import Derived.Test.YtfebknplkbeblaaDoorSame
import Derived.Test.YtfebknplkbeblaaDoorHashC
import Derived.Lib.Bytes
namespace Go.Proofs.YtfebknplkbeblaaDoor
open Go.RowKit
set_option linter.unusedVariables false
set_option maxRecDepth 100000 in
theorem HCmp_any (a b : List UInt8) (ha : a.length = 32) (hb : b.length = 32) (c : Int) (hc : CmpIs (leN a 32) (leN b 32) c) (w : World) :
    Calls Tryd.prog 39 #[.agg (u8cells a), .agg (u8cells b)] w fun e w' => e = .returned (.int .i64 c) ∧ Below w.heap.size w w' := by
  have n1 := fun w => Number_any a ha w
  have n2 := fun w => Number_any b hb w
  have i1 := isH a ha
  have i2 := isH b hb
  obtain ⟨A1, hA1⟩ : ∃ A, A = u8cells a := ⟨_, rfl⟩
  obtain ⟨A2, hA2⟩ : ∃ A, A = u8cells b := ⟨_, rfl⟩
  rw [← hA1] at n1 i1 ⊢
  rw [← hA2] at n2 i2 ⊢
  generalize leN a 32 = m at *
  generalize leN b 32 = n at *
  have bb : Below w.heap.size w ((w.alloc (.cells A1 38)).alloc (.cells A2 38)) := ba (ba (Below.refl _ _) _) _
  have B1 : Blk ((w.alloc (.cells A1 38)).alloc (.cells A2 38)) w.heap.size 38 A1 := (Blk.newAt w _ A1 rfl).alloc _
  have B2 : Blk ((w.alloc (.cells A1 38)).alloc (.cells A2 38)) (w.heap.size + 1) 38 A2 := Blk.second w _ _ _
  have F := Lib.hid (And.intro B1 (And.intro B2 bb)); clear B1 B2 bb hA1 hA2
  go_enter Tryd.func39, Tryd.ntmps39
  go_wp2_with fail
  try simp only [List.append_eq, List.cons_append, List.nil_append]
  refine wp_region_g [some 5, some 6, some 7, some 8, some 9, some 4] (FL [
      EqV (.agg A1),
      EqV (uval m),
      EqV (.agg A2),
      EqV (uval n),
      EqV (.int .i64 c),
      EqV (.int .i64 c)
    ]) (FL_keeps ⟨keeps_eq _, keeps_eq _, keeps_eq _, keeps_eq _, keeps_eq _, keeps_eq _, trivial⟩) (by kernel_rfl) rfl rfl rfl rfl ⟨
    .inr ⟨gk0 rfl, fun A w' γ hb hF hs => g_eq (op_load 38 (.tmp 2) rfl ((hs.2 2 rfl).trans rfl) (F.out.1.below hb F.out.1.lt) Tryd.underlying38 (i1))⟩,
    .inr ⟨gk0 rfl, fun A w' γ hb hF hs => g_eq (op_call 44 #[.agg A1] (exec_call _ 44 #[.agg A1] rfl rfl (margs1 ((hs.1 0 rfl 5 rfl).trans (hF 0 rfl))) Tryd.func44 rfl rfl) (n1 w'))⟩,
    .inr ⟨gk0 rfl, fun A w' γ hb hF hs => g_eq (op_load 38 (.tmp 3) rfl ((hs.2 3 rfl).trans rfl) (F.out.2.1.below hb F.out.2.1.lt) Tryd.underlying38 (i2))⟩,
    .inr ⟨gk0 rfl, fun A w' γ hb hF hs => g_eq (op_call 44 #[.agg A2] (exec_call _ 44 #[.agg A2] rfl rfl (margs1 ((hs.1 2 rfl 7 rfl).trans (hF 2 rfl))) Tryd.func44 rfl rfl) (n2 w'))⟩,
    .inr ⟨gk0 rfl, fun A w' γ hb hF hs => g_eq (op_call 56 #[uval m, uval n] (exec_call _ 56 #[uval m, uval n] rfl rfl (margs2 ((hs.1 1 rfl 6 rfl).trans (hF 1 rfl)) ((hs.1 3 rfl 8 rfl).trans (hF 3 rfl))) Tryd.func56 rfl rfl) (Cmp_any m n c w' hc))⟩,
    .inr ⟨gk0 rfl, fun A w' γ hb hF hs => g_eq (op_move (.tmp 9) (.inr rfl) ((hs.1 4 rfl 9 rfl).trans (hF 4 rfl)))⟩,
    trivial⟩ ?_
  intro γ w' hb hF
  have bz := bt F.out.2.2 hb
  have ez : γ 5 = .int .i64 c := hF 5 (by decide)
  simp only [Fr, if_true, Act.put, List.setIfInBounds_toArray, List.set_cons_zero, List.set_cons_succ]
  rw [ez]
  go_wp2
  go_ret
  exact ⟨rfl, bz⟩
theorem bstr_toList (l : List UInt8) : (bstr l).toList = l := by
  rw [Lib.toList_data]
  rfl
set_option maxRecDepth 100000 in
theorem BEq_any (a1 : Option Addr) (l1 : List UInt8) (n1 c1 : Nat) (h1 : l1.length = n1) (a2 : Option Addr) (l2 : List UInt8) (n2 c2 : Nat) (h2 : l2.length = n2) (w : World) (r1 : RdS w a1 l1) (r2 : RdS w a2 l2) (b : Bool) (hb : decide (l1 = l2) = b) :
    Calls Tryd.prog 66 #[.slice a1 n1 c1, .slice a2 n2 c2] w fun e w' => e = .returned (.bool b) ∧ Below w.heap.size w w' := by
  have s1 := str_of (c := c1) r1 h1
  have s2 := str_of (c := c2) r2 h2
  have he : ((bstr l1).toList == (bstr l2).toList) = b := by
    rw [bstr_toList, bstr_toList, ← hb, Bool.eq_iff_iff]
    simp
  obtain ⟨S1, hS1⟩ : ∃ S, S = bstr l1 := ⟨_, rfl⟩
  obtain ⟨S2, hS2⟩ : ∃ S, S = bstr l2 := ⟨_, rfl⟩
  rw [← hS1] at s1 he
  rw [← hS2] at s2 he
  clear hS1 hS2 hb r1 r2 h1 h2
  go_enter Tryd.func66, Tryd.ntmps66
  go_wp2
  go_ret
  exact ⟨by first | rw [he] | simp [he], Below.refl _ _⟩
/-- Do two unlike texts have one sum? -/
def witB (l1 l2 : List UInt8) : Bool := !decide (l1 = l2) && decide (sumOf l1 = sumOf l2)
set_option maxRecDepth 100000 in
set_option maxHeartbeats 1000000 in
theorem Witness_any (a1 : Option Addr) (l1 : List UInt8) (n1 c1 : Nat) (h1 : l1.length = n1) (hc1 : n1 ≤ c1) (hm1 : n1 ≤ 140737488355328 ∧ c1 ≤ 9223372036854775807) (ho1 : a1 = none → n1 = 0 ∧ c1 = 0)
    (a2 : Option Addr) (l2 : List UInt8) (n2 c2 : Nat) (h2 : l2.length = n2) (hc2 : n2 ≤ c2) (hm2 : n2 ≤ 140737488355328 ∧ c2 ≤ 9223372036854775807) (ho2 : a2 = none → n2 = 0 ∧ c2 = 0) (w : World) (r1 : RdS w a1 l1) (r2 : RdS w a2 l2) (hL : Laid w) (b : Bool) (hb : witB l1 l2 = b) :
    Calls Tryd.prog 38 #[.slice a1 n1 c1, .slice a2 n2 c2] w fun e w' => e = .returned (.bool b) ∧ Below w.heap.size w w' := by
  by_cases he : l1 = l2
  · have hb' : b = false := by rw [← hb]; unfold witB; simp [he]
    have cB := BEq_any a1 l1 n1 c1 h1 a2 l2 n2 c2 h2 w r1 r2 true (by simpa using he)
    have CB := Lib.hid cB; clear cB hb he r1 r2 hL h1 h2
    subst hb'
    go_enter Tryd.func38, Tryd.ntmps38
    go_wp2_with fail
    refine CB.out.mono ?_
    rintro e w1 ⟨rfl, hb1⟩
    go_wp2
    go_ret
    exact ⟨rfl, hb1⟩
  · have cB := BEq_any a1 l1 n1 c1 h1 a2 l2 n2 c2 h2 w r1 r2 false (by simpa using he)
    have q := fun w => eqH (sumOf l1) (sumOf l2) b (sumOf_length _) (sumOf_length _) (by rw [← hb]; unfold witB; simp [he]) w
    have k1 := fun w hr hL => Sum_any a1 l1 n1 c1 h1 hc1 hm1 ho1 w hr hL
    have k2 := fun w hr hL => Sum_any a2 l2 n2 c2 h2 hc2 hm2 ho2 w hr hL
    obtain ⟨C1, hC1⟩ : ∃ C, C = u8cells (sumOf l1) := ⟨_, rfl⟩
    obtain ⟨C2, hC2⟩ : ∃ C, C = u8cells (sumOf l2) := ⟨_, rfl⟩
    rw [← hC1] at k1 q
    rw [← hC2] at k2 q
    have CB := Lib.hid (And.intro cB (And.intro k1 (And.intro k2 (And.intro r1 (And.intro r2 hL))))); clear cB hb he r1 r2 hL h1 h2 k1 k2 hC1 hC2
    go_enter Tryd.func38, Tryd.ntmps38
    go_wp2_with fail
    refine CB.out.1.mono ?_
    rintro e w1 ⟨rfl, hb1⟩
    have D := Lib.hid hb1; clear hb1
    go_wp2_with fail
    refine (CB.out.2.1 w1 (CB.out.2.2.2.1.below D.out (Nat.le_refl _)) (CB.out.2.2.2.2.2.below D.out (Nat.le_refl _))).mono ?_
    rintro e w2 ⟨rfl, hb1⟩
    have E := Lib.hid (bt D.out hb1); clear hb1 D
    go_wp2_with fail
    refine (CB.out.2.2.1 w2 (CB.out.2.2.2.2.1.below E.out (Nat.le_refl _)) (CB.out.2.2.2.2.2.below E.out (Nat.le_refl _))).mono ?_
    rintro e w3 ⟨rfl, hb1⟩
    have E3 := Lib.hid (bt E.out hb1); clear hb1 E
    go_wp2
    go_ret
    exact ⟨rfl, E3.out⟩
set_option maxRecDepth 100000 in
set_option maxHeartbeats 1000000 in
theorem Pair_any (a b : List UInt8) (ha : a.length = 32) (hb : b.length = 32) (w : World) (hL : Laid w) :
    Calls Tryd.prog 40 #[.agg (u8cells a), .agg (u8cells b)] w fun e w' => e = .returned (.agg (u8cells (sumOf (sumOf (a ++ b))))) ∧ Below w.heap.size w w' := by
  obtain ⟨A1, hA1⟩ : ∃ A, A = u8cells a := ⟨_, rfl⟩
  obtain ⟨A2, hA2⟩ : ∃ A, A = u8cells b := ⟨_, rfl⟩
  obtain ⟨C, hC⟩ : ∃ C, C = u8cells (sumOf (sumOf (a ++ b))) := ⟨_, rfl⟩
  have sC : C.size = 32 := by rw [hC, u8cells_size]; exact sumOf_length _
  have iC : (Tryd.prog.info? 38).map (·.size) = some C.size := by rw [sC]; kernel_rfl
  have aC : C.all (·.oneCell') = true := by rw [hC]; exact u8cells_one _
  have z32 : (#[.int .u8 0, .int .u8 0, .int .u8 0, .int .u8 0, .int .u8 0, .int .u8 0, .int .u8 0, .int .u8 0, .int .u8 0, .int .u8 0, .int .u8 0, .int .u8 0, .int .u8 0, .int .u8 0, .int .u8 0, .int .u8 0, .int .u8 0, .int .u8 0, .int .u8 0, .int .u8 0, .int .u8 0, .int .u8 0, .int .u8 0, .int .u8 0, .int .u8 0, .int .u8 0, .int .u8 0, .int .u8 0, .int .u8 0, .int .u8 0, .int .u8 0, .int .u8 0] : Array Value).size = C.size := by rw [sC]; rfl
  rw [← hA1, ← hA2, ← hC]
  obtain ⟨i0, hi, hz0, hz1, hz2⟩ := info_parts (show (Tryd.prog.info? 5).map (fun i => (i.zero, i.size, i.bytes)) = some (some (.int .u8 0), 1, 1) by kernel_rfl)
  have I := Lib.hid (And.intro hi (And.intro hz0 (And.intro hz1 hz2))); clear hi hz0 hz1 hz2
  have hmk : ∀ w : World, (Instr.makeSlice 26 (.int .i64 0) (.int .i64 64)).run Tryd.prog w = .ok (.slice (some ⟨w.heap.size, 0, none⟩) 0 64) (w.alloc (.cells (Array.replicate 64 (.int .u8 0)) 5)) := fun w => make_bytesC 0 64 (by omega) (by omega) w
  obtain ⟨W1, hW1⟩ : ∃ W, W = ((w.alloc (.cells A1 38)).alloc (.cells A2 38)).alloc (.cells #[.int .u8 0, .int .u8 0, .int .u8 0, .int .u8 0, .int .u8 0, .int .u8 0, .int .u8 0, .int .u8 0, .int .u8 0, .int .u8 0, .int .u8 0, .int .u8 0, .int .u8 0, .int .u8 0, .int .u8 0, .int .u8 0, .int .u8 0, .int .u8 0, .int .u8 0, .int .u8 0, .int .u8 0, .int .u8 0, .int .u8 0, .int .u8 0, .int .u8 0, .int .u8 0, .int .u8 0, .int .u8 0, .int .u8 0, .int .u8 0, .int .u8 0, .int .u8 0] 38) := ⟨_, rfl⟩
  have b1 : Below w.heap.size w W1 := by rw [hW1]; exact ba (ba (ba (Below.refl _ _) _) _) _
  have s1 : W1.heap.size = w.heap.size + 3 := by rw [hW1]; simp
  have B1 : Blk W1 w.heap.size 38 A1 := by rw [hW1]; exact ((Blk.newAt w _ A1 rfl).alloc _).alloc _
  have B2 : Blk W1 (w.heap.size + 1) 38 A2 := by rw [hW1]; exact (Blk.second w _ _ _).alloc _
  have B3 : Blk W1 (w.heap.size + 2) 38 #[.int .u8 0, .int .u8 0, .int .u8 0, .int .u8 0, .int .u8 0, .int .u8 0, .int .u8 0, .int .u8 0, .int .u8 0, .int .u8 0, .int .u8 0, .int .u8 0, .int .u8 0, .int .u8 0, .int .u8 0, .int .u8 0, .int .u8 0, .int .u8 0, .int .u8 0, .int .u8 0, .int .u8 0, .int .u8 0, .int .u8 0, .int .u8 0, .int .u8 0, .int .u8 0, .int .u8 0, .int .u8 0, .int .u8 0, .int .u8 0, .int .u8 0, .int .u8 0] := by rw [hW1]; exact Blk.newAt _ _ _ (by simp)
  have own : (W1.alloc (.cells (Array.replicate 64 (.int .u8 0)) 5)).ownsRow (w.heap.size + 3) 5 1 (.slice (some ⟨w.heap.size + 3, 0, none⟩) 0 64) 0 (([] : List UInt8).map fun c => Value.int .u8 (c.toNat : Int)) := by
    have h := World.ownsRow_made W1 (base := w.heap.size + 3) (e := 5) (size := 1) (Array.replicate 64 (.int .u8 0)) 64 (by omega) (by unfold maxLen; omega) (by simp)
    rw [s1] at h
    simpa using h
  have rd1 : RdS (W1.alloc (.cells (Array.replicate 64 (.int .u8 0)) 5)) (some ⟨w.heap.size, 0, none⟩) a := .inr ⟨w.heap.size, 0, rfl, by simp; omega, fun i hi => ((B1.alloc _).cell (0 + i)).trans (by rw [Nat.zero_add, hA1]; exact u8cells_at a i hi)⟩
  have G := Lib.hid (And.intro (ba b1 (.cells (Array.replicate 64 (.int .u8 0)) 5)) (And.intro (B1.alloc (.cells (Array.replicate 64 (.int .u8 0)) 5)) (And.intro (B2.alloc (.cells (Array.replicate 64 (.int .u8 0)) 5)) (And.intro (B3.alloc (.cells (Array.replicate 64 (.int .u8 0)) 5)) (And.intro own (And.intro rd1 (And.intro ha (And.intro hb (And.intro hL (And.intro hC hA2)))))))))); clear b1 B1 B2 B3 own rd1 ha hb hL hC hA1 hA2 s1
  rw [hW1] at G
  clear hW1
  go_enter Tryd.func40, Tryd.ntmps40
  go_wp2_with (at_builtin; refine wl_app G.out.2.2.2.2.1 rfl _ _ 26 rfl Tryd.underlying26 i0 I.out.1 I.out.2.1 I.out.2.2.1 I.out.2.2.2 rfl (some ⟨w.heap.size, 0, none⟩) 32 32 a rfl G.out.2.2.2.2.2.1 G.out.2.2.2.2.2.2.1 (fun h => by cases h) (by omega) (by simp) ?_)
  intro v1 w2 hw1 hg1 hn1
  replace hw1 : w2.ownsRow (w.heap.size + 3) 5 1 v1 32 (a.map fun c => Value.int .u8 (c.toNat : Int)) := by simpa using hw1
  obtain ⟨g1, cap1, cur1, rfl, hgb1, hbg1, _, _, _, _⟩ := own_blk hw1 (by simpa using hn1)
  have bb2 := below_grown G.out.1 hg1 (by simp; omega) (by intro k hk; simp [Value.ownBlock] at hk; omega)
  have B2' := G.out.2.2.1.grown hg1 (by first | (simp [Value.ownBlock]; done) | (simp [Value.ownBlock]; omega))
  have B3' := G.out.2.2.2.1.grown hg1 (by first | (simp [Value.ownBlock]; done) | (simp [Value.ownBlock]; omega))
  have lt2 := hbg1.lt
  have rd2 : RdS w2 (some ⟨w.heap.size + 1, 0, none⟩) b := .inr ⟨w.heap.size + 1, 0, rfl, B2'.lt, fun i hi => (B2'.cell (0 + i)).trans (by rw [Nat.zero_add, G.out.2.2.2.2.2.2.2.2.2.2]; exact u8cells_at b i hi)⟩
  have G2 := Lib.hid (And.intro hw1 (And.intro bb2 (And.intro B3' rd2))); clear hw1 bb2 B3' rd2 B2' hg1 hn1 hbg1
  go_wp2_with (at_builtin; refine wl_app G2.out.1 rfl _ _ 26 rfl Tryd.underlying26 i0 I.out.1 I.out.2.1 I.out.2.2.1 I.out.2.2.2 rfl (some ⟨w.heap.size + 1, 0, none⟩) 32 32 b rfl G2.out.2.2.2 G.out.2.2.2.2.2.2.2.1 (fun h => by cases h) (by omega) (by omega) ?_)
  intro v2 w3 hw1 hg1 hn1
  replace hw1 : w3.ownsRow (w.heap.size + 3) 5 1 v2 64 ((a ++ b).map fun c => Value.int .u8 (c.toNat : Int)) := by simpa using hw1
  obtain ⟨g2, cap2, cur2, rfl, hgb2, hbg2, hcp1, hcp2, hlen, hrd⟩ := own_blk hw1 (by simpa using hn1)
  have bb3 := below_grown G2.out.2.1 hg1 (by omega) (by intro k hk; simp [Value.ownBlock] at hk; omega)
  have B3' := G2.out.2.2.1.grown hg1 (by first | (simp [Value.ownBlock]; done) | (simp [Value.ownBlock]; omega))
  have rd3 : RdS w3 (some ⟨g2, 0, none⟩) (a ++ b) := .inr ⟨g2, 0, rfl, hbg2.lt, fun i hi => (hbg2.cell (0 + i)).trans (by rw [Nat.zero_add]; exact hrd i hi)⟩
  have hcm : 64 ≤ 140737488355328 ∧ cap2 ≤ 9223372036854775807 := by unfold maxLen at hcp2; omega
  have G3 := Lib.hid (And.intro bb3 (And.intro B3' (And.intro rd3 (And.intro hlen (And.intro hcp1 hcm))))); clear hw1 bb3 B3' rd3 hlen hrd hg1 hn1 hbg2 hcp1 hcp2 hcm hmk
  go_wp2_with fail
  refine (Double_any (some ⟨g2, 0, none⟩) (a ++ b) 64 cap2 G3.out.2.2.2.1 G3.out.2.2.2.2.1 G3.out.2.2.2.2.2 (fun h => by cases h) w3 G3.out.2.2.1 (G.out.2.2.2.2.2.2.2.2.1.below G3.out.1 (Nat.le_refl _))).mono ?_
  rintro e w4 ⟨rfl, hb4⟩
  rw [← G.out.2.2.2.2.2.2.2.2.2.1]
  have D := Lib.hid (And.intro (G3.out.2.1.calls hb4) (bt G3.out.1 hb4)); clear hb4
  go_wp2_with (with_reducible refine ws_row D.out.1 _ _ _ _ rfl rfl rfl rfl iC z32 aC ?_)
  refine bodyPost_ret (v := .agg C) ?_ rfl ⟨rfl, setRow_below D.out.2 (by omega) _⟩
  exact results_cell_row rfl _ _ _ _ _ (0, 0) _ rfl (D.out.1.row _) Tryd.underlying38 rfl iC
end Go.Proofs.YtfebknplkbeblaaDoor
