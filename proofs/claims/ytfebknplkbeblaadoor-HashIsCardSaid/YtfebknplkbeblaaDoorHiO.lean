/- The document's Cmp, Pair, Witness of hashes. The example that stands ahead of the statements on hashes. -/
import Derived.Test.YtfebknplkbeblaaDoorHiL
import Derived.Test.YtfebknplkbeblaaDoorHiH
import Derived.Test.YtfebknplkbeblaaDoorHiN
import Derived.Test.YtfebknplkbeblaaDoorHiF
namespace Go.Proofs.YtfebknplkbeblaaDoor
open Go.RowKit
set_option linter.unusedVariables false
set_option maxRecDepth 100000 in
theorem HRCmp_any (a b : List UInt8) (ha : a.length = 32) (hb : b.length = 32) (c : Int) (hc : CmpIs (leN a 32) (leN b 32) c) (w : World) :
    Calls Tryd.prog 49 #[.agg (u8cells a), .agg (u8cells b)] w fun e w' => e = .returned (.int .i64 c) ∧ Below w.heap.size w w' := by
  have n1 := fun w => HRNumber_any a ha w
  have n2 := fun w => HRNumber_any b hb w
  have i1 := isH a ha
  have i2 := isH b hb
  obtain ⟨A1, hA1⟩ : ∃ A, A = u8cells a := ⟨_, rfl⟩
  obtain ⟨A2, hA2⟩ : ∃ A, A = u8cells b := ⟨_, rfl⟩
  rw [← hA1] at n1 i1 ⊢
  rw [← hA2] at n2 i2 ⊢
  generalize leN a 32 = m at *
  generalize leN b 32 = n at *
  have bb : Below w.heap.size w ((w.alloc (.cells A1 38)).alloc (.cells A2 38)) := ba (ba (Below.refl _ _) _) _
  have B1 : Blk ((w.alloc (.cells A1 38)).alloc (.cells A2 38)) w.heap.size 38 A1 := (Blk.newAt w _ A1 rfl).alloc _
  have B2 : Blk ((w.alloc (.cells A1 38)).alloc (.cells A2 38)) (w.heap.size + 1) 38 A2 := Blk.second w _ _ _
  have F := Lib.hid (And.intro B1 (And.intro B2 bb)); clear B1 B2 bb hA1 hA2
  go_enter Tryd.func49, Tryd.ntmps49
  go_wp2_with fail
  try simp only [List.append_eq, List.cons_append, List.nil_append]
  refine wp_region_g [some 5, some 6, some 7, some 8, some 9, some 4] (FL [
      EqV (.agg A1),
      EqV (uval m),
      EqV (.agg A2),
      EqV (uval n),
      EqV (.int .i64 c),
      EqV (.int .i64 c)
    ]) (FL_keeps ⟨keeps_eq _, keeps_eq _, keeps_eq _, keeps_eq _, keeps_eq _, keeps_eq _, trivial⟩) (by kernel_rfl) rfl rfl rfl rfl ⟨
    .inr ⟨gk0 rfl, fun A w' γ hb hF hs => g_eq (op_load 38 (.tmp 2) rfl ((hs.2 2 rfl).trans rfl) (F.out.1.below hb F.out.1.lt) Tryd.underlying38 (i1))⟩,
    .inr ⟨gk0 rfl, fun A w' γ hb hF hs => g_eq (op_call 45 #[.agg A1] (exec_call _ 45 #[.agg A1] rfl rfl (margs1 ((hs.1 0 rfl 5 rfl).trans (hF 0 rfl))) Tryd.func45 rfl rfl) (n1 w'))⟩,
    .inr ⟨gk0 rfl, fun A w' γ hb hF hs => g_eq (op_load 38 (.tmp 3) rfl ((hs.2 3 rfl).trans rfl) (F.out.2.1.below hb F.out.2.1.lt) Tryd.underlying38 (i2))⟩,
    .inr ⟨gk0 rfl, fun A w' γ hb hF hs => g_eq (op_call 45 #[.agg A2] (exec_call _ 45 #[.agg A2] rfl rfl (margs1 ((hs.1 2 rfl 7 rfl).trans (hF 2 rfl))) Tryd.func45 rfl rfl) (n2 w'))⟩,
    .inr ⟨gk0 rfl, fun A w' γ hb hF hs => g_eq (op_call 72 #[uval m, uval n] (exec_call _ 72 #[uval m, uval n] rfl rfl (margs2 ((hs.1 1 rfl 6 rfl).trans (hF 1 rfl)) ((hs.1 3 rfl 8 rfl).trans (hF 3 rfl))) Tryd.func72 rfl rfl) (RCmp_any m n c w' hc))⟩,
    .inr ⟨gk0 rfl, fun A w' γ hb hF hs => g_eq (op_move (.tmp 9) (.inr rfl) ((hs.1 4 rfl 9 rfl).trans (hF 4 rfl)))⟩,
    trivial⟩ ?_
  intro γ w' hb hF
  have bz := bt F.out.2.2 hb
  have ez : γ 5 = .int .i64 c := hF 5 (by decide)
  simp only [Fr, if_true, Act.put, List.setIfInBounds_toArray, List.set_cons_zero, List.set_cons_succ]
  rw [ez]
  go_wp2
  go_ret
  exact ⟨rfl, bz⟩
set_option maxRecDepth 100000 in
set_option maxHeartbeats 1000000 in
theorem HRPair_any (a b : List UInt8) (ha : a.length = 32) (hb : b.length = 32) (w : World) :
    Calls Tryd.prog 50 #[.agg (u8cells a), .agg (u8cells b)] w fun e w' => e = .returned (.agg (u8cells (sumOf (sumOf (a ++ b))))) ∧ Below w.heap.size w w' := by
  obtain ⟨A1, hA1⟩ : ∃ A, A = u8cells a := ⟨_, rfl⟩
  obtain ⟨A2, hA2⟩ : ∃ A, A = u8cells b := ⟨_, rfl⟩
  obtain ⟨C, hC⟩ : ∃ C, C = u8cells (sumOf (sumOf (a ++ b))) := ⟨_, rfl⟩
  have sC : C.size = 32 := by rw [hC, u8cells_size]; exact sumOf_length _
  have iC : (Tryd.prog.info? 38).map (·.size) = some C.size := by rw [sC]; kernel_rfl
  have aC : C.all (·.oneCell') = true := by rw [hC]; exact u8cells_one _
  have z32 : (#[.int .u8 0, .int .u8 0, .int .u8 0, .int .u8 0, .int .u8 0, .int .u8 0, .int .u8 0, .int .u8 0, .int .u8 0, .int .u8 0, .int .u8 0, .int .u8 0, .int .u8 0, .int .u8 0, .int .u8 0, .int .u8 0, .int .u8 0, .int .u8 0, .int .u8 0, .int .u8 0, .int .u8 0, .int .u8 0, .int .u8 0, .int .u8 0, .int .u8 0, .int .u8 0, .int .u8 0, .int .u8 0, .int .u8 0, .int .u8 0, .int .u8 0, .int .u8 0] : Array Value).size = C.size := by rw [sC]; rfl
  rw [← hA1, ← hA2, ← hC]
  obtain ⟨i0, hi, hz0, hz1, hz2⟩ := info_parts (show (Tryd.prog.info? 5).map (fun i => (i.zero, i.size, i.bytes)) = some (some (.int .u8 0), 1, 1) by kernel_rfl)
  have I := Lib.hid (And.intro hi (And.intro hz0 (And.intro hz1 hz2))); clear hi hz0 hz1 hz2
  obtain ⟨W1, hW1⟩ : ∃ W, W = ((w.alloc (.cells A1 38)).alloc (.cells A2 38)).alloc (.cells #[.int .u8 0, .int .u8 0, .int .u8 0, .int .u8 0, .int .u8 0, .int .u8 0, .int .u8 0, .int .u8 0, .int .u8 0, .int .u8 0, .int .u8 0, .int .u8 0, .int .u8 0, .int .u8 0, .int .u8 0, .int .u8 0, .int .u8 0, .int .u8 0, .int .u8 0, .int .u8 0, .int .u8 0, .int .u8 0, .int .u8 0, .int .u8 0, .int .u8 0, .int .u8 0, .int .u8 0, .int .u8 0, .int .u8 0, .int .u8 0, .int .u8 0, .int .u8 0] 38) := ⟨_, rfl⟩
  have b1 : Below w.heap.size w W1 := by rw [hW1]; exact ba (ba (ba (Below.refl _ _) _) _) _
  have s1 : W1.heap.size = w.heap.size + 3 := by rw [hW1]; simp
  have B1 : Blk W1 w.heap.size 38 A1 := by rw [hW1]; exact ((Blk.newAt w _ A1 rfl).alloc _).alloc _
  have B2 : Blk W1 (w.heap.size + 1) 38 A2 := by rw [hW1]; exact (Blk.second w _ _ _).alloc _
  have B3 : Blk W1 (w.heap.size + 2) 38 #[.int .u8 0, .int .u8 0, .int .u8 0, .int .u8 0, .int .u8 0, .int .u8 0, .int .u8 0, .int .u8 0, .int .u8 0, .int .u8 0, .int .u8 0, .int .u8 0, .int .u8 0, .int .u8 0, .int .u8 0, .int .u8 0, .int .u8 0, .int .u8 0, .int .u8 0, .int .u8 0, .int .u8 0, .int .u8 0, .int .u8 0, .int .u8 0, .int .u8 0, .int .u8 0, .int .u8 0, .int .u8 0, .int .u8 0, .int .u8 0, .int .u8 0, .int .u8 0] := by rw [hW1]; exact Blk.newAt _ _ _ (by simp)
  have own : (W1.alloc (.cells (#[]) 5)).ownsRow (w.heap.size + 3) 5 1 (.slice (some ⟨w.heap.size + 3, 0, none⟩) 0 0) 0 (([] : List UInt8).map fun c => Value.int .u8 (c.toNat : Int)) := by
    have h := World.ownsRow_made W1 (base := w.heap.size + 3) (e := 5) (size := 1) (#[]) 0 (by omega) (by unfold maxLen; omega) (by simp)
    rw [s1] at h
    simpa using h
  have rd1 : RdS (W1.alloc (.cells (#[]) 5)) (some ⟨w.heap.size, 0, none⟩) a := .inr ⟨w.heap.size, 0, rfl, by simp; omega, fun i hi => ((B1.alloc _).cell (0 + i)).trans (by rw [Nat.zero_add, hA1]; exact u8cells_at a i hi)⟩
  have G := Lib.hid (And.intro (ba b1 (.cells (#[]) 5)) (And.intro (B1.alloc (.cells (#[]) 5)) (And.intro (B2.alloc (.cells (#[]) 5)) (And.intro (B3.alloc (.cells (#[]) 5)) (And.intro own (And.intro rd1 (And.intro ha (And.intro hb (And.intro hC hA2))))))))); clear b1 B1 B2 B3 own rd1 ha hb hC hA1 hA2 s1
  rw [hW1] at G
  clear hW1
  go_enter Tryd.func50, Tryd.ntmps50
  go_wp2_with (at_builtin; refine wl_app G.out.2.2.2.2.1 rfl _ _ 26 rfl Tryd.underlying26 i0 I.out.1 I.out.2.1 I.out.2.2.1 I.out.2.2.2 rfl (some ⟨w.heap.size, 0, none⟩) 32 32 a rfl G.out.2.2.2.2.2.1 G.out.2.2.2.2.2.2.1 (fun h => by cases h) (by omega) (by simp) ?_)
  intro v1 w2 hw1 hg1 hn1
  replace hw1 : w2.ownsRow (w.heap.size + 3) 5 1 v1 32 (a.map fun c => Value.int .u8 (c.toNat : Int)) := by simpa using hw1
  obtain ⟨g1, cap1, cur1, rfl, hgb1, hbg1, _, _, _, _⟩ := own_blk hw1 (by simpa using hn1)
  have bb2 := below_grown G.out.1 hg1 (by simp; omega) (by intro k hk; simp [Value.ownBlock] at hk; omega)
  have B2' := G.out.2.2.1.grown hg1 (by first | (simp [Value.ownBlock]; done) | (simp [Value.ownBlock]; omega))
  have B3' := G.out.2.2.2.1.grown hg1 (by first | (simp [Value.ownBlock]; done) | (simp [Value.ownBlock]; omega))
  have lt2 := hbg1.lt
  have rd2 : RdS w2 (some ⟨w.heap.size + 1, 0, none⟩) b := .inr ⟨w.heap.size + 1, 0, rfl, B2'.lt, fun i hi => (B2'.cell (0 + i)).trans (by rw [Nat.zero_add, G.out.2.2.2.2.2.2.2.2.2]; exact u8cells_at b i hi)⟩
  have G2 := Lib.hid (And.intro hw1 (And.intro bb2 (And.intro B3' rd2))); clear hw1 bb2 B3' rd2 B2' hg1 hn1 hbg1
  go_wp2_with (at_builtin; refine wl_app G2.out.1 rfl _ _ 26 rfl Tryd.underlying26 i0 I.out.1 I.out.2.1 I.out.2.2.1 I.out.2.2.2 rfl (some ⟨w.heap.size + 1, 0, none⟩) 32 32 b rfl G2.out.2.2.2 G.out.2.2.2.2.2.2.2.1 (fun h => by cases h) (by omega) (by omega) ?_)
  intro v2 w3 hw1 hg1 hn1
  replace hw1 : w3.ownsRow (w.heap.size + 3) 5 1 v2 64 ((a ++ b).map fun c => Value.int .u8 (c.toNat : Int)) := by simpa using hw1
  obtain ⟨g2, cap2, cur2, rfl, hgb2, hbg2, hcp1, hcp2, hlen, hrd⟩ := own_blk hw1 (by simpa using hn1)
  have bb3 := below_grown G2.out.2.1 hg1 (by omega) (by intro k hk; simp [Value.ownBlock] at hk; omega)
  have B3' := G2.out.2.2.1.grown hg1 (by first | (simp [Value.ownBlock]; done) | (simp [Value.ownBlock]; omega))
  have rd3 : RdS w3 (some ⟨g2, 0, none⟩) (a ++ b) := .inr ⟨g2, 0, rfl, hbg2.lt, fun i hi => (hbg2.cell (0 + i)).trans (by rw [Nat.zero_add]; exact hrd i hi)⟩
  have hcm : 64 ≤ 70368744177664 ∧ cap2 ≤ 9223372036854775807 := by unfold maxLen at hcp2; omega
  have G3 := Lib.hid (And.intro bb3 (And.intro B3' (And.intro rd3 (And.intro hlen (And.intro hcp1 hcm))))); clear hw1 bb3 B3' rd3 hlen hrd hg1 hn1 hbg2 hcp1 hcp2 hcm
  go_wp2_with fail
  refine (RDouble_any (some ⟨g2, 0, none⟩) (a ++ b) 64 cap2 G3.out.2.2.2.1 G3.out.2.2.2.2.1 G3.out.2.2.2.2.2 (fun h => by cases h) w3 G3.out.2.2.1).mono ?_
  rintro e w4 ⟨rfl, hb4⟩
  rw [← G.out.2.2.2.2.2.2.2.2.1]
  have D := Lib.hid (And.intro (G3.out.2.1.calls hb4) (bt G3.out.1 hb4)); clear hb4
  go_wp2_with (with_reducible refine ws_row D.out.1 _ _ _ _ rfl rfl rfl rfl iC z32 aC ?_)
  refine bodyPost_ret (v := .agg C) ?_ rfl ⟨rfl, setRow_below D.out.2 (by omega) _⟩
  exact results_cell_row rfl _ _ _ _ _ (0, 0) _ rfl (D.out.1.row _) Tryd.underlying38 rfl iC
set_option maxRecDepth 100000 in
set_option maxHeartbeats 1000000 in
theorem HRWitness_any (a1 : Option Addr) (l1 : List UInt8) (n1 c1 : Nat) (h1 : l1.length = n1) (hc1 : n1 ≤ c1) (hm1 : n1 ≤ 70368744177664 ∧ c1 ≤ 9223372036854775807) (ho1 : a1 = none → n1 = 0 ∧ c1 = 0)
    (a2 : Option Addr) (l2 : List UInt8) (n2 c2 : Nat) (h2 : l2.length = n2) (hc2 : n2 ≤ c2) (hm2 : n2 ≤ 70368744177664 ∧ c2 ≤ 9223372036854775807) (ho2 : a2 = none → n2 = 0 ∧ c2 = 0) (w : World) (r1 : RdS w a1 l1) (r2 : RdS w a2 l2) (b : Bool) (hb : witB l1 l2 = b) :
    Calls Tryd.prog 51 #[.slice a1 n1 c1, .slice a2 n2 c2] w fun e w' => e = .returned (.bool b) ∧ Below w.heap.size w w' := by
  have s1 := str_of (c := c1) r1 h1
  have s2 := str_of (c := c2) r2 h2
  have hen : ((bstr l1).toList == (bstr l2).toList) = decide (l1 = l2) := by
    rw [bstr_toList, bstr_toList, Bool.eq_iff_iff]
    simp
  obtain ⟨S1, hS1⟩ : ∃ S, S = bstr l1 := ⟨_, rfl⟩
  obtain ⟨S2, hS2⟩ : ∃ S, S = bstr l2 := ⟨_, rfl⟩
  rw [← hS1] at s1 hen
  rw [← hS2] at s2 hen
  clear hS1 hS2
  by_cases he : l1 = l2
  · have hb' : b = false := by rw [← hb]; unfold witB; simp [he]
    have he2 : (S1.toList == S2.toList) = true := by rw [hen]; simpa using he
    have he3 : S1.toList = S2.toList := by simpa using he2
    subst hb'
    clear hb hen he r1 r2 h1 h2 he2
    go_enter Tryd.func51, Tryd.ntmps51
    go_wp2
    go_ret
    exact ⟨rfl, Below.refl _ _⟩
  · have he2 : (S1.toList == S2.toList) = false := by rw [hen]; simpa using he
    have he3 : ¬ S1.toList = S2.toList := by simpa using he2
    have q := fun w => eqH (sumOf l1) (sumOf l2) b (sumOf_length _) (sumOf_length _) (by rw [← hb]; unfold witB; simp [he]) w
    have k1 := fun w hr => RSum_any a1 l1 n1 c1 h1 hc1 hm1 ho1 w hr
    have k2 := fun w hr => RSum_any a2 l2 n2 c2 h2 hc2 hm2 ho2 w hr
    obtain ⟨C1, hC1⟩ : ∃ C, C = u8cells (sumOf l1) := ⟨_, rfl⟩
    obtain ⟨C2, hC2⟩ : ∃ C, C = u8cells (sumOf l2) := ⟨_, rfl⟩
    rw [← hC1] at k1 q
    rw [← hC2] at k2 q
    have CB := Lib.hid (And.intro k1 (And.intro k2 (And.intro r1 r2))); clear hb hen he r1 r2 h1 h2 k1 k2 hC1 hC2 he2
    go_enter Tryd.func51, Tryd.ntmps51
    go_wp2_with fail
    refine (CB.out.1 w CB.out.2.2.1).mono ?_
    rintro e w2 ⟨rfl, hb1⟩
    have E := Lib.hid hb1; clear hb1
    go_wp2_with fail
    refine (CB.out.2.1 w2 (CB.out.2.2.2.below E.out (Nat.le_refl _))).mono ?_
    rintro e w3 ⟨rfl, hb1⟩
    have E3 := Lib.hid (bt E.out hb1); clear hb1 E
    go_wp2
    go_ret
    exact ⟨by first | (rw [he2]; rfl) | simp [he2] | simp [he3], E3.out⟩
end Go.Proofs.YtfebknplkbeblaaDoor

namespace Go.Proofs.YtfebknplkbeblaaDoor
open Go.RowKit
set_option linter.unusedVariables false

abbrev oneH : List UInt8 := 1 :: List.replicate 31 0
theorem oneH_cells : u8cells oneH = #[.int .u8 1, .int .u8 0, .int .u8 0, .int .u8 0, .int .u8 0, .int .u8 0, .int .u8 0, .int .u8 0, .int .u8 0, .int .u8 0, .int .u8 0, .int .u8 0, .int .u8 0, .int .u8 0, .int .u8 0, .int .u8 0, .int .u8 0, .int .u8 0, .int .u8 0, .int .u8 0, .int .u8 0, .int .u8 0, .int .u8 0, .int .u8 0, .int .u8 0, .int .u8 0, .int .u8 0, .int .u8 0, .int .u8 0, .int .u8 0, .int .u8 0, .int .u8 0] := by kernel_rfl
theorem Text_one (w : World) : Calls Tryd.prog 41 #[.agg #[.int .u8 1, .int .u8 0, .int .u8 0, .int .u8 0, .int .u8 0, .int .u8 0, .int .u8 0, .int .u8 0, .int .u8 0, .int .u8 0, .int .u8 0, .int .u8 0, .int .u8 0, .int .u8 0, .int .u8 0, .int .u8 0, .int .u8 0, .int .u8 0, .int .u8 0, .int .u8 0, .int .u8 0, .int .u8 0, .int .u8 0, .int .u8 0, .int .u8 0, .int .u8 0, .int .u8 0, .int .u8 0, .int .u8 0, .int .u8 0, .int .u8 0, .int .u8 0]] w fun e w' => e = .returned (.string ⟨#[48, 48, 48, 48, 48, 48, 48, 48, 48, 48, 48, 48, 48, 48, 48, 48, 48, 48, 48, 48, 48, 48, 48, 48, 48, 48, 48, 48, 48, 48, 48, 48, 48, 48, 48, 48, 48, 48, 48, 48, 48, 48, 48, 48, 48, 48, 48, 48, 48, 48, 48, 48, 48, 48, 48, 48, 48, 48, 48, 48, 48, 48, 48, 49]⟩) ∧ Below w.heap.size w w' := by
  have h := Text_any oneH rfl w
  rw [oneH_cells, show bstr (hexT oneH) = ⟨#[48, 48, 48, 48, 48, 48, 48, 48, 48, 48, 48, 48, 48, 48, 48, 48, 48, 48, 48, 48, 48, 48, 48, 48, 48, 48, 48, 48, 48, 48, 48, 48, 48, 48, 48, 48, 48, 48, 48, 48, 48, 48, 48, 48, 48, 48, 48, 48, 48, 48, 48, 48, 48, 48, 48, 48, 48, 48, 48, 48, 48, 48, 48, 49]⟩ by decide +kernel] at h
  exact h
theorem Number_one (w : World) : Calls Tryd.prog 44 #[.agg #[.int .u8 1, .int .u8 0, .int .u8 0, .int .u8 0, .int .u8 0, .int .u8 0, .int .u8 0, .int .u8 0, .int .u8 0, .int .u8 0, .int .u8 0, .int .u8 0, .int .u8 0, .int .u8 0, .int .u8 0, .int .u8 0, .int .u8 0, .int .u8 0, .int .u8 0, .int .u8 0, .int .u8 0, .int .u8 0, .int .u8 0, .int .u8 0, .int .u8 0, .int .u8 0, .int .u8 0, .int .u8 0, .int .u8 0, .int .u8 0, .int .u8 0, .int .u8 0]] w fun e w' => e = .returned (uval 1) ∧ Below w.heap.size w w' := by
  have h := Number_any oneH rfl w
  rw [oneH_cells, show leN oneH 32 = 1 by decide +kernel] at h
  exact h
theorem Zero_lit (w : World) : Calls Tryd.prog 52 #[.agg #[.int .u8 0, .int .u8 0, .int .u8 0, .int .u8 0, .int .u8 0, .int .u8 0, .int .u8 0, .int .u8 0, .int .u8 0, .int .u8 0, .int .u8 0, .int .u8 0, .int .u8 0, .int .u8 0, .int .u8 0, .int .u8 0, .int .u8 0, .int .u8 0, .int .u8 0, .int .u8 0, .int .u8 0, .int .u8 0, .int .u8 0, .int .u8 0, .int .u8 0, .int .u8 0, .int .u8 0, .int .u8 0, .int .u8 0, .int .u8 0, .int .u8 0, .int .u8 0]] w fun e w' => e = .returned (.bool true) ∧ Below w.heap.size w w' := by
  have h := Zero_any zeroH rfl true (by decide +kernel) w
  rw [zeroH_cells] at h
  exact h
theorem Of_one (w : World) : Calls Tryd.prog 55 #[.int .u64 1] w fun e w' => e = .returned (uval 1) ∧ Below w.heap.size w w' := Of_any 1 w (by decide)

set_option maxHeartbeats 400000 in
theorem Awake03 (w : World) : Calls Tryd.prog 37 #[] w fun e w' => e = .returned (.bool true) ∧ Below w.heap.size w w' := by
  have q := fun w => eqU 1 1 true (by decide) (by decide) (by decide) w
  have i1 : (Tryd.prog.info? 38).map (·.size) = some (#[.int .u8 1, .int .u8 0, .int .u8 0, .int .u8 0, .int .u8 0, .int .u8 0, .int .u8 0, .int .u8 0, .int .u8 0, .int .u8 0, .int .u8 0, .int .u8 0, .int .u8 0, .int .u8 0, .int .u8 0, .int .u8 0, .int .u8 0, .int .u8 0, .int .u8 0, .int .u8 0, .int .u8 0, .int .u8 0, .int .u8 0, .int .u8 0, .int .u8 0, .int .u8 0, .int .u8 0, .int .u8 0, .int .u8 0, .int .u8 0, .int .u8 0, .int .u8 0] : Array Value).size := by kernel_rfl
  have hex : ((⟨#[48, 48, 48, 48, 48, 48, 48, 48, 48, 48, 48, 48, 48, 48, 48, 48, 48, 48, 48, 48, 48, 48, 48, 48, 48, 48, 48, 48, 48, 48, 48, 48, 48, 48, 48, 48, 48, 48, 48, 48, 48, 48, 48, 48, 48, 48, 48, 48, 48, 48, 48, 48, 48, 48, 48, 48, 48, 48, 48, 48, 48, 48, 48, 49]⟩ : ByteArray).extract 62 64).toList = [48, 49] := by decide +kernel
  have s0 : (#[.int .u8 0, .int .u8 0, .int .u8 0, .int .u8 0, .int .u8 0, .int .u8 0, .int .u8 0, .int .u8 0, .int .u8 0, .int .u8 0, .int .u8 0, .int .u8 0, .int .u8 0, .int .u8 0, .int .u8 0, .int .u8 0, .int .u8 0, .int .u8 0, .int .u8 0, .int .u8 0, .int .u8 0, .int .u8 0, .int .u8 0, .int .u8 0, .int .u8 0, .int .u8 0, .int .u8 0, .int .u8 0, .int .u8 0, .int .u8 0, .int .u8 0, .int .u8 0] : Array Value).size = (#[.int .u8 1, .int .u8 0, .int .u8 0, .int .u8 0, .int .u8 0, .int .u8 0, .int .u8 0, .int .u8 0, .int .u8 0, .int .u8 0, .int .u8 0, .int .u8 0, .int .u8 0, .int .u8 0, .int .u8 0, .int .u8 0, .int .u8 0, .int .u8 0, .int .u8 0, .int .u8 0, .int .u8 0, .int .u8 0, .int .u8 0, .int .u8 0, .int .u8 0, .int .u8 0, .int .u8 0, .int .u8 0, .int .u8 0, .int .u8 0, .int .u8 0, .int .u8 0] : Array Value).size := rfl
  have a2 : (#[.int .u8 1, .int .u8 0, .int .u8 0, .int .u8 0, .int .u8 0, .int .u8 0, .int .u8 0, .int .u8 0, .int .u8 0, .int .u8 0, .int .u8 0, .int .u8 0, .int .u8 0, .int .u8 0, .int .u8 0, .int .u8 0, .int .u8 0, .int .u8 0, .int .u8 0, .int .u8 0, .int .u8 0, .int .u8 0, .int .u8 0, .int .u8 0, .int .u8 0, .int .u8 0, .int .u8 0, .int .u8 0, .int .u8 0, .int .u8 0, .int .u8 0, .int .u8 0] : Array Value).all (·.oneCell') = true := by simp [Value.oneCell']
  go_enter Tryd.func37, Tryd.ntmps37
  go_wp2_with (first | with_reducible refine wl_row ((Blk.newAt _ _ _ rfl).row _) _ _ rfl rfl rfl _ _ Tryd.underlying38 i1 ?_ | with_reducible refine ws_row (Blk.newAt _ _ _ rfl) _ _ _ _ rfl rfl rfl rfl i1 s0 a2 ?_)
  refine (Text_one _).mono ?_
  rintro e w1 ⟨rfl, hb1⟩
  have B1 : Blk w1 w.heap.size 38 _ := ((Blk.newAt w 38 _ rfl).row _).calls hb1
  have b1 : Below w.heap.size w w1 := (below_setRow ((Below.refl _ _).alloc (Nat.le_refl _) _) (Nat.le_refl _) _).trans (hb1.mono (by simp))
  go_wp2_with (with_reducible refine wl_row B1 _ _ rfl rfl rfl _ _ Tryd.underlying38 i1 ?_)
  refine (Number_one _).mono ?_
  rintro e w2 ⟨rfl, hb2⟩
  go_wp2_with fail
  refine (Of_one _).mono ?_
  rintro e w3 ⟨rfl, hb3⟩
  simp only [uval]
  go_wp2_with fail
  refine (Zero_lit _).mono ?_
  rintro e w4 ⟨rfl, hb4⟩
  go_wp2
  go_ret
  exact ⟨rfl, bt (bt (bt b1 hb2) hb3) hb4⟩
end Go.Proofs.YtfebknplkbeblaaDoor
