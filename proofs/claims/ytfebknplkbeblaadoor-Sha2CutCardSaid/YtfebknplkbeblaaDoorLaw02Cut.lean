/- Sha2Cut: its walk. -/
import Derived.Test.YtfebknplkbeblaaDoorSame
namespace Go.Proofs.YtfebknplkbeblaaDoor
open Go.RowKit
set_option linter.unusedVariables false
set_option maxRecDepth 100000 in
set_option maxHeartbeats 4000000 in
theorem Cut_walk (w : World) (hL : Laid w) (a0 : Option Addr) (l0 : List UInt8) (n0 c0 : Nat) (hn0 : l0.length = n0) (hc0 : n0 ≤ c0) (hm0 : c0 ≤ 140737488355328) (ho0 : a0 = none → n0 = 0 ∧ c0 = 0) (hr0 : RdS w a0 l0)
    (a1 : Option Addr) (l1 : List UInt8) (n1 c1 : Nat) (hn1 : l1.length = n1) (hc1 : n1 ≤ c1) (hm1 : c1 ≤ 140737488355328) (ho1 : a1 = none → n1 = 0 ∧ c1 = 0) (hr1 : RdS w a1 l1)
    (a2 : Option Addr) (l2 : List UInt8) (n2 c2 : Nat) (hn2 : l2.length = n2) (hc2 : n2 ≤ c2) (hm2 : c2 ≤ 140737488355328) (ho2 : a2 = none → n2 = 0 ∧ c2 = 0) (hr2 : RdS w a2 l2) :
    Calls Tryd.prog 4 #[.slice a0 n0 c0, .slice a1 n1 c1, .slice a2 n2 c2] w fun e w' => e = .returned (.bool true) ∧ Below w.heap.size w w' := by
  have H := Lib.hid (And.intro hr0 (And.intro hr1 (And.intro hr2 (And.intro hL (And.intro hn0 (And.intro hn1 hn2)))))); clear hr0 hr1 hr2 hL hn0 hn1 hn2
  by_cases b0 : 300 < n0
  · have b0' : (300 : Int) < (n0 : Int) := by omega
    go_enter Tryd.func4, Tryd.ntmps4
    go_wp2_with fail
    refine (Awake02 w H.out.2.2.2.1).mono ?_
    rintro e w1 ⟨rfl, hb1⟩
    go_wp2
    go_ret
    exact ⟨rfl, hb1⟩
  have b0' : ¬ (300 : Int) < (n0 : Int) := by omega
  by_cases b1 : 300 < n1
  · have b1' : (300 : Int) < (n1 : Int) := by omega
    go_enter Tryd.func4, Tryd.ntmps4
    go_wp2_with fail
    refine (Awake02 w H.out.2.2.2.1).mono ?_
    rintro e w1 ⟨rfl, hb1⟩
    go_wp2
    go_ret
    exact ⟨rfl, hb1⟩
  have b1' : ¬ (300 : Int) < (n1 : Int) := by omega
  by_cases b2 : 300 < n2
  · have b2' : (300 : Int) < (n2 : Int) := by omega
    go_enter Tryd.func4, Tryd.ntmps4
    go_wp2_with fail
    refine (Awake02 w H.out.2.2.2.1).mono ?_
    rintro e w1 ⟨rfl, hb1⟩
    go_wp2
    go_ret
    exact ⟨rfl, hb1⟩
  have b2' : ¬ (300 : Int) < (n2 : Int) := by omega
  go_enter Tryd.func4, Tryd.ntmps4
  go_wp2_with fail
  refine (Awake02 w H.out.2.2.2.1).mono ?_
  rintro e w1 ⟨rfl, hb1⟩
  obtain ⟨i0, hi, hz0, hz1, hz2⟩ := info_parts (show (Tryd.prog.info? 5).map (fun i => (i.zero, i.size, i.bytes)) = some (some (.int .u8 0), 1, 1) by kernel_rfl)
  have I := Lib.hid (And.intro hi (And.intro hz0 (And.intro hz1 hz2))); clear hi hz0 hz1 hz2
  have hb2 := ba hb1 (.cells #[] 5)
  have B1 := Lib.hid (And.intro hb1 hb2); clear hb1 hb2
  have own : (w1.alloc (.cells #[] 5)).ownsRow w1.heap.size 5 1 (.slice (some ⟨w1.heap.size, 0, none⟩) 0 0) 0 (([] : List UInt8).map fun c => Value.int .u8 (c.toNat : Int)) := World.ownsRow_made w1 #[] 0 (Nat.le_refl _) (by omega) rfl
  have zb := B1.out.1.size
  have O := Lib.hid own; clear own
  go_wp2_with (at_builtin; refine wl_app O.out rfl _ _ 26 rfl Tryd.underlying26 i0 I.out.1 I.out.2.1 I.out.2.2.1 I.out.2.2.2 rfl a0 n0 c0 l0 rfl (H.out.1.below B1.out.2 (Nat.le_refl _)) H.out.2.2.2.2.1 ho0 (by omega) (by simp) ?_)
  intro v1 w2 hw1 hg1 hn1
  replace hw1 : w2.ownsRow w1.heap.size 5 1 v1 n0 (l0.map fun c => Value.int .u8 (c.toNat : Int)) := by simpa using hw1
  obtain ⟨g1, cap1, cur1, rfl, hgb1, hbg1, _, _, _, _⟩ := own_blk hw1 (by simpa using hn1)
  have bb2 := below_grown B1.out.2 hg1 (by simp; omega) (by intro k hk; simp [Value.ownBlock] at hk; omega)
  have lt2 := hbg1.lt
  have C1 := Lib.hid (And.intro hw1 bb2); clear hw1 bb2 hg1 hn1 hbg1
  go_wp2_with (at_builtin; refine wl_app C1.out.1 rfl _ _ 26 rfl Tryd.underlying26 i0 I.out.1 I.out.2.1 I.out.2.2.1 I.out.2.2.2 rfl a1 n1 c1 l1 rfl (H.out.2.1.below C1.out.2 (Nat.le_refl _)) H.out.2.2.2.2.2.1 ho1 (by omega) (by omega) ?_)
  intro v2 w3 hw1 hg1 hn1
  replace hw1 : w3.ownsRow w1.heap.size 5 1 v2 (n0 + n1) ((l0 ++ l1).map fun c => Value.int .u8 (c.toNat : Int)) := by simpa using hw1
  obtain ⟨g2, cap2, cur2, rfl, hgb2, hbg2, _, _, _, _⟩ := own_blk hw1 (by simpa using hn1)
  have bb3 := below_grown C1.out.2 hg1 (by omega) (by intro k hk; simp [Value.ownBlock] at hk; omega)
  have lt3 := hbg2.lt
  have C2 := Lib.hid (And.intro hw1 bb3); clear hw1 bb3 hg1 hn1 hbg2
  go_wp2_with (at_builtin; refine wl_app C2.out.1 rfl _ _ 26 rfl Tryd.underlying26 i0 I.out.1 I.out.2.1 I.out.2.2.1 I.out.2.2.2 rfl a2 n2 c2 l2 rfl (H.out.2.2.1.below C2.out.2 (Nat.le_refl _)) H.out.2.2.2.2.2.2 ho2 (by omega) (by omega) ?_)
  intro v3 w4 hw1 hg1 hn1
  replace hw1 : w4.ownsRow w1.heap.size 5 1 v3 (n0 + n1 + n2) ((l0 ++ l1 ++ l2).map fun c => Value.int .u8 (c.toNat : Int)) := by simpa using hw1
  obtain ⟨g, cap, cur3, rfl, hgb3, hbg3, hcp1, hcp2, hlen, hrd⟩ := own_blk hw1 (by simpa using hn1)
  have bb4 := below_grown C2.out.2 hg1 (by omega) (by intro k hk; simp [Value.ownBlock] at hk; omega)
  clear hw1 hg1 hn1
  obtain ⟨txt, htx⟩ : ∃ txt, txt = l0 ++ l1 ++ l2 := ⟨_, rfl⟩
  obtain ⟨N, hN⟩ : ∃ N, N = n0 + n1 + n2 := ⟨_, rfl⟩
  have hNb : N ≤ 900 := by omega
  have hcp : N ≤ cap := by omega
  have hcm : cap ≤ 9223372036854775807 := by unfold maxLen at hcp2; omega
  have ra : RdS w4 (some ⟨g, 0, none⟩) txt := .inr ⟨g, 0, rfl, hbg3.lt, fun i hi => (hbg3.cell (0 + i)).trans (by rw [Nat.zero_add]; rw [htx] at hi ⊢; exact hrd i hi)⟩
  have hlen' : txt.length = N := by rw [htx, hN]; exact hlen
  have t3 : l0 ++ l1 ++ l2 = txt := by rw [htx]
  rw [← hN]
  have D := Lib.hid (And.intro ra (And.intro bb4 (And.intro hlen' (And.intro (H.out.2.2.2.1.below bb4 (Nat.le_refl _)) (And.intro hNb (And.intro t3 (And.intro hcp hcm))))))); clear ra bb4 hlen' hlen hrd hbg3 hcp1 hcp2 htx hN t3 hNb hcp hcm C1 C2 O
  go_wp2_with fail
  refine (Start_st w4 D.out.2.2.2.1).mono ?_
  rintro e w5 ⟨u1, rfl, hb5, hs5⟩
  have E5 := Lib.hid (And.intro hs5 (bt D.out.2.1 hb5)); have E5' := Lib.hid hb5; clear hs5 hb5
  go_wp2_with fail
  refine (Write_ex u1 [] l0 a0 l0 n0 c0 rfl H.out.2.2.2.2.1 hc0 ⟨by omega, by omega⟩ ho0 w5 E5.out.1 (H.out.1.below E5.out.2 (Nat.le_refl _)) (H.out.2.2.2.1.below E5.out.2 (Nat.le_refl _))).mono ?_
  rintro e w6 ⟨u2, rfl, hb6, hs6⟩
  have E6 := Lib.hid (And.intro hs6 (bt E5.out.2 hb6)); have E6' := Lib.hid (bt E5'.out hb6); clear hs6 hb6
  go_wp2_with fail
  refine (Write_ex u2 l0 (l0 ++ l1) a1 l1 n1 c1 rfl H.out.2.2.2.2.2.1 hc1 ⟨by omega, by omega⟩ ho1 w6 E6.out.1 (H.out.2.1.below E6.out.2 (Nat.le_refl _)) (H.out.2.2.2.1.below E6.out.2 (Nat.le_refl _))).mono ?_
  rintro e w7 ⟨u3, rfl, hb7, hs7⟩
  have E7 := Lib.hid (And.intro hs7 (bt E6.out.2 hb7)); have E7' := Lib.hid (bt E6'.out hb7); clear hs7 hb7
  go_wp2_with fail
  refine (Write_ex u3 (l0 ++ l1) txt a2 l2 n2 c2 D.out.2.2.2.2.2.1 H.out.2.2.2.2.2.2 hc2 ⟨by omega, by omega⟩ ho2 w7 E7.out.1 (H.out.2.2.1.below E7.out.2 (Nat.le_refl _)) (H.out.2.2.2.1.below E7.out.2 (Nat.le_refl _))).mono ?_
  rintro e w8 ⟨u4, rfl, hb8, hs8⟩
  obtain ⟨S, rfl, sS, aS⟩ := hs8.cells
  have iS := isSt10 S sS
  have E8 := Lib.hid (And.intro hs8 (And.intro (bt E7.out.2 hb8) (bt E7'.out hb8))); clear hs8 hb8 E5 E5' E6 E6' E7 E7'
  have z10 : (#[.int .u32 0, .int .u32 0, .int .u32 0, .int .u32 0, .int .u32 0, .int .u32 0, .int .u32 0, .int .u32 0, .slice none 0 0, .int .u64 0] : Array Value).size = S.size := by rw [sS]; rfl
  have N9 : Blk _ w8.heap.size 31 #[.int .u32 0, .int .u32 0, .int .u32 0, .int .u32 0, .int .u32 0, .int .u32 0, .int .u32 0, .int .u32 0, .slice none 0 0, .int .u64 0] := Blk.new w8 31 #[.int .u32 0, .int .u32 0, .int .u32 0, .int .u32 0, .int .u32 0, .int .u32 0, .int .u32 0, .int .u32 0, .slice none 0 0, .int .u64 0]
  go_wp2_with (with_reducible refine ws_row N9 _ _ _ _ rfl rfl rfl rfl iS z10 aS ?_)
  have q9 := N9.row S
  have bb9 := setRow_below (g := w8.heap.size) (ba E8.out.2.1 (.cells #[.int .u32 0, .int .u32 0, .int .u32 0, .int .u32 0, .int .u32 0, .int .u32 0, .int .u32 0, .int .u32 0, .slice none 0 0, .int .u64 0] 31)) (by have := E8.out.2.1.size; omega) S
  have b49 := setRow_below (g := w8.heap.size) (ba E8.out.2.2 (.cells #[.int .u32 0, .int .u32 0, .int .u32 0, .int .u32 0, .int .u32 0, .int .u32 0, .int .u32 0, .int .u32 0, .slice none 0 0, .int .u64 0] 31)) (by have := E8.out.2.2.size; omega) S
  have s9 : StAt _ (.agg S) txt := E8.out.1.below (setRow_below (g := w8.heap.size) ((Below.refl w8.heap.size w8).alloc (Nat.le_refl _) (.cells #[.int .u32 0, .int .u32 0, .int .u32 0, .int .u32 0, .int .u32 0, .int .u32 0, .int .u32 0, .int .u32 0, .slice none 0 0, .int .u64 0] 31)) (Nat.le_refl _) S)
  generalize World.setRow _ _ _ = w9 at *
  have L9 := Lib.hid (And.intro q9 (And.intro bb9 (And.intro b49 s9))); clear q9 bb9 b49 s9 N9 z10 E8
  generalize w8.heap.size = g9 at *
  go_wp2_with fail
  refine (Start_st w9 (H.out.2.2.2.1.below L9.out.2.1 (Nat.le_refl _))).mono ?_
  rintro e w10 ⟨y1, rfl, hb5, hs5⟩
  have E5 := Lib.hid (And.intro hs5 hb5); clear hs5 hb5
  go_wp2_with fail
  refine (Write_ex y1 [] txt (some ⟨g, 0, none⟩) txt N cap rfl D.out.2.2.1 D.out.2.2.2.2.2.2.1 ⟨by have := D.out.2.2.2.2.1; omega, D.out.2.2.2.2.2.2.2⟩ (fun h => by cases h) w10 E5.out.1 (D.out.1.below (bt L9.out.2.2.1 E5.out.2) (Nat.le_refl _)) (H.out.2.2.2.1.below (bt L9.out.2.1 E5.out.2) (Nat.le_refl _))).mono ?_
  rintro e w11 ⟨y2, rfl, hb8, hs8⟩
  obtain ⟨U, rfl, sU, aU⟩ := hs8.cells
  have iU := isSt10 U sU
  have E8 := Lib.hid (And.intro hs8 (bt E5.out.2 hb8)); clear hs8 hb8 E5
  have z10 : (#[.int .u32 0, .int .u32 0, .int .u32 0, .int .u32 0, .int .u32 0, .int .u32 0, .int .u32 0, .int .u32 0, .slice none 0 0, .int .u64 0] : Array Value).size = U.size := by rw [sU]; rfl
  have N9 : Blk _ w11.heap.size 31 #[.int .u32 0, .int .u32 0, .int .u32 0, .int .u32 0, .int .u32 0, .int .u32 0, .int .u32 0, .int .u32 0, .slice none 0 0, .int .u64 0] := Blk.new w11 31 #[.int .u32 0, .int .u32 0, .int .u32 0, .int .u32 0, .int .u32 0, .int .u32 0, .int .u32 0, .int .u32 0, .slice none 0 0, .int .u64 0]
  go_wp2_with (with_reducible refine ws_row N9 _ _ _ _ rfl rfl rfl rfl iU z10 aU ?_)
  have b910 := setRow_below (g := w11.heap.size) (ba E8.out.2 (.cells #[.int .u32 0, .int .u32 0, .int .u32 0, .int .u32 0, .int .u32 0, .int .u32 0, .int .u32 0, .int .u32 0, .slice none 0 0, .int .u64 0] 31)) E8.out.2.size U
  have q10 := N9.row U
  have s10 : StAt _ (.agg U) txt := E8.out.1.below (setRow_below (g := w11.heap.size) ((Below.refl w11.heap.size w11).alloc (Nat.le_refl _) (.cells #[.int .u32 0, .int .u32 0, .int .u32 0, .int .u32 0, .int .u32 0, .int .u32 0, .int .u32 0, .int .u32 0, .slice none 0 0, .int .u64 0] 31)) (Nat.le_refl _) U)
  have K := Lib.hid (And.intro (L9.out.1.calls b910) (And.intro q10 (And.intro (L9.out.2.2.2.below b910) (And.intro s10 (And.intro (H.out.2.2.2.1.below (bt L9.out.2.1 b910) (Nat.le_refl _)) (And.intro (D.out.1.below (bt L9.out.2.2.1 b910) (Nat.le_refl _)) (bt L9.out.2.1 b910))))))); clear b910 q10 s10 N9 z10 E8
  generalize World.setRow _ _ _ = w12 at *
  generalize w11.heap.size = g10 at *
  obtain ⟨C, hC, sC, eC⟩ := sumC txt
  have cE := fun (v : Value) (w : World) (h : StAt w v txt) (hL : Laid w) => End_at v txt w h hL
  have cS := fun (w : World) (hr : RdS w (some ⟨g, 0, none⟩) txt) (hL : Laid w) => Sum_any (some ⟨g, 0, none⟩) txt N cap D.out.2.2.1 D.out.2.2.2.2.2.2.1 ⟨by have := D.out.2.2.2.2.1; omega, D.out.2.2.2.2.2.2.2⟩ (fun h => by cases h) w hr hL
  rw [← hC] at cE cS
  try simp only [List.append_eq, List.cons_append, List.nil_append]
  refine wp_region_g [some 45, some 46, some 47, some 48, some 49, some 50, some 51, some 52, some 53, some 54, some 55, some 56, some 57, some 58, some 59, some 60, some 61, some 62, some 63, some 64, some 65, some 66, some 67, some 68, some 69, some 70, some 71, some 72, some 73, some 74, some 75, some 76, some 77, some 78, some 6] (FL [
      EqV (.bool true),
      EqV (.bool true),
      EqV (.agg S),
      EqV (.agg C),
      EqV (.slice (some ⟨g, 0, none⟩) N cap),
      EqV (.agg C),
      EqV (.bool true),
      EqV (.bool true),
      EqV (.bool true),
      EqV (.agg S),
      EqV (.agg S),
      EqV (.agg U),
      EqV (.agg U),
      EqV (.bool true),
      EqV (.bool true),
      EqV (.bool true),
      EqV (.agg S),
      (fun u w => StAt w u txt),
      (fun u w => StAt w u txt),
      EqV (.agg S),
      EqV (.agg S),
      EqV (.bool true),
      EqV (.bool true),
      EqV (.bool true),
      EqV (.agg S),
      EqV (.bool true),
      EqV (.bool true),
      EqV (.bool true),
      EqV (.agg S),
      EqV (.agg C),
      EqV (.agg U),
      EqV (.agg C),
      EqV (.bool true),
      EqV (.bool true),
      EqV (.bool true)
    ]) (FL_keeps ⟨keeps_eq _, keeps_eq _, keeps_eq _, keeps_eq _, keeps_eq _, keeps_eq _, keeps_eq _, keeps_eq _, keeps_eq _, keeps_eq _, keeps_eq _, keeps_eq _, keeps_eq _, keeps_eq _, keeps_eq _, keeps_eq _, keeps_eq _, keeps_st txt, keeps_st txt, keeps_eq _, keeps_eq _, keeps_eq _, keeps_eq _, keeps_eq _, keeps_eq _, keeps_eq _, keeps_eq _, keeps_eq _, keeps_eq _, keeps_eq _, keeps_eq _, keeps_eq _, keeps_eq _, keeps_eq _, keeps_eq _, trivial⟩) (by kernel_rfl) rfl rfl rfl rfl ⟨
    .inr ⟨gk0 rfl, fun A w' γ hb hF hs => g_eq (op_move (.tmp 7) (.inl rfl) ((hs.2 7 rfl).trans rfl))⟩,
    .inr ⟨gk0 rfl, fun A w' γ hb hF hs => g_eq (op_move (.tmp 45) (.inl rfl) ((hs.1 0 rfl 45 rfl).trans (hF 0 rfl)))⟩,
    .inr ⟨gkT 1 true rfl rfl 46 rfl (fun _ _ h => h), fun A w' γ hb hF hs => g_eq (op_load_st 31 (.tmp 9) rfl ((hs.2 9 rfl).trans rfl) (K.out.1.below hb K.out.1.lt) Tryd.underlying31 (iS))⟩,
    .inr ⟨gkT 1 true rfl rfl 46 rfl (fun _ _ h => h), fun A w' γ hb hF hs => g_eq (op_call 23 #[.agg S] (exec_call _ 23 #[.agg S] rfl rfl (margs1 ((hs.1 2 rfl 47 rfl).trans (hF 2 rfl))) Tryd.func23 rfl rfl) (cE (.agg S) w' (K.out.2.2.1.below hb) (K.out.2.2.2.2.1.below hb (Nat.le_refl _))))⟩,
    .inr ⟨gkT 1 true rfl rfl 46 rfl (fun _ _ h => h), fun A w' γ hb hF hs => g_eq (op_move (.tmp 8) (.inl rfl) ((hs.2 8 rfl).trans rfl))⟩,
    .inr ⟨gkT 1 true rfl rfl 46 rfl (fun _ _ h => h), fun A w' γ hb hF hs => g_eq (op_call 24 #[.slice (some ⟨g, 0, none⟩) N cap] (exec_call _ 24 #[.slice (some ⟨g, 0, none⟩) N cap] rfl rfl (margs1 ((hs.1 4 rfl 49 rfl).trans (hF 4 rfl))) Tryd.func24 rfl rfl) (cS w' (K.out.2.2.2.2.2.1.below hb (Nat.le_refl _)) (K.out.2.2.2.2.1.below hb (Nat.le_refl _))))⟩,
    .inr ⟨gkT 1 true rfl rfl 46 rfl (fun _ _ h => h), fun A w' γ hb hF hs => g_eq (op_eq_agg 38 _ (.tmp 48) (.tmp 50) (C) (C) true rfl ((hs.1 3 rfl 48 rfl).trans (hF 3 rfl)) ((hs.1 5 rfl 50 rfl).trans (hF 5 rfl)) (by kernel_rfl) (eC _))⟩,
    .inr ⟨gk0 rfl, fun A w' γ hb hF hs => g_eq (op_pick (.tmp 46) (.tmp 51) (.const (.bool false)) true rfl ((hs.1 1 rfl 46 rfl).trans (hF 1 rfl)) ((hs.1 6 rfl 51 rfl).trans (hF 6 rfl)))⟩,
    .inr ⟨gk0 rfl, fun A w' γ hb hF hs => g_eq (op_move (.tmp 52) (.inl rfl) ((hs.1 7 rfl 52 rfl).trans (hF 7 rfl)))⟩,
    .inr ⟨gkT 8 true rfl rfl 53 rfl (fun _ _ h => h), fun A w' γ hb hF hs => g_eq (op_load_st 31 (.tmp 9) rfl ((hs.2 9 rfl).trans rfl) (K.out.1.below hb K.out.1.lt) Tryd.underlying31 (iS))⟩,
    .inr ⟨gkT 8 true rfl rfl 53 rfl (fun _ _ h => h), fun A w' γ hb hF hs => g_eq (op_call 15 #[.agg S] (exec_call _ 15 #[.agg S] rfl rfl (margs1 ((hs.1 9 rfl 54 rfl).trans (hF 9 rfl))) Tryd.func15 rfl rfl) (Theirs_at (.agg S) txt w' (K.out.2.2.1.below hb)))⟩,
    .inr ⟨gkT 8 true rfl rfl 53 rfl (fun _ _ h => h), fun A w' γ hb hF hs => g_eq (op_load_st 31 (.tmp 10) rfl ((hs.2 10 rfl).trans rfl) (K.out.2.1.below hb K.out.2.1.lt) Tryd.underlying31 (iU))⟩,
    .inr ⟨gkT 8 true rfl rfl 53 rfl (fun _ _ h => h), fun A w' γ hb hF hs => g_eq (op_call 15 #[.agg U] (exec_call _ 15 #[.agg U] rfl rfl (margs1 ((hs.1 11 rfl 56 rfl).trans (hF 11 rfl))) Tryd.func15 rfl rfl) (Theirs_at (.agg U) txt w' (K.out.2.2.2.1.below hb)))⟩,
    .inr ⟨gkT 8 true rfl rfl 53 rfl (fun _ _ h => h), fun A w' γ hb hF hs => g_eq (op_call 14 #[.agg S, .agg U] (exec_call _ 14 #[.agg S, .agg U] rfl rfl (margs2 ((hs.1 10 rfl 55 rfl).trans (hF 10 rfl)) ((hs.1 12 rfl 57 rfl).trans (hF 12 rfl))) Tryd.func14 rfl rfl) (Same_at (.agg S) (.agg U) txt w' (K.out.2.2.1.below hb) (K.out.2.2.2.1.below hb)))⟩,
    .inr ⟨gk0 rfl, fun A w' γ hb hF hs => g_eq (op_pick (.tmp 53) (.tmp 58) (.const (.bool false)) true rfl ((hs.1 8 rfl 53 rfl).trans (hF 8 rfl)) ((hs.1 13 rfl 58 rfl).trans (hF 13 rfl)))⟩,
    .inr ⟨gk0 rfl, fun A w' γ hb hF hs => g_eq (op_move (.tmp 59) (.inl rfl) ((hs.1 14 rfl 59 rfl).trans (hF 14 rfl)))⟩,
    .inr ⟨gkT 15 true rfl rfl 60 rfl (fun _ _ h => h), fun A w' γ hb hF hs => g_eq (op_load_st 31 (.tmp 9) rfl ((hs.2 9 rfl).trans rfl) (K.out.1.below hb K.out.1.lt) Tryd.underlying31 (iS))⟩,
    .inr ⟨gkT 15 true rfl rfl 60 rfl (fun _ _ h => h), fun A w' γ hb hF hs => g_call 22 #[.agg S, .slice none 0 0] (exec_call _ 22 #[.agg S, .slice none 0 0] rfl rfl (margs2 ((hs.1 16 rfl 61 rfl).trans (hF 16 rfl)) rfl) Tryd.func22 rfl rfl) (Write_ex (.agg S) txt txt none [] 0 0 (List.append_nil _) rfl (Nat.le_refl _) ⟨by omega, by omega⟩ (fun _ => ⟨rfl, rfl⟩) w' (K.out.2.2.1.below hb) (.inl rfl) (K.out.2.2.2.2.1.below hb (Nat.le_refl _)))⟩,
    .inr ⟨gkT 15 true rfl rfl 60 rfl (fun _ _ h => h), fun A w' γ hb hF hs => g_call 15 #[γ 17] (exec_call _ 15 #[γ 17] rfl rfl (margs1 (hs.1 17 rfl 62 rfl)) Tryd.func15 rfl rfl) (Theirs_ex (γ 17) txt w' (hF 17 rfl))⟩,
    .inr ⟨gkT 15 true rfl rfl 60 rfl (fun _ _ h => h), fun A w' γ hb hF hs => g_eq (op_load_st 31 (.tmp 9) rfl ((hs.2 9 rfl).trans rfl) (K.out.1.below hb K.out.1.lt) Tryd.underlying31 (iS))⟩,
    .inr ⟨gkT 15 true rfl rfl 60 rfl (fun _ _ h => h), fun A w' γ hb hF hs => g_eq (op_call 15 #[.agg S] (exec_call _ 15 #[.agg S] rfl rfl (margs1 ((hs.1 19 rfl 64 rfl).trans (hF 19 rfl))) Tryd.func15 rfl rfl) (Theirs_at (.agg S) txt w' (K.out.2.2.1.below hb)))⟩,
    .inr ⟨gkT 15 true rfl rfl 60 rfl (fun _ _ h => h), fun A w' γ hb hF hs => g_eq (op_call 14 #[γ 18, .agg S] (exec_call _ 14 #[γ 18, .agg S] rfl rfl (margs2 (hs.1 18 rfl 63 rfl) ((hs.1 20 rfl 65 rfl).trans (hF 20 rfl))) Tryd.func14 rfl rfl) (Same_at (γ 18) (.agg S) txt w' (hF 18 rfl) (K.out.2.2.1.below hb)))⟩,
    .inr ⟨gk0 rfl, fun A w' γ hb hF hs => g_eq (op_pick (.tmp 60) (.tmp 66) (.const (.bool false)) true rfl ((hs.1 15 rfl 60 rfl).trans (hF 15 rfl)) ((hs.1 21 rfl 66 rfl).trans (hF 21 rfl)))⟩,
    .inr ⟨gk0 rfl, fun A w' γ hb hF hs => g_eq (op_move (.tmp 67) (.inl rfl) ((hs.1 22 rfl 67 rfl).trans (hF 22 rfl)))⟩,
    .inr ⟨gkT 23 true rfl rfl 68 rfl (fun _ _ h => h), fun A w' γ hb hF hs => g_eq (op_load_st 31 (.tmp 9) rfl ((hs.2 9 rfl).trans rfl) (K.out.1.below hb K.out.1.lt) Tryd.underlying31 (iS))⟩,
    .inr ⟨gkT 23 true rfl rfl 68 rfl (fun _ _ h => h), fun A w' γ hb hF hs => g_eq (op_call 25 #[.agg S] (exec_call _ 25 #[.agg S] rfl rfl (margs1 ((hs.1 24 rfl 69 rfl).trans (hF 24 rfl))) Tryd.func25 rfl rfl) (Sane_at (.agg S) txt w' (K.out.2.2.1.below hb)))⟩,
    .inr ⟨gk0 rfl, fun A w' γ hb hF hs => g_eq (op_pick (.tmp 68) (.tmp 70) (.const (.bool false)) true rfl ((hs.1 23 rfl 68 rfl).trans (hF 23 rfl)) ((hs.1 25 rfl 70 rfl).trans (hF 25 rfl)))⟩,
    .inr ⟨gk0 rfl, fun A w' γ hb hF hs => g_eq (op_move (.tmp 71) (.inl rfl) ((hs.1 26 rfl 71 rfl).trans (hF 26 rfl)))⟩,
    .inr ⟨gkT 27 true rfl rfl 72 rfl (fun _ _ h => h), fun A w' γ hb hF hs => g_eq (op_load_st 31 (.tmp 9) rfl ((hs.2 9 rfl).trans rfl) (K.out.1.below hb K.out.1.lt) Tryd.underlying31 (iS))⟩,
    .inr ⟨gkT 27 true rfl rfl 72 rfl (fun _ _ h => h), fun A w' γ hb hF hs => g_eq (op_call 23 #[.agg S] (exec_call _ 23 #[.agg S] rfl rfl (margs1 ((hs.1 28 rfl 73 rfl).trans (hF 28 rfl))) Tryd.func23 rfl rfl) (cE (.agg S) w' (K.out.2.2.1.below hb) (K.out.2.2.2.2.1.below hb (Nat.le_refl _))))⟩,
    .inr ⟨gkT 27 true rfl rfl 72 rfl (fun _ _ h => h), fun A w' γ hb hF hs => g_eq (op_load_st 31 (.tmp 10) rfl ((hs.2 10 rfl).trans rfl) (K.out.2.1.below hb K.out.2.1.lt) Tryd.underlying31 (iU))⟩,
    .inr ⟨gkT 27 true rfl rfl 72 rfl (fun _ _ h => h), fun A w' γ hb hF hs => g_eq (op_call 23 #[.agg U] (exec_call _ 23 #[.agg U] rfl rfl (margs1 ((hs.1 30 rfl 75 rfl).trans (hF 30 rfl))) Tryd.func23 rfl rfl) (cE (.agg U) w' (K.out.2.2.2.1.below hb) (K.out.2.2.2.2.1.below hb (Nat.le_refl _))))⟩,
    .inr ⟨gkT 27 true rfl rfl 72 rfl (fun _ _ h => h), fun A w' γ hb hF hs => g_eq (op_eq_agg 38 _ (.tmp 74) (.tmp 76) (C) (C) true rfl ((hs.1 29 rfl 74 rfl).trans (hF 29 rfl)) ((hs.1 31 rfl 76 rfl).trans (hF 31 rfl)) (by kernel_rfl) (eC _))⟩,
    .inr ⟨gk0 rfl, fun A w' γ hb hF hs => g_eq (op_pick (.tmp 72) (.tmp 77) (.const (.bool false)) true rfl ((hs.1 27 rfl 72 rfl).trans (hF 27 rfl)) ((hs.1 32 rfl 77 rfl).trans (hF 32 rfl)))⟩,
    .inr ⟨gk0 rfl, fun A w' γ hb hF hs => g_eq (op_move (.tmp 78) (.inr rfl) ((hs.1 33 rfl 78 rfl).trans (hF 33 rfl)))⟩,
    trivial⟩ ?_
  intro γ w' hb hF
  have bz := bt K.out.2.2.2.2.2.2 hb
  have ez : γ 34 = .bool true := hF 34 (by decide)
  simp only [Fr, if_true, Act.put, List.setIfInBounds_toArray, List.set_cons_zero, List.set_cons_succ]
  rw [ez]
  go_wp2
  go_ret
  exact ⟨rfl, bz⟩
end Go.Proofs.YtfebknplkbeblaaDoor
