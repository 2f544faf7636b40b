/- Sha2Is: its walk. -/
import Derived.Test.YtfebknplkbeblaaDoorRefZ
import Derived.Test.YtfebknplkbeblaaDoorOps
namespace Go.Proofs.YtfebknplkbeblaaDoor
open Go.RowKit
set_option linter.unusedVariables false
set_option maxRecDepth 100000 in
theorem Ours02_any (H : List Wd) (hH : H.length = 8) (a : Option Addr) (len c n : Nat) (w : World) :
    Calls Tryd.prog 31 #[.agg (stC H (.slice a len c) n)] w fun e w' => e = .returned (.agg (stC H (.slice a len c) n)) ∧ Below w.heap.size w w' := by
  obtain ⟨x0, x1, x2, x3, x4, x5, x6, x7, rfl⟩ := eight H hH
  rw [stC_lit]
  go_enter Tryd.func31, Tryd.ntmps31
  go_wp2
  refine bodyPost_ret (v := .agg #[.int .u32 (wn x0), .int .u32 (wn x1), .int .u32 (wn x2), .int .u32 (wn x3), .int .u32 (wn x4), .int .u32 (wn x5), .int .u32 (wn x6), .int .u32 (wn x7), .slice a len c, .int .u64 n]) (by simp [results, Tryd.results31, go_sem]) rfl ⟨rfl, ?_⟩
  exact ba (ba (Below.refl _ _) _) _
def WrV (H : List Wd) (R : List UInt8) (N : Nat) (u : Value) (w : World) : Prop := ∃ (a : Option Addr) (c : Nat), u = .agg (stC H (.slice a R.length c) N) ∧ RdS w a R
theorem WrV.keep (H : List Wd) (R : List UInt8) (N : Nat) : Keeps (WrV H R N) := fun _ _ _ ⟨a, c, h1, h2⟩ hb => ⟨a, c, h1, h2.calls hb⟩
theorem Theirs_wr {H : List Wd} {R : List UInt8} {N : Nat} (hH : H.length = 8) (v : Value) (w : World) (h : WrV H R N v w) : Calls Tryd.prog 15 #[v] w fun e w' => ∃ u, e = .returned u ∧ Below w.heap.size w w' ∧ WrV H R N u w' := by
  obtain ⟨a, c, rfl, hr⟩ := h
  exact (Theirs_any H hH a _ c N w).mono fun _ w' ⟨he, hb⟩ => ⟨_, he, hb, a, c, rfl, hr.calls hb⟩
theorem Same_wr {H : List Wd} {R : List UInt8} {N : Nat} (hH : H.length = 8) (v u : Value) (w : World) (hv : WrV H R N v w) (hu : WrV H R N u w) : Calls Tryd.prog 14 #[v, u] w fun e w' => e = .returned (.bool true) ∧ Below w.heap.size w w' := by
  obtain ⟨a, c, rfl, hr⟩ := hv
  obtain ⟨b, d, rfl, hs⟩ := hu
  exact Same_true H hH a b R c d N w hr hs
theorem u64_natS {k : Int} (h : (Lit.int .u64 k).wf = true) : ∃ n : Nat, k = n ∧ n < W64 := by
  simp [Lit.wf, IntKind.min, IntKind.max, IntKind.signed, IntKind.bits] at h
  exact ⟨k.toNat, by omega, by unfold W64; omega⟩
theorem eqC (l : List UInt8) (h : l.length = 32) (w : World) : (Op.equalIn 10000 38 (.agg (u8cells l)) (.agg (u8cells l))).run Tryd.prog w = .ok true w := eqH _ _ true h h (by simp) w
set_option maxRecDepth 100000 in
set_option maxHeartbeats 8000000 in
theorem ShaIs_walk (w : World) (hL : Laid w) (a0 : Option Addr) (l0 : List UInt8) (n0 c0 : Nat) (hn0 : l0.length = n0) (hc0 : n0 ≤ c0) (hm0 : c0 ≤ 140737488355328) (ho0 : a0 = none → n0 = 0 ∧ c0 = 0) (hr0 : RdS w a0 l0)
    (Hs : List Wd) (hHs : Hs.length = 8) (N : Nat) (hN : N < W64) (a1 : Option Addr) (l1 : List UInt8) (n1 c1 : Nat) (hn1 : l1.length = n1) (hc1 : n1 ≤ c1) (hm1 : c1 ≤ 140737488355328) (ho1 : a1 = none → n1 = 0 ∧ c1 = 0) (hr1 : RdS w a1 l1)
    (k : Int) (hk : (Lit.int .u64 k).wf = true) :
    Calls Tryd.prog 7 #[.slice a0 n0 c0, .agg (stC Hs (.slice a1 n1 c1) N), .int .u64 k] w fun e w' => e = .returned (.bool true) ∧ Below w.heap.size w w' := by
  obtain ⟨M, rfl, hM⟩ := u64_natS hk
  clear hk
  obtain ⟨S, hS⟩ : ∃ S, S = stC Hs (.slice a1 n1 c1) N := ⟨_, rfl⟩
  have iS := isRS S (by rw [hS]; exact stC_size _ _ _ hHs)
  have i8 := is8 (u32c Hs) (by rw [u32c_size, hHs])
  have cO := fun w => Ours02_any Hs hHs a1 n1 c1 N w
  rw [← hS] at cO ⊢
  have H := Lib.hid (And.intro hr0 (And.intro hr1 (And.intro hL (And.intro hn0 (And.intro hn1 (And.intro hN hM)))))); clear hr0 hr1 hL hn0 hn1 hN hM
  have c8 : (w.alloc (.cells S 29)).cell? ⟨w.heap.size, 8, none⟩ = some (.slice a1 n1 c1) := by rw [hS]; exact ((Blk.new w 29 _).cell 8).trans (stC_rest _ _ _ hHs)
  have HS := Lib.hid (And.intro hS (And.intro hHs c8)); clear hS hHs c8
  have CO := Lib.hid cO; clear cO
  go_enter Tryd.func7, Tryd.ntmps7
  go_wp2_with fail
  refine (Awake02 _ (H.out.2.2.1.below (ba (Below.refl _ _) _) (Nat.le_refl _))).mono ?_
  rintro e w1 ⟨rfl, hb1⟩
  have BK := (Blk.new w 29 S).calls hb1
  have c8 := BK.cell 8
  rw [HS.out.1, stC_rest _ _ _ HS.out.2.1] at c8
  have KK := Lib.hid (And.intro BK (bt (ba (Below.refl _ _) _) hb1 : Below w.heap.size w w1)); clear BK hb1
  by_cases b0 : 400 < n0
  · have b0' : (400 : Int) < (n0 : Int) := by omega
    go_wp2
    go_ret
    exact ⟨rfl, KK.out.2⟩
  have b0' : ¬ (400 : Int) < (n0 : Int) := by omega
  by_cases b1 : 400 < n1
  · have b1' : (400 : Int) < (n1 : Int) := by omega
    go_wp2
    go_ret
    exact ⟨rfl, KK.out.2⟩
  have b1' : ¬ (400 : Int) < (n1 : Int) := by omega
  go_wp2_with fail
  have hS := HS.out.1
  have hHs := HS.out.2.1
  have cO := CO.out
  have HL : ∀ w', Below w.heap.size w w' → Laid w' := fun w' hb => H.out.2.2.1.below hb (Nat.le_refl _)
  have R0 : ∀ w', Below w.heap.size w w' → RdS w' a0 l0 := fun w' hb => H.out.1.below hb (Nat.le_refl _)
  have R1 : ∀ w', Below w.heap.size w w' → RdS w' a1 l1 := fun w' hb => H.out.2.1.below hb (Nat.le_refl _)
  have hz1 : n1 ≤ maxLen := by unfold maxLen; omega
  have hx1 : c1 ≤ maxLen := by unfold maxLen; omega
  obtain ⟨C1, hC1⟩ : ∃ C, C = u8cells (sumOf l0) := ⟨_, rfl⟩
  obtain ⟨C2, hC2⟩ : ∃ C, C = u8cells (sumOf (sumOf l0)) := ⟨_, rfl⟩
  obtain ⟨E3, hE3⟩ : ∃ E, E = wbytes (absH (effH Hs n1 N) (effR l1 n1 N ++ padOf (effN n1 N))) := ⟨_, rfl⟩
  have hHe : (effH Hs n1 N).length = 8 := by unfold effH; split; exact hHs; exact HI_length
  have hE3l : E3.length = 32 := by rw [hE3]; exact wbytes_length _ (absH_length _ _ hHe)
  obtain ⟨C3, hC3⟩ : ∃ C, C = u8cells E3 := ⟨_, rfl⟩
  obtain ⟨HB, hHBe⟩ : ∃ HB, HB = blk Hs l0 := ⟨_, rfl⟩
  have hHB : HB.length = 8 := by rw [hHBe]; exact blk_length _ _ hHs
  obtain ⟨HW, hHWe⟩ : ∃ HW, HW = absH (effH Hs n1 N) (effR l1 n1 N ++ l0) := ⟨_, rfl⟩
  have hHW : HW.length = 8 := by rw [hHWe]; exact absH_length _ _ hHe
  obtain ⟨RW, hRW⟩ : ∃ RW, RW = absR (effR l1 n1 N ++ l0) := ⟨_, rfl⟩
  obtain ⟨NW, hNW⟩ : ∃ NW, NW = (effN n1 N + n0) % W64 := ⟨_, rfl⟩
  obtain ⟨bS, hbS⟩ : ∃ b, decide (n1 = N % 64) = b := ⟨_, rfl⟩
  have eC1 := fun w => eqC (sumOf l0) (sumOf_length _) w
  have eC2 := fun w => eqC (sumOf (sumOf l0)) (sumOf_length _) w
  have eC3 := fun w => eqC E3 hE3l w
  have cS1 := fun w' (hb : Below w.heap.size w w') => Sum_any a0 l0 n0 c0 H.out.2.2.2.1 hc0 ⟨by omega, by omega⟩ ho0 w' (R0 w' hb) (HL w' hb)
  have cS2 := fun w' (hb : Below w.heap.size w w') => RSum_any a0 l0 n0 c0 H.out.2.2.2.1 hc0 ⟨by omega, by omega⟩ ho0 w' (R0 w' hb)
  have cD1 := fun w' (hb : Below w.heap.size w w') => Double_any a0 l0 n0 c0 H.out.2.2.2.1 hc0 ⟨by omega, by omega⟩ ho0 w' (R0 w' hb) (HL w' hb)
  have cD2 := fun w' (hb : Below w.heap.size w w') => RDouble_any a0 l0 n0 c0 H.out.2.2.2.1 hc0 ⟨by omega, by omega⟩ ho0 w' (R0 w' hb)
  have cW1 : ∀ w', Below w.heap.size w w' → Calls Tryd.prog 22 #[.agg S, .slice a0 n0 c0] w' fun e w'' => ∃ u, e = .returned u ∧ Below w'.heap.size w' w'' ∧ WrV HW RW NW u w'' := fun w' hb => by
    rw [hS, hHWe, hRW, hNW]
    exact (Write_any Hs hHs a1 l1 n1 c1 N H.out.2.2.2.2.2.1 H.out.2.2.2.2.1 hc1 hx1 a0 l0 n0 c0 H.out.2.2.2.1 hc0 ⟨by omega, by omega⟩ ho0 w' (R1 w' hb) (R0 w' hb) (HL w' hb)).mono fun _ w'' ⟨a, c, he, h1, h2, h3, h4⟩ => ⟨_, he, h4, a, c, rfl, h1⟩
  have cW2 : ∀ w', Below w.heap.size w w' → Calls Tryd.prog 32 #[.agg S, .slice a0 n0 c0] w' fun e w'' => ∃ u, e = .returned u ∧ Below w'.heap.size w' w'' ∧ WrV HW RW NW u w'' := fun w' hb => by
    rw [hS, hHWe, hRW, hNW]
    exact (RWrite_any Hs hHs a1 l1 n1 c1 N H.out.2.2.2.2.2.1 H.out.2.2.2.2.1 hc1 hx1 (by omega) ho1 a0 l0 n0 c0 H.out.2.2.2.1 hc0 ⟨by omega, by omega⟩ ho0 w' (R1 w' hb) (R0 w' hb)).mono fun _ w'' ⟨a, c, he, h1, h2, h3, _, h4⟩ => ⟨_, he, h4, a, c, rfl, h1⟩
  have cE1 := fun w' (hb : Below w.heap.size w w') => End_any Hs hHs a1 l1 n1 c1 N H.out.2.2.2.2.2.1 H.out.2.2.2.2.1 hc1 hx1 w' (R1 w' hb) (HL w' hb)
  have cE2 := fun w' (hb : Below w.heap.size w w') => REnd_any Hs hHs a1 l1 n1 c1 N H.out.2.2.2.2.2.1 H.out.2.2.2.2.1 hc1 hx1 (by omega) ho1 w' (R1 w' hb)
  have cN1 := fun w' => Sane_any Hs hHs a1 n1 c1 N H.out.2.2.2.2.2.1 (by omega) bS hbS w'
  have cN2 := fun w' => RSane_any Hs hHs a1 n1 c1 N H.out.2.2.2.2.2.1 (by omega) bS hbS w'
  have cP1 : ∀ w', Calls Tryd.prog 26 #[.int .u64 (M : Nat)] w' fun e w'' => ∃ u, e = .returned u ∧ Below w'.heap.size w' w'' ∧ PadV M u w'' := fun w' =>
    (Pad_any M H.out.2.2.2.2.2.2 _ rfl w').mono fun _ w'' ⟨he, h1, h2⟩ => ⟨_, he, h1, _, _, rfl, .inr ⟨_, 0, rfl, h2.lt, fun i hi => (h2.cell (0 + i)).trans (by rw [Nat.zero_add]; exact u8cells_at _ i hi)⟩, Nat.le_refl _, by rw [padOf_length]; unfold zerosOf maxLen; split <;> omega, fun h => by cases h⟩
  have cP2 : ∀ w', Calls Tryd.prog 35 #[.int .u64 (M : Nat)] w' fun e w'' => ∃ u, e = .returned u ∧ Below w'.heap.size w' w'' ∧ PadV M u w'' := fun w' => RPad_any M H.out.2.2.2.2.2.2 w'
  have cB : ∀ w', Below w.heap.size w w' → Calls Tryd.prog 27 #[.agg (u32c Hs), .slice a0 n0 c0] w' (fun e w'' => e = .returned (.agg (u32c HB)) ∧ Below w'.heap.size w' w'') ∧ Calls Tryd.prog 34 #[.agg (u32c Hs), .slice a0 n0 c0] w' fun e w'' => e = .returned (.agg (u32c HB)) ∧ Below w'.heap.size w' w'' := fun w' hb => by
    by_cases h64 : n0 = 64
    · obtain ⟨g, o, rfl, hg, hrd⟩ : ∃ g o, a0 = some ⟨g, o, none⟩ ∧ g < w'.heap.size ∧ Rd w' g o l0 := by
        rcases R0 w' hb with h | ⟨g, o, h1, h2, h3⟩
        · have := H.out.2.2.2.1; rw [h] at this; simp at this; omega
        · exact ⟨g, o, h1, h2, h3⟩
      have hl : l0.length = 64 := by rw [H.out.2.2.2.1]; exact h64
      rw [hHBe, h64]
      exact ⟨Block_any Hs hHs g o c0 l0 w' hrd hg hl (HL w' hb), RBlock_any Hs hHs g o c0 l0 w' hrd hg hl⟩
    · have e : HB = Hs := by rw [hHBe]; unfold blk; rw [if_neg (by rw [H.out.2.2.2.1]; exact h64)]
      rw [e]
      exact ⟨Block_short Hs hHs a0 n0 c0 h64 (by omega) w', RBlock_short Hs hHs a0 n0 c0 h64 (by omega) w'⟩
  have cB1 := fun w' hb => (cB w' hb).1
  have cB2 := fun w' hb => (cB w' hb).2
  rw [← hS] at cE1 cE2 cN1 cN2
  rw [← hC1] at cS1 cS2 eC1
  rw [← hC2] at cD1 cD2 eC2
  rw [← hE3, ← hC3] at cE1 cE2
  rw [← hC3] at eC3
  clear cB
  refine wp_region_g [some 19, some 20, some 21, some 22, some 23, some 24, some 25, some 26, some 27, some 28, some 29, some 30, some 31, some 32, some 33, some 34, some 35, some 36, some 37, some 38, some 39, some 40, some 41, some 42, some 43, some 44, some 45, some 46, some 47, some 48, some 49, some 50, some 51, some 52, some 53, some 54, some 55, some 56, some 57, some 58, some 59, some 60, some 61, some 62, some 63, some 64, some 65, some 66, some 67, some 68, some 69, some 70, some 71, some 72, some 73, some 74, some 75, some 76, some 77, some 78, some 79, some 80, some 6] (FL [
      EqV (.bool true),
      EqV (.bool true),
      EqV (.slice a0 n0 c0),
      EqV (.agg C1),
      EqV (.slice a0 n0 c0),
      EqV (.agg C1),
      EqV (.bool true),
      EqV (.bool true),
      EqV (.bool true),
      EqV (.slice a0 n0 c0),
      EqV (.agg C2),
      EqV (.slice a0 n0 c0),
      EqV (.agg C2),
      EqV (.bool true),
      EqV (.bool true),
      EqV (.bool true),
      EqV (.agg S),
      EqV (.agg S),
      EqV (.slice a0 n0 c0),
      (WrV HW RW NW),
      (WrV HW RW NW),
      EqV (.agg S),
      EqV (.slice a0 n0 c0),
      (WrV HW RW NW),
      EqV (.bool true),
      EqV (.bool true),
      EqV (.bool true),
      EqV (.agg S),
      EqV (.agg S),
      EqV (.agg C3),
      EqV (.agg S),
      EqV (.agg C3),
      EqV (.bool true),
      EqV (.bool true),
      EqV (.bool true),
      EqV (.pointer (some ⟨w.heap.size, 0, none⟩)),
      EqV (.agg (u32c Hs)),
      EqV (.slice a0 n0 c0),
      EqV (.agg (u32c HB)),
      EqV (.pointer (some ⟨w.heap.size, 0, none⟩)),
      EqV (.agg (u32c Hs)),
      EqV (.slice a0 n0 c0),
      EqV (.agg (u32c HB)),
      EqV (.bool true),
      EqV (.bool true),
      EqV (.bool true),
      EqV (.int .u64 (M : Nat)),
      (PadV M),
      EqV (.string (bstr (padOf M))),
      EqV (.int .u64 (M : Nat)),
      (PadV M),
      EqV (.string (bstr (padOf M))),
      EqV (.bool true),
      EqV (.bool true),
      EqV (.bool true),
      EqV (.agg S),
      EqV (.agg S),
      EqV (.bool bS),
      EqV (.agg S),
      EqV (.bool bS),
      EqV (.bool true),
      EqV (.bool true),
      EqV (.bool true)
    ]) (FL_keeps ⟨keeps_eq _, keeps_eq _, keeps_eq _, keeps_eq _, keeps_eq _, keeps_eq _, keeps_eq _, keeps_eq _, keeps_eq _, keeps_eq _, keeps_eq _, keeps_eq _, keeps_eq _, keeps_eq _, keeps_eq _, keeps_eq _, keeps_eq _, keeps_eq _, keeps_eq _, WrV.keep HW RW NW, WrV.keep HW RW NW, keeps_eq _, keeps_eq _, WrV.keep HW RW NW, keeps_eq _, keeps_eq _, keeps_eq _, keeps_eq _, keeps_eq _, keeps_eq _, keeps_eq _, keeps_eq _, keeps_eq _, keeps_eq _, keeps_eq _, keeps_eq _, keeps_eq _, keeps_eq _, keeps_eq _, keeps_eq _, keeps_eq _, keeps_eq _, keeps_eq _, keeps_eq _, keeps_eq _, keeps_eq _, keeps_eq _, fun _ _ _ h hb => PadV.keep h hb, keeps_eq _, keeps_eq _, fun _ _ _ h hb => PadV.keep h hb, keeps_eq _, keeps_eq _, keeps_eq _, keeps_eq _, keeps_eq _, keeps_eq _, keeps_eq _, keeps_eq _, keeps_eq _, keeps_eq _, keeps_eq _, keeps_eq _, trivial⟩) (by kernel_rfl) rfl rfl rfl rfl ⟨
    .inr ⟨gk0 rfl, fun A w' γ hb hF hs => g_eq (op_move (.tmp 7) (.inl rfl) ((hs.2 7 rfl).trans rfl))⟩,
    .inr ⟨gk0 rfl, fun A w' γ hb hF hs => g_eq (op_move (.tmp 19) (.inl rfl) ((hs.1 0 rfl 19 rfl).trans (hF 0 rfl)))⟩,
    .inr ⟨gkT 1 true rfl rfl 20 rfl (fun _ _ h => h), fun A w' γ hb hF hs => g_eq (op_move (.tmp 0) (.inl rfl) ((hs.2 0 rfl).trans rfl))⟩,
    .inr ⟨gkT 1 true rfl rfl 20 rfl (fun _ _ h => h), fun A w' γ hb hF hs => g_eq (op_call 24 #[.slice a0 n0 c0] (exec_call _ 24 #[.slice a0 n0 c0] rfl rfl (margs1 ((hs.1 2 rfl 21 rfl).trans (hF 2 rfl))) Tryd.func24 rfl rfl) (cS1 w' (bt KK.out.2 hb)))⟩,
    .inr ⟨gkT 1 true rfl rfl 20 rfl (fun _ _ h => h), fun A w' γ hb hF hs => g_eq (op_move (.tmp 0) (.inl rfl) ((hs.2 0 rfl).trans rfl))⟩,
    .inr ⟨gkT 1 true rfl rfl 20 rfl (fun _ _ h => h), fun A w' γ hb hF hs => g_eq (op_call 28 #[.slice a0 n0 c0] (exec_call _ 28 #[.slice a0 n0 c0] rfl rfl (margs1 ((hs.1 4 rfl 23 rfl).trans (hF 4 rfl))) Tryd.func28 rfl rfl) (cS2 w' (bt KK.out.2 hb)))⟩,
    .inr ⟨gkT 1 true rfl rfl 20 rfl (fun _ _ h => h), fun A w' γ hb hF hs => g_eq (op_eq_agg 38 _ (.tmp 22) (.tmp 24) (C1) (C1) true rfl ((hs.1 3 rfl 22 rfl).trans (hF 3 rfl)) ((hs.1 5 rfl 24 rfl).trans (hF 5 rfl)) (by kernel_rfl) (eC1 _))⟩,
    .inr ⟨gk0 rfl, fun A w' γ hb hF hs => g_eq (op_pick (.tmp 20) (.tmp 25) (.const (.bool false)) true rfl ((hs.1 1 rfl 20 rfl).trans (hF 1 rfl)) ((hs.1 6 rfl 25 rfl).trans (hF 6 rfl)))⟩,
    .inr ⟨gk0 rfl, fun A w' γ hb hF hs => g_eq (op_move (.tmp 26) (.inl rfl) ((hs.1 7 rfl 26 rfl).trans (hF 7 rfl)))⟩,
    .inr ⟨gkT 8 true rfl rfl 27 rfl (fun _ _ h => h), fun A w' γ hb hF hs => g_eq (op_move (.tmp 0) (.inl rfl) ((hs.2 0 rfl).trans rfl))⟩,
    .inr ⟨gkT 8 true rfl rfl 27 rfl (fun _ _ h => h), fun A w' γ hb hF hs => g_eq (op_call 29 #[.slice a0 n0 c0] (exec_call _ 29 #[.slice a0 n0 c0] rfl rfl (margs1 ((hs.1 9 rfl 28 rfl).trans (hF 9 rfl))) Tryd.func29 rfl rfl) (cD1 w' (bt KK.out.2 hb)))⟩,
    .inr ⟨gkT 8 true rfl rfl 27 rfl (fun _ _ h => h), fun A w' γ hb hF hs => g_eq (op_move (.tmp 0) (.inl rfl) ((hs.2 0 rfl).trans rfl))⟩,
    .inr ⟨gkT 8 true rfl rfl 27 rfl (fun _ _ h => h), fun A w' γ hb hF hs => g_eq (op_call 30 #[.slice a0 n0 c0] (exec_call _ 30 #[.slice a0 n0 c0] rfl rfl (margs1 ((hs.1 11 rfl 30 rfl).trans (hF 11 rfl))) Tryd.func30 rfl rfl) (cD2 w' (bt KK.out.2 hb)))⟩,
    .inr ⟨gkT 8 true rfl rfl 27 rfl (fun _ _ h => h), fun A w' γ hb hF hs => g_eq (op_eq_agg 38 _ (.tmp 29) (.tmp 31) (C2) (C2) true rfl ((hs.1 10 rfl 29 rfl).trans (hF 10 rfl)) ((hs.1 12 rfl 31 rfl).trans (hF 12 rfl)) (by kernel_rfl) (eC2 _))⟩,
    .inr ⟨gk0 rfl, fun A w' γ hb hF hs => g_eq (op_pick (.tmp 27) (.tmp 32) (.const (.bool false)) true rfl ((hs.1 8 rfl 27 rfl).trans (hF 8 rfl)) ((hs.1 13 rfl 32 rfl).trans (hF 13 rfl)))⟩,
    .inr ⟨gk0 rfl, fun A w' γ hb hF hs => g_eq (op_move (.tmp 33) (.inl rfl) ((hs.1 14 rfl 33 rfl).trans (hF 14 rfl)))⟩,
    .inr ⟨gkT 15 true rfl rfl 34 rfl (fun _ _ h => h), fun A w' γ hb hF hs => g_eq (op_load_st 29 (.tmp 4) rfl ((hs.2 4 rfl).trans rfl) (KK.out.1.below hb KK.out.1.lt) Tryd.underlying29 (iS))⟩,
    .inr ⟨gkT 15 true rfl rfl 34 rfl (fun _ _ h => h), fun A w' γ hb hF hs => g_eq (op_call 31 #[.agg S] (exec_call _ 31 #[.agg S] rfl rfl (margs1 ((hs.1 16 rfl 35 rfl).trans (hF 16 rfl))) Tryd.func31 rfl rfl) (cO w'))⟩,
    .inr ⟨gkT 15 true rfl rfl 34 rfl (fun _ _ h => h), fun A w' γ hb hF hs => g_eq (op_move (.tmp 0) (.inl rfl) ((hs.2 0 rfl).trans rfl))⟩,
    .inr ⟨gkT 15 true rfl rfl 34 rfl (fun _ _ h => h), fun A w' γ hb hF hs => g_call 22 #[.agg S, .slice a0 n0 c0] (exec_call _ 22 #[.agg S, .slice a0 n0 c0] rfl rfl (margs2 ((hs.1 17 rfl 36 rfl).trans (hF 17 rfl)) ((hs.1 18 rfl 37 rfl).trans (hF 18 rfl))) Tryd.func22 rfl rfl) (cW1 w' (bt KK.out.2 hb))⟩,
    .inr ⟨gkT 15 true rfl rfl 34 rfl (fun _ _ h => h), fun A w' γ hb hF hs => g_call 15 #[γ 19] (exec_call _ 15 #[γ 19] rfl rfl (margs1 (hs.1 19 rfl 38 rfl)) Tryd.func15 rfl rfl) (Theirs_wr hHW (γ 19) w' (hF 19 rfl))⟩,
    .inr ⟨gkT 15 true rfl rfl 34 rfl (fun _ _ h => h), fun A w' γ hb hF hs => g_eq (op_load_st 29 (.tmp 4) rfl ((hs.2 4 rfl).trans rfl) (KK.out.1.below hb KK.out.1.lt) Tryd.underlying29 (iS))⟩,
    .inr ⟨gkT 15 true rfl rfl 34 rfl (fun _ _ h => h), fun A w' γ hb hF hs => g_eq (op_move (.tmp 0) (.inl rfl) ((hs.2 0 rfl).trans rfl))⟩,
    .inr ⟨gkT 15 true rfl rfl 34 rfl (fun _ _ h => h), fun A w' γ hb hF hs => g_call 32 #[.agg S, .slice a0 n0 c0] (exec_call _ 32 #[.agg S, .slice a0 n0 c0] rfl rfl (margs2 ((hs.1 21 rfl 40 rfl).trans (hF 21 rfl)) ((hs.1 22 rfl 41 rfl).trans (hF 22 rfl))) Tryd.func32 rfl rfl) (cW2 w' (bt KK.out.2 hb))⟩,
    .inr ⟨gkT 15 true rfl rfl 34 rfl (fun _ _ h => h), fun A w' γ hb hF hs => g_eq (op_call 14 #[γ 20, γ 23] (exec_call _ 14 #[γ 20, γ 23] rfl rfl (margs2 (hs.1 20 rfl 39 rfl) (hs.1 23 rfl 42 rfl)) Tryd.func14 rfl rfl) (Same_wr hHW (γ 20) (γ 23) w' (hF 20 rfl) (hF 23 rfl)))⟩,
    .inr ⟨gk0 rfl, fun A w' γ hb hF hs => g_eq (op_pick (.tmp 34) (.tmp 43) (.const (.bool false)) true rfl ((hs.1 15 rfl 34 rfl).trans (hF 15 rfl)) ((hs.1 24 rfl 43 rfl).trans (hF 24 rfl)))⟩,
    .inr ⟨gk0 rfl, fun A w' γ hb hF hs => g_eq (op_move (.tmp 44) (.inl rfl) ((hs.1 25 rfl 44 rfl).trans (hF 25 rfl)))⟩,
    .inr ⟨gkT 26 true rfl rfl 45 rfl (fun _ _ h => h), fun A w' γ hb hF hs => g_eq (op_load_st 29 (.tmp 4) rfl ((hs.2 4 rfl).trans rfl) (KK.out.1.below hb KK.out.1.lt) Tryd.underlying29 (iS))⟩,
    .inr ⟨gkT 26 true rfl rfl 45 rfl (fun _ _ h => h), fun A w' γ hb hF hs => g_eq (op_call 31 #[.agg S] (exec_call _ 31 #[.agg S] rfl rfl (margs1 ((hs.1 27 rfl 46 rfl).trans (hF 27 rfl))) Tryd.func31 rfl rfl) (cO w'))⟩,
    .inr ⟨gkT 26 true rfl rfl 45 rfl (fun _ _ h => h), fun A w' γ hb hF hs => g_eq (op_call 23 #[.agg S] (exec_call _ 23 #[.agg S] rfl rfl (margs1 ((hs.1 28 rfl 47 rfl).trans (hF 28 rfl))) Tryd.func23 rfl rfl) (cE1 w' (bt KK.out.2 hb)))⟩,
    .inr ⟨gkT 26 true rfl rfl 45 rfl (fun _ _ h => h), fun A w' γ hb hF hs => g_eq (op_load_st 29 (.tmp 4) rfl ((hs.2 4 rfl).trans rfl) (KK.out.1.below hb KK.out.1.lt) Tryd.underlying29 (iS))⟩,
    .inr ⟨gkT 26 true rfl rfl 45 rfl (fun _ _ h => h), fun A w' γ hb hF hs => g_eq (op_call 33 #[.agg S] (exec_call _ 33 #[.agg S] rfl rfl (margs1 ((hs.1 30 rfl 49 rfl).trans (hF 30 rfl))) Tryd.func33 rfl rfl) (cE2 w' (bt KK.out.2 hb)))⟩,
    .inr ⟨gkT 26 true rfl rfl 45 rfl (fun _ _ h => h), fun A w' γ hb hF hs => g_eq (op_eq_agg 38 _ (.tmp 48) (.tmp 50) (C3) (C3) true rfl ((hs.1 29 rfl 48 rfl).trans (hF 29 rfl)) ((hs.1 31 rfl 50 rfl).trans (hF 31 rfl)) (by kernel_rfl) (eC3 _))⟩,
    .inr ⟨gk0 rfl, fun A w' γ hb hF hs => g_eq (op_pick (.tmp 45) (.tmp 51) (.const (.bool false)) true rfl ((hs.1 26 rfl 45 rfl).trans (hF 26 rfl)) ((hs.1 32 rfl 51 rfl).trans (hF 32 rfl)))⟩,
    .inr ⟨gk0 rfl, fun A w' γ hb hF hs => g_eq (op_move (.tmp 52) (.inl rfl) ((hs.1 33 rfl 52 rfl).trans (hF 33 rfl)))⟩,
    .inr ⟨gkT 34 true rfl rfl 53 rfl (fun _ _ h => h), fun A w' γ hb hF hs => g_eq (op_fieldK 29 (.tmp 4) 0 0 rfl w.heap.size ((hs.2 4 rfl).trans rfl) fun _ _ => by kernel_rfl)⟩,
    .inr ⟨gkT 34 true rfl rfl 53 rfl (fun _ _ h => h), fun A w' γ hb hF hs => g_eq (op_load_mid 25 (.tmp 54) rfl w.heap.size 0 ((hs.1 35 rfl 54 rfl).trans (hF 35 rfl)) (u32c Hs).toList _ (words_range ((KK.out.1.below hb KK.out.1.lt).to hS) hHs) Tryd.underlying25 rfl (by simpa using i8))⟩,
    .inr ⟨gkT 34 true rfl rfl 53 rfl (fun _ _ h => h), fun A w' γ hb hF hs => g_eq (op_move (.tmp 0) (.inl rfl) ((hs.2 0 rfl).trans rfl))⟩,
    .inr ⟨gkT 34 true rfl rfl 53 rfl (fun _ _ h => h), fun A w' γ hb hF hs => g_eq (op_call 27 #[.agg (u32c Hs), .slice a0 n0 c0] (exec_call _ 27 #[.agg (u32c Hs), .slice a0 n0 c0] rfl rfl (margs2 ((hs.1 36 rfl 55 rfl).trans (hF 36 rfl)) ((hs.1 37 rfl 56 rfl).trans (hF 37 rfl))) Tryd.func27 rfl rfl) (cB1 w' (bt KK.out.2 hb)))⟩,
    .inr ⟨gkT 34 true rfl rfl 53 rfl (fun _ _ h => h), fun A w' γ hb hF hs => g_eq (op_fieldK 29 (.tmp 4) 0 0 rfl w.heap.size ((hs.2 4 rfl).trans rfl) fun _ _ => by kernel_rfl)⟩,
    .inr ⟨gkT 34 true rfl rfl 53 rfl (fun _ _ h => h), fun A w' γ hb hF hs => g_eq (op_load_mid 25 (.tmp 58) rfl w.heap.size 0 ((hs.1 39 rfl 58 rfl).trans (hF 39 rfl)) (u32c Hs).toList _ (words_range ((KK.out.1.below hb KK.out.1.lt).to hS) hHs) Tryd.underlying25 rfl (by simpa using i8))⟩,
    .inr ⟨gkT 34 true rfl rfl 53 rfl (fun _ _ h => h), fun A w' γ hb hF hs => g_eq (op_move (.tmp 0) (.inl rfl) ((hs.2 0 rfl).trans rfl))⟩,
    .inr ⟨gkT 34 true rfl rfl 53 rfl (fun _ _ h => h), fun A w' γ hb hF hs => g_eq (op_call 34 #[.agg (u32c Hs), .slice a0 n0 c0] (exec_call _ 34 #[.agg (u32c Hs), .slice a0 n0 c0] rfl rfl (margs2 ((hs.1 40 rfl 59 rfl).trans (hF 40 rfl)) ((hs.1 41 rfl 60 rfl).trans (hF 41 rfl))) Tryd.func34 rfl rfl) (cB2 w' (bt KK.out.2 hb)))⟩,
    .inr ⟨gkT 34 true rfl rfl 53 rfl (fun _ _ h => h), fun A w' γ hb hF hs => g_eq (op_eq_agg 25 _ (.tmp 57) (.tmp 61) ((u32c HB)) ((u32c HB)) true rfl ((hs.1 38 rfl 57 rfl).trans (hF 38 rfl)) ((hs.1 42 rfl 61 rfl).trans (hF 42 rfl)) (by kernel_rfl) (eqW HB hHB _))⟩,
    .inr ⟨gk0 rfl, fun A w' γ hb hF hs => g_eq (op_pick (.tmp 53) (.tmp 62) (.const (.bool false)) true rfl ((hs.1 34 rfl 53 rfl).trans (hF 34 rfl)) ((hs.1 43 rfl 62 rfl).trans (hF 43 rfl)))⟩,
    .inr ⟨gk0 rfl, fun A w' γ hb hF hs => g_eq (op_move (.tmp 63) (.inl rfl) ((hs.1 44 rfl 63 rfl).trans (hF 44 rfl)))⟩,
    .inr ⟨gkT 45 true rfl rfl 64 rfl (fun _ _ h => h), fun A w' γ hb hF hs => g_eq (op_move (.tmp 2) (.inl rfl) ((hs.2 2 rfl).trans rfl))⟩,
    .inr ⟨gkT 45 true rfl rfl 64 rfl (fun _ _ h => h), fun A w' γ hb hF hs => g_call 26 #[.int .u64 (M : Nat)] (exec_call _ 26 #[.int .u64 (M : Nat)] rfl rfl (margs1 ((hs.1 46 rfl 65 rfl).trans (hF 46 rfl))) Tryd.func26 rfl rfl) (cP1 w')⟩,
    .inr ⟨gkT 45 true rfl rfl 64 rfl (fun _ _ h => h), fun A w' γ hb hF hs => by obtain ⟨a, c, h1, h2, h3⟩ := hF 47 rfl; exact g_eq (op_conv 26 9 (.tmp 66) rfl ((hs.1 47 rfl 66 rfl).trans h1) (str_of h2 rfl))⟩,
    .inr ⟨gkT 45 true rfl rfl 64 rfl (fun _ _ h => h), fun A w' γ hb hF hs => g_eq (op_move (.tmp 2) (.inl rfl) ((hs.2 2 rfl).trans rfl))⟩,
    .inr ⟨gkT 45 true rfl rfl 64 rfl (fun _ _ h => h), fun A w' γ hb hF hs => g_call 35 #[.int .u64 (M : Nat)] (exec_call _ 35 #[.int .u64 (M : Nat)] rfl rfl (margs1 ((hs.1 49 rfl 68 rfl).trans (hF 49 rfl))) Tryd.func35 rfl rfl) (cP2 w')⟩,
    .inr ⟨gkT 45 true rfl rfl 64 rfl (fun _ _ h => h), fun A w' γ hb hF hs => by obtain ⟨a, c, h1, h2, h3⟩ := hF 50 rfl; exact g_eq (op_conv 26 9 (.tmp 69) rfl ((hs.1 50 rfl 69 rfl).trans h1) (str_of h2 rfl))⟩,
    .inr ⟨gkT 45 true rfl rfl 64 rfl (fun _ _ h => h), fun A w' γ hb hF hs => g_eq (op_eq_str 9 _ (.tmp 67) (.tmp 70) ((bstr (padOf M))) ((bstr (padOf M))) true rfl ((hs.1 48 rfl 67 rfl).trans (hF 48 rfl)) ((hs.1 51 rfl 70 rfl).trans (hF 51 rfl)) (by simp))⟩,
    .inr ⟨gk0 rfl, fun A w' γ hb hF hs => g_eq (op_pick (.tmp 64) (.tmp 71) (.const (.bool false)) true rfl ((hs.1 45 rfl 64 rfl).trans (hF 45 rfl)) ((hs.1 52 rfl 71 rfl).trans (hF 52 rfl)))⟩,
    .inr ⟨gk0 rfl, fun A w' γ hb hF hs => g_eq (op_move (.tmp 72) (.inl rfl) ((hs.1 53 rfl 72 rfl).trans (hF 53 rfl)))⟩,
    .inr ⟨gkT 54 true rfl rfl 73 rfl (fun _ _ h => h), fun A w' γ hb hF hs => g_eq (op_load_st 29 (.tmp 4) rfl ((hs.2 4 rfl).trans rfl) (KK.out.1.below hb KK.out.1.lt) Tryd.underlying29 (iS))⟩,
    .inr ⟨gkT 54 true rfl rfl 73 rfl (fun _ _ h => h), fun A w' γ hb hF hs => g_eq (op_call 31 #[.agg S] (exec_call _ 31 #[.agg S] rfl rfl (margs1 ((hs.1 55 rfl 74 rfl).trans (hF 55 rfl))) Tryd.func31 rfl rfl) (cO w'))⟩,
    .inr ⟨gkT 54 true rfl rfl 73 rfl (fun _ _ h => h), fun A w' γ hb hF hs => g_eq (op_call 25 #[.agg S] (exec_call _ 25 #[.agg S] rfl rfl (margs1 ((hs.1 56 rfl 75 rfl).trans (hF 56 rfl))) Tryd.func25 rfl rfl) (cN1 w'))⟩,
    .inr ⟨gkT 54 true rfl rfl 73 rfl (fun _ _ h => h), fun A w' γ hb hF hs => g_eq (op_load_st 29 (.tmp 4) rfl ((hs.2 4 rfl).trans rfl) (KK.out.1.below hb KK.out.1.lt) Tryd.underlying29 (iS))⟩,
    .inr ⟨gkT 54 true rfl rfl 73 rfl (fun _ _ h => h), fun A w' γ hb hF hs => g_eq (op_call 36 #[.agg S] (exec_call _ 36 #[.agg S] rfl rfl (margs1 ((hs.1 58 rfl 77 rfl).trans (hF 58 rfl))) Tryd.func36 rfl rfl) (cN2 w'))⟩,
    .inr ⟨gkT 54 true rfl rfl 73 rfl (fun _ _ h => h), fun A w' γ hb hF hs => g_eq (op_eq_bool 4 _ (.tmp 76) (.tmp 78) (bS) (bS) true rfl ((hs.1 57 rfl 76 rfl).trans (hF 57 rfl)) ((hs.1 59 rfl 78 rfl).trans (hF 59 rfl)) Tryd.underlying4 (by simp))⟩,
    .inr ⟨gk0 rfl, fun A w' γ hb hF hs => g_eq (op_pick (.tmp 73) (.tmp 79) (.const (.bool false)) true rfl ((hs.1 54 rfl 73 rfl).trans (hF 54 rfl)) ((hs.1 60 rfl 79 rfl).trans (hF 60 rfl)))⟩,
    .inr ⟨gk0 rfl, fun A w' γ hb hF hs => g_eq (op_move (.tmp 80) (.inr rfl) ((hs.1 61 rfl 80 rfl).trans (hF 61 rfl)))⟩,
    trivial⟩ ?_
  intro γ w' hb hF
  have bz := bt KK.out.2 hb
  have ez : γ 62 = .bool true := hF 62 (by decide)
  simp only [Fr, if_true, Act.put, List.setIfInBounds_toArray, List.set_cons_zero, List.set_cons_succ]
  rw [ez]
  clear ez hF
  go_wp2
  go_ret
  exact ⟨rfl, bz⟩
end Go.Proofs.YtfebknplkbeblaaDoor
