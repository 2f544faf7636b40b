/- What the document's End comes to. -/
import Derived.Test.YtfebknplkbeblaaDoorRefX
import Derived.Test.YtfebknplkbeblaaDoorVals2
import Derived.Test.YtfebknplkbeblaaDoorShaM
namespace Go.Proofs.YtfebknplkbeblaaDoor
open Go.RowKit
set_option linter.unusedVariables false
theorem op_alloc {P : Program} {Q : Exit → Act → World → Prop} {o : Oper} {A : Act} {w : World} (z : Array Value) (t : TypeId) (hrun : (execOp A.eval o).run P w = .ok (.value (.pointer (some ⟨w.heap.size, 0, none⟩))) (w.alloc (.cells z t))) :
    o.wp P A w (fun a' w'' => ∃ u, a' = A.put o.dst u ∧ Below w.heap.size w w'' ∧ u = .pointer (some ⟨w.heap.size, 0, none⟩) ∧ Blk w'' w.heap.size t z) Q := by
  unfold Oper.wp
  rw [hrun]
  exact ⟨_, rfl, ba (Below.refl _ _) _, rfl, Blk.new w t z⟩
theorem op_field2R {Q : Exit → Act → World → Prop} {o : Oper} {A : Act} {w : World} (x : Operand) (ho : o.op = .fieldAddr 29 x 2) (g : Nat) (hx : A.eval x = .pointer (some ⟨g, 0, none⟩)) :
    o.wp Tryd.prog A w (fun a' w'' => a' = A.put o.dst (.pointer (some ⟨g, 9, none⟩)) ∧ Below w.heap.size w w'') Q := by
  have hf : (Instr.fieldAt 29 (.pointer (some ⟨g, 0, none⟩)) 2).run Tryd.prog w = .ok (.pointer (some ⟨g, 9, none⟩)) w := by kernel_rfl
  refine op_run ?_
  unfold execOp
  simp only [ho, hx, Sem.run_bind, hf]
  rfl
def PadV (n : Nat) (u : Value) (w : World) : Prop := ∃ (a : Option Addr) (c : Nat), u = .slice a (padOf n).length c ∧ RdS w a (padOf n) ∧ (padOf n).length ≤ c ∧ c ≤ maxLen ∧ (a = none → (padOf n).length = 0 ∧ c = 0)
theorem PadV.keep {n : Nat} {u : Value} {w w' : World} (h : PadV n u w) (hb : Below w.heap.size w w') : PadV n u w' := by
  obtain ⟨a, c, h1, h2, h3⟩ := h
  exact ⟨a, c, h1, h2.calls hb, h3⟩
/-- What holds of what the third region of the document's End yields. -/
def REndF (B g : Nat) (SE : Array Value) (ne : Nat) (HF : List Wd) : Nat → Value → World → Prop
  | 0, u, _ => u = .agg SE
  | 1, u, _ => u = .pointer (some ⟨g, 9, none⟩)
  | 2, u, _ => u = .int .u64 ne
  | 3, u, w => PadV ne u w
  | 4, u, _ => ∃ a l c N, u = .agg (stC HF (.slice a l c) N)
  | 5, u, w => ∃ p, u = .pointer (some ⟨p, 0, none⟩) ∧ Blk w p 29 (startC 0) ∧ B < p
  | _, _, _ => True
theorem REndF.keep {B g : Nat} {SE : Array Value} {ne : Nat} {HF : List Wd} : ∀ j u w1 w2, REndF B g SE ne HF j u w1 → Below w1.heap.size w1 w2 → REndF B g SE ne HF j u w2
  | 0, _, _, _, h, _ => h
  | 1, _, _, _, h, _ => h
  | 2, _, _, _, h, _ => h
  | 3, _, _, _, h, hb => PadV.keep h hb
  | 4, _, _, _, h, _ => h
  | 5, _, _, _, ⟨p, h1, h2, h3⟩, hb => ⟨p, h1, h2.calls hb, h3⟩
  | _ + 6, _, _, _, h, _ => h
set_option maxRecDepth 100000 in
set_option maxHeartbeats 4000000 in
theorem REnd_any (H : List Wd) (hH : H.length = 8) (a : Option Addr) (rest : List UInt8) (len c n : Nat) (hn : n < W64) (hrl : rest.length = len) (hlc : len ≤ c) (hcm : c ≤ maxLen) (hl47 : len ≤ 70368744177664) (hnoa : a = none → len = 0 ∧ c = 0) (w : World) (hrr : RdS w a rest) :
    Calls Tryd.prog 33 #[.agg (stC H (.slice a len c) n)] w fun e w' => e = .returned (.agg (u8cells (wbytes (absH (effH H len n) (effR rest len n ++ padOf (effN len n)))))) ∧ Below w.heap.size w w' := by
  have hRe47 : (effR rest len n).length ≤ 70368744177664 := by unfold effR; split; omega; simp
  have hl9 : len ≤ 9223372036854775807 := by unfold maxLen at hcm; omega
  obtain ⟨b, hb⟩ : ∃ b, decide (len = n % 64) = b := ⟨_, rfl⟩
  have iS := isRS (stC H (.slice a len c) n) (stC_size _ _ _ hH)
  have cS := fun w => RSane_any H hH a len c n hn hl9 b hb w
  obtain ⟨S, hS⟩ : ∃ S, S = stC H (.slice a len c) n := ⟨_, rfl⟩
  have sS : S.size = 10 := by rw [hS]; exact stC_size _ _ _ hH
  rw [← hS] at iS cS ⊢
  obtain ⟨ae, ce, hae, hce1, hce2, hrae, hnoe⟩ : ∃ (ae : Option Addr) (ce : Nat), ((b = true ∧ ae = a ∧ ce = c) ∨ (b = false ∧ ae = none ∧ ce = 0)) ∧ (effR rest len n).length ≤ ce ∧ ce ≤ maxLen ∧ RdS w ae (effR rest len n) ∧ (ae = none → (effR rest len n).length = 0 ∧ ce = 0) := by
    cases hbb : b with
    | true =>
      have : len = n % 64 := by rw [hbb] at hb; simpa using hb
      refine ⟨a, c, .inl ⟨rfl, rfl, rfl⟩, ?_, hcm, ?_, ?_⟩ <;> simp only [effR, if_pos this]
      · omega
      · exact hrr
      · rw [hrl]; exact hnoa
    | false =>
      have : ¬ len = n % 64 := by rw [hbb] at hb; simpa using hb
      refine ⟨none, 0, .inr ⟨rfl, rfl, rfl⟩, ?_, Nat.zero_le _, ?_, ?_⟩ <;> simp only [effR, if_neg this]
      · exact Nat.le_refl _
      · exact .inl rfl
      · simp
  obtain ⟨SE, hSE⟩ : ∃ SE, SE = stC (effH H len n) (.slice ae (effR rest len n).length ce) (effN len n) := ⟨_, rfl⟩
  have hcase : (b = true ∧ S = SE) ∨ (b = false ∧ stC HI (.slice none 0 0) 0 = SE) := by
    rcases hae with ⟨h1, h2, h3⟩ | ⟨h1, h2, h3⟩
    · have : len = n % 64 := by rw [h1] at hb; simpa using hb
      exact .inl ⟨h1, by rw [hS, hSE, h2, h3]; simp only [effH, effR, effN, if_pos this, hrl]⟩
    · have : ¬ len = n % 64 := by rw [h1] at hb; simpa using hb
      exact .inr ⟨h1, by rw [hSE, h2, h3]; simp only [effH, effR, effN, if_neg this]; rfl⟩
  have hHe : (effH H len n).length = 8 := by unfold effH; split; exact hH; exact HI_length
  have hne : effN len n < W64 := by unfold effN; split; exact hn; exact W64_pos
  have hsane : (effR rest len n).length = effN len n % 64 := by unfold effR effN; split <;> simp_all
  clear hae hl9 hrl hlc hcm hrr hS hnoa
  generalize effH H len n = He at *
  generalize effR rest len n = Re at *
  generalize effN len n = ne at *
  obtain ⟨HF, hHF⟩ : ∃ HF, HF = absH He (Re ++ padOf ne) := ⟨_, rfl⟩
  have hHFl : HF.length = 8 := by rw [hHF]; exact absH_length _ _ hHe
  rw [← hHF]
  obtain ⟨L, hLb⟩ : ∃ L, L = wbytes HF := ⟨_, rfl⟩
  rw [← hLb]
  have hLl : L.length = 32 := by rw [hLb]; exact wbytes_length HF hHFl
  obtain ⟨C, hC⟩ : ∃ C, C = u8cells L := ⟨_, rfl⟩
  rw [← hC]
  have sE : SE.size = 10 := by rw [hSE]; exact stC_size _ _ _ hHe
  have iE := isRS SE sE
  have aE : SE.all (·.oneCell') = true := by rw [hSE]; exact stC_one _ _ _ _ _
  have sSE : S.size = SE.size := by rw [sS, sE]
  have cW := fun (w2 : World) (hb : Below w.heap.size w w2) (p : Option Addr) (cp : Nat) (h1 : RdS w2 p (padOf ne)) (h2 : (padOf ne).length ≤ cp) (h3 : cp ≤ maxLen) (h4 : p = none → (padOf ne).length = 0 ∧ cp = 0) =>
    RWrite_any He hHe ae Re Re.length ce ne hne rfl hce1 hce2 hRe47 hnoe p (padOf ne) (padOf ne).length cp rfl h2 ⟨by rw [padOf_length]; unfold zerosOf; split <;> omega, by unfold maxLen at h3; omega⟩ h4 w2 (hrae.below hb (Nat.le_refl _)) h1
  have F := Lib.hid (And.intro hSE (And.intro hHF (And.intro hHFl (And.intro hHe (And.intro hne (And.intro hsane (And.intro hLb (And.intro hLl hC)))))))); clear hSE hHF hHFl hHe hne hsane hrae hb hLb hLl hC hnoe
  have CS := Lib.hid cS; clear cS
  have CW := Lib.hid cW; clear cW
  go_enter Tryd.func33, Tryd.ntmps33
  go_wp2_with (with_reducible refine wl_st ((Blk.newAt w _ S rfl).alloc _) _ _ rfl rfl rfl _ Tryd.underlying29 iS ?_)
  refine (CS.out _).mono ?_
  rintro e w1 ⟨rfl, hb1⟩
  obtain ⟨H0, hH0⟩ : ∃ H0, H0 = Array.replicate 32 (Value.int .u8 0) := ⟨_, rfl⟩
  have A0 : Blk w1 w.heap.size 29 S := ((Blk.newAt w _ S rfl).alloc _).calls hb1
  have A1 : Blk w1 (w.heap.size + 1) 38 H0 := by rw [hH0]; exact (Blk.second w _ _ _).calls hb1
  have AB : Below w.heap.size w w1 := bt (ba (ba (Below.refl _ _) _) _) hb1
  have z0 := A0.lt
  have z1 := A1.lt
  clear hb1
  have HH0 := Lib.hid hH0; clear hH0
  go_upto_if 9 with fail
  go_cut [] (fun wx => Blk wx w.heap.size 29 SE ∧ Blk wx (w.heap.size + 1) 38 H0 ∧ Below w.heap.size w wx)
  case first =>
    rcases hcase with ⟨h1, h2⟩ | ⟨h1, h2⟩
    · subst h1
      rw [h2] at A0
      have HA := Lib.hid (And.intro A0 (And.intro A1 AB)); clear A0 A1 AB h2
      go_wp2_with fail
      go_meet
      exact HA.out
    · subst h1
      have HA := Lib.hid (And.intro A0 (And.intro A1 AB)); clear A0 A1 AB
      have h2' := Lib.hid h2; clear h2
      go_wp2_with fail
      refine (RStart_any _).mono ?_
      rintro e w2 ⟨rfl, hb2⟩
      rw [h2'.out]
      have B0 := HA.out.1.calls hb2
      have B1 := HA.out.2.1.calls hb2
      have BB := bt HA.out.2.2 hb2
      have HB := Lib.hid (And.intro B0 (And.intro B1 BB)); clear B0 B1 BB hb2 HA
      go_wp2_with (with_reducible refine ws_row HB.out.1 _ _ _ _ rfl rfl rfl rfl iE sSE aE ?_)
      go_meet
      exact ⟨HB.out.1.row _, HB.out.2.1.rowFar (by omega) _, setRow_below HB.out.2.2 (by omega) _⟩
  case rest =>
    obtain ⟨B0, B1, BB⟩ := hcut
    clear hcase sSE iS A0 A1 AB CS z0 z1
    have z0 := B0.lt
    have z1 := B1.lt
    have B := Lib.hid (And.intro B0 (And.intro B1 BB)); clear B0 B1 BB
    go_wp2_with fail
    refine wp_region_vals2 [some 11, some 12, some 13, some 14, some 15, some 3, none] (REndF (w.heap.size + 1) w.heap.size SE ne HF) 6 (fun γ w' => ∃ p a l c N, γ 5 = .pointer (some ⟨p, 0, none⟩) ∧ w.heap.size + 1 < p ∧ Blk w' p 29 (stC HF (.slice a l c) N) ∧ Blk w' (w.heap.size + 1) 38 H0 ∧ Below w.heap.size w w') (fun γ γ' w h ⟨p, a, l, c, N, h1, h2⟩ => ⟨p, a, l, c, N, (h 5 (by omega)).symm.trans h1, h2⟩) REndF.keep (by kernel_rfl) rfl rfl rfl rfl rfl rfl ⟨
      .inr ⟨rfl, fun A w' γ hb hf hs => Oper.wp_mono (by rintro a' w'' ⟨h1, h2⟩; exact ⟨_, h1, h2, rfl⟩) (wp_load_row (K := fun a' w'' => a' = A.put (some 11) (.agg SE) ∧ Below w'.heap.size w' w'') 29 (.tmp 1) rfl w.heap.size ((hs.2 1 rfl).trans rfl) 29 SE (0, 0) _ (B.out.1.below hb z0) Tryd.underlying29 rfl iE ⟨rfl, Below.refl _ _⟩)⟩,
      .inr ⟨rfl, fun A w' γ hb hf hs => Oper.wp_mono (by rintro a' w'' ⟨h1, h2⟩; exact ⟨_, h1, h2, rfl⟩) (op_field2R (.tmp 1) rfl w.heap.size ((hs.2 1 rfl).trans rfl))⟩,
      .inr ⟨rfl, fun A w' γ hb hf hs => Oper.wp_mono (by rintro a' w'' ⟨h1, h2⟩; exact ⟨_, h1, h2, rfl⟩) (op_cell 27 (.tmp 12) rfl ⟨w.heap.size, 9, none⟩ ((hs.1 1 rfl 12 rfl).trans (hf 1 rfl)) (.int .u64 ne) (by rw [(B.out.1.below hb z0).cell, F.out.1]; exact stC_num _ _ _ F.out.2.2.2.1) _ Tryd.underlying27 rfl)⟩,
      .inr ⟨rfl, fun A w' γ hb hf hs => Oper.wp_mono (by rintro a' w'' ⟨u, h1, h2, h3⟩; exact ⟨u, h2, h3, h1⟩) (op_call1 35 _ (exec_call _ 35 _ rfl rfl (margs1 (show A.eval (.tmp 13) = _ from (hs.1 2 rfl 13 rfl).trans (hf 2 rfl))) Tryd.func35 rfl rfl) (fun u w'' => PadV ne u w'') ((RPad_any ne F.out.2.2.2.2.1 w').mono (by rintro e w'' ⟨v, rfl, h1, h2⟩; exact ⟨v, rfl, h1, h2⟩)))⟩,
      .inr ⟨rfl, fun A w' γ hb hf hs => by
        obtain ⟨p, cp, hp1, hp2, hp3, hp4, hp5⟩ := hf 3 rfl
        refine Oper.wp_mono ?_ (op_call1 32 _ (exec_call _ 32 _ rfl rfl (margs2 (show A.eval (.tmp 11) = _ from (hs.1 0 rfl 11 rfl).trans (hf 0 rfl)) (show A.eval (.tmp 14) = _ from (hs.1 3 rfl 14 rfl).trans hp1)) Tryd.func32 rfl rfl) (fun u w'' => ∃ a l c N, u = .agg (stC HF (.slice a l c) N)) ?_)
        · rintro a' w'' ⟨u, h1, h2, h3⟩
          exact ⟨u, h2, h3, h1⟩
        · rw [F.out.1]
          refine (CW.out w' (bt B.out.2.2 hb) p cp hp2 hp3 hp4 hp5).mono ?_
          rintro e w'' ⟨a2, c2, rfl, _, _, _, _, hb2⟩
          refine ⟨_, rfl, hb2, a2, (absR (Re ++ padOf ne)).length, c2, (ne + (padOf ne).length) % W64, ?_⟩
          rw [F.out.2.1]
          simp only [effH, effR, effN, if_pos F.out.2.2.2.2.2.1]⟩,
      .inr ⟨rfl, fun A w' γ hb hf hs => Oper.wp_mono (by rintro a' w'' ⟨u, h1, h2, h3, h4⟩; exact ⟨u, h1, h2, _, h3, h4, Nat.lt_of_lt_of_le z1 hb.size⟩) (op_alloc (startC 0) 29 rfl)⟩,
      .inl ⟨rfl, rfl, fun A w' γ hb hf hs => by
        obtain ⟨a2, l2, c2, N2, hu⟩ := hf 4 (by omega)
        obtain ⟨p, hp1, hp2, hp3⟩ := hf 5 (by omega)
        have s10 : (stC HF (.slice a2 l2 c2) N2).size = 10 := stC_size _ _ _ F.out.2.2.1
        have hpne : p ≠ w.heap.size := by omega
        have hpne2 : w.heap.size + 1 ≠ p := by omega
        refine wp_store_row 29 (.tmp 3) (.tmp 15) rfl p (stC HF (.slice a2 l2 c2) N2) ((hs.1 5 rfl 3 rfl).trans hp1) ((hs.1 4 rfl 15 rfl).trans hu) 29 (startC 0) hp2 (isRS _ s10) (by rw [s10]; rfl) (stC_one _ _ _ _ _) ⟨undef, rfl, p, a2, l2, c2, N2, hp1, by omega, ?_, ?_, ?_⟩
        · exact hp2.row _
        · exact (B.out.2.1.below hb z1).rowFar hpne2 _
        · exact setRow_below (bt B.out.2.2 hb) (by omega) _⟩, trivial⟩ ?_
    rintro γ wt ⟨p, at', lt, ct, Nt, hp5, hpl, hT1, hT2, hT3⟩
    simp only [Fr, if_true, Act.put, List.setIfInBounds_toArray, List.set_cons_zero, List.set_cons_succ, List.getD_cons_zero, List.getD_cons_succ]
    rw [hp5]
    generalize γ 0 = s10
    generalize γ 1 = s11
    generalize γ 2 = s12
    generalize γ 3 = s13
    generalize γ 4 = s14
    have i8H := is8 (u32c HF) (by rw [u32c_size, F.out.2.2.1])
    have zt0 := hT1.lt
    have zt1 := hT2.lt
    have zt2 := hT3.size
    have TT := Lib.hid (And.intro hT1 (And.intro hT2 hT3)); clear hT1 hT2 hT3 hp5 B
    go_wp2
    go_loopw [5] (fun i wr => ∃ k : Nat, k ≤ 8 ∧ i = .int .i64 k ∧ Blk wr wt.heap.size 38 (partB L (4 * k)) ∧ Below wt.heap.size wt wr) (fun i _ => 8 - (intOf i).toNat)
    case atStart =>
      refine ⟨0, by omega, rfl, ?_, ba (Below.refl _ _) _⟩
      rw [Nat.mul_zero, partB_zero, F.out.2.2.2.2.2.2.2.1]
      exact Blk.new wt _ _
    case round =>
      obtain ⟨k, hk, rfl, h0, hb⟩ := hrel
      by_cases hlt : k < 8
      · have hki : (k : Int) < 8 := by omega
        have R0 := Lib.hid (And.intro h0 hb); clear h0 hb
        go_wp2
        go_loopw [6] (fun i wq => ∃ j : Nat, j ≤ 4 ∧ i = .int .i64 j ∧ Blk wq wt.heap.size 38 (partB L (4 * k + j)) ∧ Below wt.heap.size wt wq) (fun i _ => 4 - (intOf i).toNat)
        case atStart => exact ⟨0, by omega, rfl, R0.out.1, R0.out.2⟩
        case round =>
          clear R0
          obtain ⟨j, hj, rfl, h0, hb⟩ := hrel
          by_cases hlt2 : j < 4
          · obtain ⟨q, hq⟩ : ∃ q, q = 4 * k := ⟨_, rfl⟩
            obtain ⟨s, hs⟩ : ∃ s, s = q + j := ⟨_, rfl⟩
            obtain ⟨t, ht⟩ : ∃ t, t = 8 * j := ⟨_, rfl⟩
            obtain ⟨v, hv⟩ : ∃ v, v = 24 - t := ⟨_, rfl⟩
            obtain ⟨x, hx⟩ : ∃ x, x = HF.getD k 0 := ⟨_, rfl⟩
            obtain ⟨X, hX⟩ : ∃ X, X = wn x := ⟨_, rfl⟩
            obtain ⟨y, hy⟩ : ∃ y, y = (L.getD s 0).toNat := ⟨_, rfl⟩
            have q0 : (X : Int) / (2 : Int) ^ v % 256 = (y : Int) := by
              rw [hy, hs, hq, F.out.2.2.2.2.2.2.1, wbytes_at HF F.out.2.2.1 k j hlt hlt2, ← hx, ← hX, show (256 : Nat) = 2 ^ 8 from rfl, ← Nat.pow_mul, show 8 * (3 - j) = v by omega]
              generalize hyy : X / 2 ^ v = yy
              have e : (X : Int) / (2 : Int) ^ v = (yy : Int) := by rw [← hyy]; push_cast; rfl
              rw [e]
              simp
            have iq : (4 : Int) * (k : Int) = (q : Int) := by omega
            have is : (q : Int) + (j : Int) = (s : Int) := by omega
            have it : (8 : Int) * (j : Int) = (t : Int) := by omega
            have iv : (24 : Int) - (t : Int) = (v : Int) := by omega
            have ev : IntKind.u64.wrap (v : Int) = (v : Int) := by rw [IntKind.wrap_u64]; omega
            have v64 : v < 32 := by omega
            have s32 : s < 32 := by omega
            have k8 : k < 8 := hlt
            have cH := (TT.out.1.below hb zt0).cell k
            rw [stC_word _ _ _ k F.out.2.2.1 hlt, ← hx, ← hX] at cH
            rw [← hq, ← hs] at h0
            obtain ⟨v0, hv0⟩ := partB_at L s s (by rw [F.out.2.2.2.2.2.2.2.1]; exact s32)
            have c0 := blk_get h0 s _ hv0
            have f0 := h0.frozen s
            have hji : (j : Int) < 4 := by omega
            have R := Lib.hid (And.intro h0 (And.intro hb (And.intro hq (And.intro hs (And.intro ht (And.intro hv (And.intro hx (And.intro hX hy)))))))); clear h0 hb hq hs ht hv hx hX hy hv0
            go_wp2
            obtain ⟨h0, hb, hq, hs, ht, hv, hx, hX, hy⟩ := R.out
            go_roundw
            case rel =>
              have s0 := partB_set L s (by rw [F.out.2.2.2.2.2.2.2.1]; exact s32)
              rw [← hy] at s0
              refine ⟨j + 1, by omega, by go_num, ?_, hb.setCell (Nat.le_refl _) _⟩
              rw [show 4 * k + (j + 1) = s + 1 by omega, ← s0]
              exact h0.set_ s _
            case measure => simp [intOf]; omega
          · obtain rfl : j = 4 := by omega
            have R := Lib.hid (And.intro h0 hb); clear h0 hb
            go_wp2
            obtain ⟨h0, hb⟩ := R.out
            go_roundw
            case rel => exact ⟨k + 1, by omega, by go_num, by rw [show 4 * (k + 1) = 4 * k + 4 by omega]; exact h0, hb⟩
            case measure => simp [intOf]; omega
      · obtain rfl : k = 8 := by omega
        rw [partB_full L (4 * 8) (by have := F.out.2.2.2.2.2.2.2.1; omega), ← F.out.2.2.2.2.2.2.2.2] at h0
        have B1 := TT.out.2.1.below hb zt1
        have FB := bt TT.out.2.2 hb
        have sC : C.size = 32 := by rw [F.out.2.2.2.2.2.2.2.2, u8cells_size]; exact F.out.2.2.2.2.2.2.2.1
        have iC : (Tryd.prog.info? 38).map (·.size) = some C.size := by rw [sC]; kernel_rfl
        have s1 : H0.size = C.size := by rw [sC, HH0.out]; simp
        have aC : C.all (·.oneCell') = true := by rw [F.out.2.2.2.2.2.2.2.2]; exact u8cells_one _
        have K := Lib.hid (And.intro h0 (And.intro B1 FB)); clear h0 B1 FB hb sC
        go_wp2_with (first | with_reducible refine wl_row K.out.1 _ _ rfl rfl rfl _ _ Tryd.underlying38 iC ?_ | with_reducible refine ws_row K.out.2.1 _ _ _ _ rfl rfl rfl rfl iC s1 aC ?_)
        refine bodyPost_ret (v := .agg C) ?_ rfl ⟨rfl, setRow_below K.out.2.2 (by omega) _⟩
        exact results_cell_row rfl _ _ _ _ _ (0, 0) _ rfl (K.out.2.1.row _) Tryd.underlying38 rfl iC
end Go.Proofs.YtfebknplkbeblaaDoor
