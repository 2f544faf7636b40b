/- What the document's End comes to. What the document's Sum and Double come to. The document's Put. -/
import Derived.Test.YtlegcceaoglpoaaDoorIsO
import Derived.Test.YtlegcceaoglpoaaDoorIsG
import Derived.Lib.AppendStr
import Derived.Test.YtlegcceaoglpoaaDoorIsM
import Derived.Test.YtlegcceaoglpoaaDoorIsN
namespace Go.Proofs.YtlegcceaoglpoaaDoor
open Go.RowKit
set_option linter.unusedVariables false
theorem op_alloc {P : Program} {Q : Exit → Act → World → Prop} {o : Oper} {A : Act} {w : World} (z : Array Value) (t : TypeId) (hrun : (execOp A.eval o).run P w = .ok (.value (.pointer (some ⟨w.heap.size, 0, none⟩))) (w.alloc (.cells z t))) :
    o.wp P A w (fun a' w'' => ∃ u, a' = A.put o.dst u ∧ Below w.heap.size w w'' ∧ u = .pointer (some ⟨w.heap.size, 0, none⟩) ∧ Blk w'' w.heap.size t z) Q := by
  unfold Oper.wp
  rw [hrun]
  exact ⟨_, rfl, ba (Below.refl _ _) _, rfl, Blk.new w t z⟩
theorem op_field2R {Q : Exit → Act → World → Prop} {o : Oper} {A : Act} {w : World} (x : Operand) (ho : o.op = .fieldAddr 87 x 2) (g : Nat) (hx : A.eval x = .pointer (some ⟨g, 0, none⟩)) :
    o.wp Tryd.prog A w (fun a' w'' => a' = A.put o.dst (.pointer (some ⟨g, 9, none⟩)) ∧ Below w.heap.size w w'') Q := by
  have hf : (Instr.fieldAt 87 (.pointer (some ⟨g, 0, none⟩)) 2).run Tryd.prog w = .ok (.pointer (some ⟨g, 9, none⟩)) w := by kernel_rfl
  refine op_run ?_
  unfold execOp
  simp only [ho, hx, Sem.run_bind, hf]
  rfl
def PadV (n : Nat) (u : Value) (w : World) : Prop := ∃ (a : Option Addr) (c : Nat), u = .slice a (padOf n).length c ∧ RdS w a (padOf n) ∧ (padOf n).length ≤ c ∧ c ≤ maxLen ∧ (a = none → (padOf n).length = 0 ∧ c = 0)
theorem PadV.keep {n : Nat} {u : Value} {w w' : World} (h : PadV n u w) (hb : Below w.heap.size w w') : PadV n u w' := by
  obtain ⟨a, c, h1, h2, h3⟩ := h
  exact ⟨a, c, h1, h2.calls hb, h3⟩
/-- What holds of what the third region of the document's End yields. -/
def REndF (B g : Nat) (SE : Array Value) (ne : Nat) (HF : List Wd) : Nat → Value → World → Prop
  | 0, u, _ => u = .agg SE
  | 1, u, _ => u = .pointer (some ⟨g, 9, none⟩)
  | 2, u, _ => u = .int .u64 ne
  | 3, u, w => PadV ne u w
  | 4, u, _ => ∃ a l c N, u = .agg (stC HF (.slice a l c) N)
  | 5, u, w => ∃ p, u = .pointer (some ⟨p, 0, none⟩) ∧ Blk w p 87 (startC 0) ∧ B < p
  | _, _, _ => True
theorem REndF.keep {B g : Nat} {SE : Array Value} {ne : Nat} {HF : List Wd} : ∀ j u w1 w2, REndF B g SE ne HF j u w1 → Below w1.heap.size w1 w2 → REndF B g SE ne HF j u w2
  | 0, _, _, _, h, _ => h
  | 1, _, _, _, h, _ => h
  | 2, _, _, _, h, _ => h
  | 3, _, _, _, h, hb => PadV.keep h hb
  | 4, _, _, _, h, _ => h
  | 5, _, _, _, ⟨p, h1, h2, h3⟩, hb => ⟨p, h1, h2.calls hb, h3⟩
  | _ + 6, _, _, _, h, _ => h
set_option maxRecDepth 100000 in
set_option maxHeartbeats 4000000 in
theorem REnd_any (H : List Wd) (hH : H.length = 8) (a : Option Addr) (rest : List UInt8) (len c n : Nat) (hn : n < W64) (hrl : rest.length = len) (hlc : len ≤ c) (hcm : c ≤ maxLen) (hl47 : len ≤ 70368744177664) (hnoa : a = none → len = 0 ∧ c = 0) (w : World) (hrr : RdS w a rest) :
    Calls Tryd.prog 42 #[.agg (stC H (.slice a len c) n)] w fun e w' => e = .returned (.agg (u8cells (wbytes (absH (effH H len n) (effR rest len n ++ padOf (effN len n)))))) ∧ Below w.heap.size w w' := by
  have hRe47 : (effR rest len n).length ≤ 70368744177664 := by unfold effR; split; omega; simp
  have hl9 : len ≤ 9223372036854775807 := by unfold maxLen at hcm; omega
  obtain ⟨b, hb⟩ : ∃ b, decide (len = n % 64) = b := ⟨_, rfl⟩
  have iS := isRS (stC H (.slice a len c) n) (stC_size _ _ _ hH)
  have cS := fun w => RSane_any H hH a len c n hn hl9 b hb w
  obtain ⟨S, hS⟩ : ∃ S, S = stC H (.slice a len c) n := ⟨_, rfl⟩
  have sS : S.size = 10 := by rw [hS]; exact stC_size _ _ _ hH
  rw [← hS] at iS cS ⊢
  obtain ⟨ae, ce, hae, hce1, hce2, hrae, hnoe⟩ : ∃ (ae : Option Addr) (ce : Nat), ((b = true ∧ ae = a ∧ ce = c) ∨ (b = false ∧ ae = none ∧ ce = 0)) ∧ (effR rest len n).length ≤ ce ∧ ce ≤ maxLen ∧ RdS w ae (effR rest len n) ∧ (ae = none → (effR rest len n).length = 0 ∧ ce = 0) := by
    cases hbb : b with
    | true =>
      have : len = n % 64 := by rw [hbb] at hb; simpa using hb
      refine ⟨a, c, .inl ⟨rfl, rfl, rfl⟩, ?_, hcm, ?_, ?_⟩ <;> simp only [effR, if_pos this]
      · omega
      · exact hrr
      · rw [hrl]; exact hnoa
    | false =>
      have : ¬ len = n % 64 := by rw [hbb] at hb; simpa using hb
      refine ⟨none, 0, .inr ⟨rfl, rfl, rfl⟩, ?_, Nat.zero_le _, ?_, ?_⟩ <;> simp only [effR, if_neg this]
      · exact Nat.le_refl _
      · exact .inl rfl
      · simp
  obtain ⟨SE, hSE⟩ : ∃ SE, SE = stC (effH H len n) (.slice ae (effR rest len n).length ce) (effN len n) := ⟨_, rfl⟩
  have hcase : (b = true ∧ S = SE) ∨ (b = false ∧ stC HI (.slice none 0 0) 0 = SE) := by
    rcases hae with ⟨h1, h2, h3⟩ | ⟨h1, h2, h3⟩
    · have : len = n % 64 := by rw [h1] at hb; simpa using hb
      exact .inl ⟨h1, by rw [hS, hSE, h2, h3]; simp only [effH, effR, effN, if_pos this, hrl]⟩
    · have : ¬ len = n % 64 := by rw [h1] at hb; simpa using hb
      exact .inr ⟨h1, by rw [hSE, h2, h3]; simp only [effH, effR, effN, if_neg this]; rfl⟩
  have hHe : (effH H len n).length = 8 := by unfold effH; split; exact hH; exact HI_length
  have hne : effN len n < W64 := by unfold effN; split; exact hn; exact W64_pos
  have hsane : (effR rest len n).length = effN len n % 64 := by unfold effR effN; split <;> simp_all
  clear hae hl9 hrl hlc hcm hrr hS hnoa
  generalize effH H len n = He at *
  generalize effR rest len n = Re at *
  generalize effN len n = ne at *
  obtain ⟨HF, hHF⟩ : ∃ HF, HF = absH He (Re ++ padOf ne) := ⟨_, rfl⟩
  have hHFl : HF.length = 8 := by rw [hHF]; exact absH_length _ _ hHe
  rw [← hHF]
  obtain ⟨L, hLb⟩ : ∃ L, L = wbytes HF := ⟨_, rfl⟩
  rw [← hLb]
  have hLl : L.length = 32 := by rw [hLb]; exact wbytes_length HF hHFl
  obtain ⟨C, hC⟩ : ∃ C, C = u8cells L := ⟨_, rfl⟩
  rw [← hC]
  have sE : SE.size = 10 := by rw [hSE]; exact stC_size _ _ _ hHe
  have iE := isRS SE sE
  have aE : SE.all (·.oneCell') = true := by rw [hSE]; exact stC_one _ _ _ _ _
  have sSE : S.size = SE.size := by rw [sS, sE]
  have cW := fun (w2 : World) (hb : Below w.heap.size w w2) (p : Option Addr) (cp : Nat) (h1 : RdS w2 p (padOf ne)) (h2 : (padOf ne).length ≤ cp) (h3 : cp ≤ maxLen) (h4 : p = none → (padOf ne).length = 0 ∧ cp = 0) =>
    RWrite_any He hHe ae Re Re.length ce ne hne rfl hce1 hce2 hRe47 hnoe p (padOf ne) (padOf ne).length cp rfl h2 ⟨by rw [padOf_length]; unfold zerosOf; split <;> omega, by unfold maxLen at h3; omega⟩ h4 w2 (hrae.below hb (Nat.le_refl _)) h1
  have F := Lib.hid (And.intro hSE (And.intro hHF (And.intro hHFl (And.intro hHe (And.intro hne (And.intro hsane (And.intro hLb (And.intro hLl hC)))))))); clear hSE hHF hHFl hHe hne hsane hrae hb hLb hLl hC hnoe
  have CS := Lib.hid cS; clear cS
  have CW := Lib.hid cW; clear cW
  go_enter Tryd.func42, Tryd.ntmps42
  go_wp2_with (with_reducible refine wl_st ((Blk.newAt w _ S rfl).alloc _) _ _ rfl rfl rfl _ Tryd.underlying87 iS ?_)
  refine (CS.out _).mono ?_
  rintro e w1 ⟨rfl, hb1⟩
  obtain ⟨H0, hH0⟩ : ∃ H0, H0 = Array.replicate 32 (Value.int .u8 0) := ⟨_, rfl⟩
  have A0 : Blk w1 w.heap.size 87 S := ((Blk.newAt w _ S rfl).alloc _).calls hb1
  have A1 : Blk w1 (w.heap.size + 1) 58 H0 := by rw [hH0]; exact (Blk.second w _ _ _).calls hb1
  have AB : Below w.heap.size w w1 := bt (ba (ba (Below.refl _ _) _) _) hb1
  have z0 := A0.lt
  have z1 := A1.lt
  clear hb1
  have HH0 := Lib.hid hH0; clear hH0
  go_upto_if 9 with fail
  go_cut [] (fun wx => Blk wx w.heap.size 87 SE ∧ Blk wx (w.heap.size + 1) 58 H0 ∧ Below w.heap.size w wx)
  case first =>
    rcases hcase with ⟨h1, h2⟩ | ⟨h1, h2⟩
    · subst h1
      rw [h2] at A0
      have HA := Lib.hid (And.intro A0 (And.intro A1 AB)); clear A0 A1 AB h2
      go_wp2_with fail
      go_meet
      exact HA.out
    · subst h1
      have HA := Lib.hid (And.intro A0 (And.intro A1 AB)); clear A0 A1 AB
      have h2' := Lib.hid h2; clear h2
      go_wp2_with fail
      refine (RStart_any _).mono ?_
      rintro e w2 ⟨rfl, hb2⟩
      rw [h2'.out]
      have B0 := HA.out.1.calls hb2
      have B1 := HA.out.2.1.calls hb2
      have BB := bt HA.out.2.2 hb2
      have HB := Lib.hid (And.intro B0 (And.intro B1 BB)); clear B0 B1 BB hb2 HA
      go_wp2_with (with_reducible refine ws_row HB.out.1 _ _ _ _ rfl rfl rfl rfl iE sSE aE ?_)
      go_meet
      exact ⟨HB.out.1.row _, HB.out.2.1.rowFar (by omega) _, setRow_below HB.out.2.2 (by omega) _⟩
  case rest =>
    obtain ⟨B0, B1, BB⟩ := hcut
    clear hcase sSE iS A0 A1 AB CS z0 z1
    have z0 := B0.lt
    have z1 := B1.lt
    have B := Lib.hid (And.intro B0 (And.intro B1 BB)); clear B0 B1 BB
    go_wp2_with fail
    refine wp_region_vals2 [some 11, some 12, some 13, some 14, some 15, some 3, none] (REndF (w.heap.size + 1) w.heap.size SE ne HF) 6 (fun γ w' => ∃ p a l c N, γ 5 = .pointer (some ⟨p, 0, none⟩) ∧ w.heap.size + 1 < p ∧ Blk w' p 87 (stC HF (.slice a l c) N) ∧ Blk w' (w.heap.size + 1) 58 H0 ∧ Below w.heap.size w w') (fun γ γ' w h ⟨p, a, l, c, N, h1, h2⟩ => ⟨p, a, l, c, N, (h 5 (by omega)).symm.trans h1, h2⟩) REndF.keep (by kernel_rfl) rfl rfl rfl rfl rfl rfl ⟨
      .inr ⟨rfl, fun A w' γ hb hf hs => Oper.wp_mono (by rintro a' w'' ⟨h1, h2⟩; exact ⟨_, h1, h2, rfl⟩) (wp_load_row (K := fun a' w'' => a' = A.put (some 11) (.agg SE) ∧ Below w'.heap.size w' w'') 87 (.tmp 1) rfl w.heap.size ((hs.2 1 rfl).trans rfl) 87 SE (0, 0) _ (B.out.1.below hb z0) Tryd.underlying87 rfl iE ⟨rfl, Below.refl _ _⟩)⟩,
      .inr ⟨rfl, fun A w' γ hb hf hs => Oper.wp_mono (by rintro a' w'' ⟨h1, h2⟩; exact ⟨_, h1, h2, rfl⟩) (op_field2R (.tmp 1) rfl w.heap.size ((hs.2 1 rfl).trans rfl))⟩,
      .inr ⟨rfl, fun A w' γ hb hf hs => Oper.wp_mono (by rintro a' w'' ⟨h1, h2⟩; exact ⟨_, h1, h2, rfl⟩) (op_cell 63 (.tmp 12) rfl ⟨w.heap.size, 9, none⟩ ((hs.1 1 rfl 12 rfl).trans (hf 1 rfl)) (.int .u64 ne) (by rw [(B.out.1.below hb z0).cell, F.out.1]; exact stC_num _ _ _ F.out.2.2.2.1) _ Tryd.underlying63 rfl)⟩,
      .inr ⟨rfl, fun A w' γ hb hf hs => Oper.wp_mono (by rintro a' w'' ⟨u, h1, h2, h3⟩; exact ⟨u, h2, h3, h1⟩) (op_call1 53 _ (exec_call _ 53 _ rfl rfl (margs1 (show A.eval (.tmp 13) = _ from (hs.1 2 rfl 13 rfl).trans (hf 2 rfl))) Tryd.func53 rfl rfl) (fun u w'' => PadV ne u w'') ((RPad_any ne F.out.2.2.2.2.1 w').mono (by rintro e w'' ⟨v, rfl, h1, h2⟩; exact ⟨v, rfl, h1, h2⟩)))⟩,
      .inr ⟨rfl, fun A w' γ hb hf hs => by
        obtain ⟨p, cp, hp1, hp2, hp3, hp4, hp5⟩ := hf 3 rfl
        refine Oper.wp_mono ?_ (op_call1 43 _ (exec_call _ 43 _ rfl rfl (margs2 (show A.eval (.tmp 11) = _ from (hs.1 0 rfl 11 rfl).trans (hf 0 rfl)) (show A.eval (.tmp 14) = _ from (hs.1 3 rfl 14 rfl).trans hp1)) Tryd.func43 rfl rfl) (fun u w'' => ∃ a l c N, u = .agg (stC HF (.slice a l c) N)) ?_)
        · rintro a' w'' ⟨u, h1, h2, h3⟩
          exact ⟨u, h2, h3, h1⟩
        · rw [F.out.1]
          refine (CW.out w' (bt B.out.2.2 hb) p cp hp2 hp3 hp4 hp5).mono ?_
          rintro e w'' ⟨a2, c2, rfl, _, _, _, _, hb2⟩
          refine ⟨_, rfl, hb2, a2, (absR (Re ++ padOf ne)).length, c2, (ne + (padOf ne).length) % W64, ?_⟩
          rw [F.out.2.1]
          simp only [effH, effR, effN, if_pos F.out.2.2.2.2.2.1]⟩,
      .inr ⟨rfl, fun A w' γ hb hf hs => Oper.wp_mono (by rintro a' w'' ⟨u, h1, h2, h3, h4⟩; exact ⟨u, h1, h2, _, h3, h4, Nat.lt_of_lt_of_le z1 hb.size⟩) (op_alloc (startC 0) 87 rfl)⟩,
      .inl ⟨rfl, rfl, fun A w' γ hb hf hs => by
        obtain ⟨a2, l2, c2, N2, hu⟩ := hf 4 (by omega)
        obtain ⟨p, hp1, hp2, hp3⟩ := hf 5 (by omega)
        have s10 : (stC HF (.slice a2 l2 c2) N2).size = 10 := stC_size _ _ _ F.out.2.2.1
        have hpne : p ≠ w.heap.size := by omega
        have hpne2 : w.heap.size + 1 ≠ p := by omega
        refine wp_store_row 87 (.tmp 3) (.tmp 15) rfl p (stC HF (.slice a2 l2 c2) N2) ((hs.1 5 rfl 3 rfl).trans hp1) ((hs.1 4 rfl 15 rfl).trans hu) 87 (startC 0) hp2 (isRS _ s10) (by rw [s10]; rfl) (stC_one _ _ _ _ _) ⟨undef, rfl, p, a2, l2, c2, N2, hp1, by omega, ?_, ?_, ?_⟩
        · exact hp2.row _
        · exact (B.out.2.1.below hb z1).rowFar hpne2 _
        · exact setRow_below (bt B.out.2.2 hb) (by omega) _⟩, trivial⟩ ?_
    rintro γ wt ⟨p, at', lt, ct, Nt, hp5, hpl, hT1, hT2, hT3⟩
    simp only [Fr, if_true, Act.put, List.setIfInBounds_toArray, List.set_cons_zero, List.set_cons_succ, List.getD_cons_zero, List.getD_cons_succ]
    rw [hp5]
    generalize γ 0 = s10
    generalize γ 1 = s11
    generalize γ 2 = s12
    generalize γ 3 = s13
    generalize γ 4 = s14
    have i8H := is8 (u32c HF) (by rw [u32c_size, F.out.2.2.1])
    have zt0 := hT1.lt
    have zt1 := hT2.lt
    have zt2 := hT3.size
    have TT := Lib.hid (And.intro hT1 (And.intro hT2 hT3)); clear hT1 hT2 hT3 hp5 B
    go_wp2
    go_loopw [5] (fun i wr => ∃ k : Nat, k ≤ 8 ∧ i = .int .i64 k ∧ Blk wr wt.heap.size 58 (partB L (4 * k)) ∧ Below wt.heap.size wt wr) (fun i _ => 8 - (intOf i).toNat)
    case atStart =>
      refine ⟨0, by omega, rfl, ?_, ba (Below.refl _ _) _⟩
      rw [Nat.mul_zero, partB_zero, F.out.2.2.2.2.2.2.2.1]
      exact Blk.new wt _ _
    case round =>
      obtain ⟨k, hk, rfl, h0, hb⟩ := hrel
      by_cases hlt : k < 8
      · have hki : (k : Int) < 8 := by omega
        have R0 := Lib.hid (And.intro h0 hb); clear h0 hb
        go_wp2
        go_loopw [6] (fun i wq => ∃ j : Nat, j ≤ 4 ∧ i = .int .i64 j ∧ Blk wq wt.heap.size 58 (partB L (4 * k + j)) ∧ Below wt.heap.size wt wq) (fun i _ => 4 - (intOf i).toNat)
        case atStart => exact ⟨0, by omega, rfl, R0.out.1, R0.out.2⟩
        case round =>
          clear R0
          obtain ⟨j, hj, rfl, h0, hb⟩ := hrel
          by_cases hlt2 : j < 4
          · obtain ⟨q, hq⟩ : ∃ q, q = 4 * k := ⟨_, rfl⟩
            obtain ⟨s, hs⟩ : ∃ s, s = q + j := ⟨_, rfl⟩
            obtain ⟨t, ht⟩ : ∃ t, t = 8 * j := ⟨_, rfl⟩
            obtain ⟨v, hv⟩ : ∃ v, v = 24 - t := ⟨_, rfl⟩
            obtain ⟨x, hx⟩ : ∃ x, x = HF.getD k 0 := ⟨_, rfl⟩
            obtain ⟨X, hX⟩ : ∃ X, X = wn x := ⟨_, rfl⟩
            obtain ⟨y, hy⟩ : ∃ y, y = (L.getD s 0).toNat := ⟨_, rfl⟩
            have q0 : (X : Int) / (2 : Int) ^ v % 256 = (y : Int) := by
              rw [hy, hs, hq, F.out.2.2.2.2.2.2.1, wbytes_at HF F.out.2.2.1 k j hlt hlt2, ← hx, ← hX, show (256 : Nat) = 2 ^ 8 from rfl, ← Nat.pow_mul, show 8 * (3 - j) = v by omega]
              generalize hyy : X / 2 ^ v = yy
              have e : (X : Int) / (2 : Int) ^ v = (yy : Int) := by rw [← hyy]; push_cast; rfl
              rw [e]
              simp
            have iq : (4 : Int) * (k : Int) = (q : Int) := by omega
            have is : (q : Int) + (j : Int) = (s : Int) := by omega
            have it : (8 : Int) * (j : Int) = (t : Int) := by omega
            have iv : (24 : Int) - (t : Int) = (v : Int) := by omega
            have ev : IntKind.u64.wrap (v : Int) = (v : Int) := by rw [IntKind.wrap_u64]; omega
            have v64 : v < 32 := by omega
            have s32 : s < 32 := by omega
            have k8 : k < 8 := hlt
            have cH := (TT.out.1.below hb zt0).cell k
            rw [stC_word _ _ _ k F.out.2.2.1 hlt, ← hx, ← hX] at cH
            rw [← hq, ← hs] at h0
            obtain ⟨v0, hv0⟩ := partB_at L s s (by rw [F.out.2.2.2.2.2.2.2.1]; exact s32)
            have c0 := blk_get h0 s _ hv0
            have f0 := h0.frozen s
            have hji : (j : Int) < 4 := by omega
            have R := Lib.hid (And.intro h0 (And.intro hb (And.intro hq (And.intro hs (And.intro ht (And.intro hv (And.intro hx (And.intro hX hy)))))))); clear h0 hb hq hs ht hv hx hX hy hv0
            go_wp2
            obtain ⟨h0, hb, hq, hs, ht, hv, hx, hX, hy⟩ := R.out
            go_roundw
            case rel =>
              have s0 := partB_set L s (by rw [F.out.2.2.2.2.2.2.2.1]; exact s32)
              rw [← hy] at s0
              refine ⟨j + 1, by omega, by go_num, ?_, hb.setCell (Nat.le_refl _) _⟩
              rw [show 4 * k + (j + 1) = s + 1 by omega, ← s0]
              exact h0.set_ s _
            case measure => simp [intOf]; omega
          · obtain rfl : j = 4 := by omega
            have R := Lib.hid (And.intro h0 hb); clear h0 hb
            go_wp2
            obtain ⟨h0, hb⟩ := R.out
            go_roundw
            case rel => exact ⟨k + 1, by omega, by go_num, by rw [show 4 * (k + 1) = 4 * k + 4 by omega]; exact h0, hb⟩
            case measure => simp [intOf]; omega
      · obtain rfl : k = 8 := by omega
        rw [partB_full L (4 * 8) (by have := F.out.2.2.2.2.2.2.2.1; omega), ← F.out.2.2.2.2.2.2.2.2] at h0
        have B1 := TT.out.2.1.below hb zt1
        have FB := bt TT.out.2.2 hb
        have sC : C.size = 32 := by rw [F.out.2.2.2.2.2.2.2.2, u8cells_size]; exact F.out.2.2.2.2.2.2.2.1
        have iC : (Tryd.prog.info? 58).map (·.size) = some C.size := by rw [sC]; kernel_rfl
        have s1 : H0.size = C.size := by rw [sC, HH0.out]; simp
        have aC : C.all (·.oneCell') = true := by rw [F.out.2.2.2.2.2.2.2.2]; exact u8cells_one _
        have K := Lib.hid (And.intro h0 (And.intro B1 FB)); clear h0 B1 FB hb sC
        go_wp2_with (first | with_reducible refine wl_row K.out.1 _ _ rfl rfl rfl _ _ Tryd.underlying58 iC ?_ | with_reducible refine ws_row K.out.2.1 _ _ _ _ rfl rfl rfl rfl iC s1 aC ?_)
        refine bodyPost_ret (v := .agg C) ?_ rfl ⟨rfl, setRow_below K.out.2.2 (by omega) _⟩
        exact results_cell_row rfl _ _ _ _ _ (0, 0) _ rfl (K.out.2.1.row _) Tryd.underlying58 rfl iC
end Go.Proofs.YtlegcceaoglpoaaDoor

namespace Go.Proofs.YtlegcceaoglpoaaDoor
open Go.RowKit
set_option linter.unusedVariables false
set_option maxRecDepth 100000 in
set_option maxHeartbeats 400000 in
theorem RSum_any (a' : Option Addr) (t : List UInt8) (m c' : Nat) (hm : t.length = m) (hc : m ≤ c') (hc2 : m ≤ 70368744177664 ∧ c' ≤ 9223372036854775807) (hno : a' = none → m = 0 ∧ c' = 0) (w : World) (hr : RdS w a' t) :
    Calls Tryd.prog 33 #[.slice a' m c'] w fun e w' => e = .returned (.agg (u8cells (sumOf t))) ∧ Below w.heap.size w w' := by
  obtain ⟨C, hC⟩ : ∃ C, C = u8cells (sumOf t) := ⟨_, rfl⟩
  have sC : C.size = 32 := by rw [hC, u8cells_size]; exact sumOf_length t
  have iC : (Tryd.prog.info? 58).map (·.size) = some C.size := by rw [sC]; kernel_rfl
  have aC : C.all (·.oneCell') = true := by rw [hC]; exact u8cells_one _
  obtain ⟨H0, hH0⟩ : ∃ H0, H0 = Array.replicate 32 (Value.int .u8 0) := ⟨_, rfl⟩
  have s1 : H0.size = C.size := by rw [sC, hH0]; simp
  rw [← hC]
  have F := Lib.hid (And.intro hm (And.intro hr (And.intro hC hH0))); clear hm hr hC hH0 sC
  go_enter Tryd.func33, Tryd.ntmps33
  go_wp2_with fail
  refine (RStart_any _).mono ?_
  rintro e w1 ⟨rfl, hb1⟩
  have A0 : Blk w1 w.heap.size 58 H0 := by rw [F.out.2.2.2]; exact (Blk.new w _ _).calls hb1
  have AB : Below w.heap.size w w1 := bt (ba (Below.refl _ _) _) hb1
  have A := Lib.hid (And.intro A0 AB); clear A0 AB hb1
  obtain ⟨S0, hS0⟩ : ∃ S, S = stC HI (.slice none 0 0) 0 := ⟨_, rfl⟩
  have cW := RWrite_any HI HI_length none [] 0 0 0 W64_pos rfl (Nat.le_refl _) (Nat.zero_le _) (by omega) (fun _ => ⟨rfl, rfl⟩) a' t m c' F.out.1 hc hc2 hno w1 (.inl rfl) (F.out.2.1.below A.out.2 (Nat.le_refl _))
  rw [← hS0] at cW ⊢
  have CW := Lib.hid (And.intro cW hS0); clear cW hS0
  go_wp2_with fail
  refine CW.out.1.mono ?_
  rintro e w2 ⟨a2, c2, rfl, h1, h2, h3, h4, hb2⟩
  have eH : effH HI 0 0 = HI := by unfold effH; split <;> rfl
  have eR : effR [] 0 0 ++ t = t := by unfold effR; split <;> rfl
  have eN : (effN 0 0 + m) % W64 = m % W64 := by unfold effN; split <;> simp
  rw [eR] at h1 h2 h4
  rw [eH, eR, eN]
  have hlt : (absR t).length < 64 := by rw [absR_length]; exact Nat.mod_lt _ (by omega)
  have cE := REnd_any (absH HI t) (absH_length _ _ HI_length) a2 (absR t) (absR t).length c2 (m % W64) (Nat.mod_lt _ W64_pos) rfl h2 h3 (by omega) h4 w2 h1
  have hs : (absR t).length = m % W64 % 64 := by rw [absR_length, F.out.1]; unfold W64; omega
  simp only [effH, effR, effN, if_pos hs] at cE
  rw [← absH_app, show wbytes (absH HI (t ++ padOf (m % W64))) = sumOf t by unfold sumOf; rw [F.out.1]] at cE
  obtain ⟨S2, hS2⟩ : ∃ S, S = stC (absH HI t) (.slice a2 (absR t).length c2) (m % W64) := ⟨_, rfl⟩
  rw [← hS2, ← F.out.2.2.1] at cE
  rw [← hS2]
  have B := Lib.hid (And.intro (A.out.1.calls hb2) (And.intro (bt A.out.2 hb2) cE)); clear hb2 A cE h1 h2 h3 h4 hlt hs eH eR eN hS2
  go_wp2_with fail
  refine B.out.2.2.mono ?_
  rintro e w3 ⟨rfl, hb3⟩
  have D := Lib.hid (And.intro (B.out.1.calls hb3) (bt B.out.2.1 hb3)); clear hb3 B
  go_wp2_with (with_reducible refine ws_row D.out.1 _ _ _ _ rfl rfl rfl rfl iC s1 aC ?_)
  refine bodyPost_ret (v := .agg C) ?_ rfl ⟨rfl, setRow_below D.out.2 (Nat.le_refl _) _⟩
  exact results_cell_row rfl _ _ _ _ _ (0, 0) _ rfl (D.out.1.row _) Tryd.underlying58 rfl iC
set_option maxRecDepth 100000 in
set_option maxHeartbeats 1000000 in
theorem RDouble_any (a' : Option Addr) (t : List UInt8) (m c' : Nat) (hm : t.length = m) (hc : m ≤ c') (hc2 : m ≤ 70368744177664 ∧ c' ≤ 9223372036854775807) (hno : a' = none → m = 0 ∧ c' = 0) (w : World) (hr : RdS w a' t) :
    Calls Tryd.prog 25 #[.slice a' m c'] w fun e w' => e = .returned (.agg (u8cells (sumOf (sumOf t)))) ∧ Below w.heap.size w w' := by
  obtain ⟨S, hS⟩ : ∃ S, S = sumOf t := ⟨_, rfl⟩
  have hSl : S.length = 32 := by rw [hS]; exact sumOf_length t
  obtain ⟨C1, hC1⟩ : ∃ C, C = u8cells S := ⟨_, rfl⟩
  obtain ⟨C, hC⟩ : ∃ C, C = u8cells (sumOf S) := ⟨_, rfl⟩
  have sC : C.size = 32 := by rw [hC, u8cells_size]; exact sumOf_length S
  have sC1 : C1.size = 32 := by rw [hC1, u8cells_size]; exact hSl
  have iC : (Tryd.prog.info? 58).map (·.size) = some C.size := by rw [sC]; kernel_rfl
  have iC1 : (Tryd.prog.info? 58).map (·.size) = some C1.size := by rw [sC1]; kernel_rfl
  have aC : C.all (·.oneCell') = true := by rw [hC]; exact u8cells_one _
  have aC1 : C1.all (·.oneCell') = true := by rw [hC1]; exact u8cells_one _
  have s1 : (Array.size (#[.int .u8 0, .int .u8 0, .int .u8 0, .int .u8 0, .int .u8 0, .int .u8 0, .int .u8 0, .int .u8 0, .int .u8 0, .int .u8 0, .int .u8 0, .int .u8 0, .int .u8 0, .int .u8 0, .int .u8 0, .int .u8 0, .int .u8 0, .int .u8 0, .int .u8 0, .int .u8 0, .int .u8 0, .int .u8 0, .int .u8 0, .int .u8 0, .int .u8 0, .int .u8 0, .int .u8 0, .int .u8 0, .int .u8 0, .int .u8 0, .int .u8 0, .int .u8 0] : Array Value)) = C1.size := by rw [sC1]; rfl
  have s2 : (Array.size (#[.int .u8 0, .int .u8 0, .int .u8 0, .int .u8 0, .int .u8 0, .int .u8 0, .int .u8 0, .int .u8 0, .int .u8 0, .int .u8 0, .int .u8 0, .int .u8 0, .int .u8 0, .int .u8 0, .int .u8 0, .int .u8 0, .int .u8 0, .int .u8 0, .int .u8 0, .int .u8 0, .int .u8 0, .int .u8 0, .int .u8 0, .int .u8 0, .int .u8 0, .int .u8 0, .int .u8 0, .int .u8 0, .int .u8 0, .int .u8 0, .int .u8 0, .int .u8 0] : Array Value)) = C.size := by rw [sC]; rfl
  rw [← hS, ← hC]
  have F := Lib.hid (And.intro hm (And.intro hr (And.intro hC (And.intro hS (And.intro hC1 hSl))))); clear hm hr hC hS hC1 hSl sC sC1
  go_enter Tryd.func25, Tryd.ntmps25
  go_wp2_with fail
  refine (RSum_any a' t m c' F.out.1 hc hc2 hno _ (F.out.2.1.below (ba (Below.refl _ _) _) (Nat.le_refl _)) ).mono ?_
  rintro e w1 ⟨rfl, hb1⟩
  rw [← F.out.2.2.2.1, ← F.out.2.2.2.2.1]
  have A0 : Blk w1 w.heap.size 58 #[.int .u8 0, .int .u8 0, .int .u8 0, .int .u8 0, .int .u8 0, .int .u8 0, .int .u8 0, .int .u8 0, .int .u8 0, .int .u8 0, .int .u8 0, .int .u8 0, .int .u8 0, .int .u8 0, .int .u8 0, .int .u8 0, .int .u8 0, .int .u8 0, .int .u8 0, .int .u8 0, .int .u8 0, .int .u8 0, .int .u8 0, .int .u8 0, .int .u8 0, .int .u8 0, .int .u8 0, .int .u8 0, .int .u8 0, .int .u8 0, .int .u8 0, .int .u8 0] := (Blk.new w _ _).calls hb1
  have AB : Below w.heap.size w w1 := bt (ba (Below.refl _ _) _) hb1
  have z0 := A0.lt
  have N : Blk _ w1.heap.size 58 #[.int .u8 0, .int .u8 0, .int .u8 0, .int .u8 0, .int .u8 0, .int .u8 0, .int .u8 0, .int .u8 0, .int .u8 0, .int .u8 0, .int .u8 0, .int .u8 0, .int .u8 0, .int .u8 0, .int .u8 0, .int .u8 0, .int .u8 0, .int .u8 0, .int .u8 0, .int .u8 0, .int .u8 0, .int .u8 0, .int .u8 0, .int .u8 0, .int .u8 0, .int .u8 0, .int .u8 0, .int .u8 0, .int .u8 0, .int .u8 0, .int .u8 0, .int .u8 0] := Blk.new w1 58 #[.int .u8 0, .int .u8 0, .int .u8 0, .int .u8 0, .int .u8 0, .int .u8 0, .int .u8 0, .int .u8 0, .int .u8 0, .int .u8 0, .int .u8 0, .int .u8 0, .int .u8 0, .int .u8 0, .int .u8 0, .int .u8 0, .int .u8 0, .int .u8 0, .int .u8 0, .int .u8 0, .int .u8 0, .int .u8 0, .int .u8 0, .int .u8 0, .int .u8 0, .int .u8 0, .int .u8 0, .int .u8 0, .int .u8 0, .int .u8 0, .int .u8 0, .int .u8 0]
  have R := N.row C1
  have R0 := (A0.alloc (.cells #[.int .u8 0, .int .u8 0, .int .u8 0, .int .u8 0, .int .u8 0, .int .u8 0, .int .u8 0, .int .u8 0, .int .u8 0, .int .u8 0, .int .u8 0, .int .u8 0, .int .u8 0, .int .u8 0, .int .u8 0, .int .u8 0, .int .u8 0, .int .u8 0, .int .u8 0, .int .u8 0, .int .u8 0, .int .u8 0, .int .u8 0, .int .u8 0, .int .u8 0, .int .u8 0, .int .u8 0, .int .u8 0, .int .u8 0, .int .u8 0, .int .u8 0, .int .u8 0] 58)).rowFar (show w.heap.size ≠ w1.heap.size by omega) C1
  have RB := setRow_below (ba AB (.cells #[.int .u8 0, .int .u8 0, .int .u8 0, .int .u8 0, .int .u8 0, .int .u8 0, .int .u8 0, .int .u8 0, .int .u8 0, .int .u8 0, .int .u8 0, .int .u8 0, .int .u8 0, .int .u8 0, .int .u8 0, .int .u8 0, .int .u8 0, .int .u8 0, .int .u8 0, .int .u8 0, .int .u8 0, .int .u8 0, .int .u8 0, .int .u8 0, .int .u8 0, .int .u8 0, .int .u8 0, .int .u8 0, .int .u8 0, .int .u8 0, .int .u8 0, .int .u8 0] 58)) (show w.heap.size ≤ w1.heap.size from AB.size) C1
  have A := Lib.hid (And.intro N (And.intro R (And.intro R0 RB))); clear A0 AB N R R0 RB hb1
  go_wp2_with (with_reducible refine ws_row A.out.1 _ _ _ _ rfl rfl rfl rfl iC1 s1 aC1 ?_)
  refine (RSum_any (some ⟨w1.heap.size, 0, none⟩) S 32 32 F.out.2.2.2.2.2 (by omega) (by omega) (fun h => by cases h) _ (.inr ⟨w1.heap.size, 0, rfl, A.out.2.1.lt, fun i hi => (A.out.2.1.cell (0 + i)).trans (by rw [Nat.zero_add, F.out.2.2.2.2.1]; exact u8cells_at S i hi)⟩) ).mono ?_
  rintro e w2 ⟨rfl, hb2⟩
  rw [← F.out.2.2.1]
  have D := Lib.hid (And.intro (A.out.2.2.1.calls hb2) (bt A.out.2.2.2 hb2)); clear hb2 A
  go_wp2_with (with_reducible refine ws_row D.out.1 _ _ _ _ rfl rfl rfl rfl iC s2 aC ?_)
  refine bodyPost_ret (v := .agg C) ?_ rfl ⟨rfl, setRow_below D.out.2 (Nat.le_refl _) _⟩
  exact results_cell_row rfl _ _ _ _ _ (0, 0) _ rfl (D.out.1.row _) Tryd.underlying58 rfl iC
end Go.Proofs.YtlegcceaoglpoaaDoor

namespace Go.Proofs.YtlegcceaoglpoaaDoor
open Go.RowKit
open Go.Lib (strCells wpList_append_own_string)
set_option linter.unusedVariables false
theorem strCells_bstr (l : List UInt8) : strCells (bstr l) = l.map fun c => Value.int .u8 (c.toNat : Int) := by
  unfold strCells bstr
  simp
def sliceN : Value → Nat
  | .slice _ n _ => n
  | _ => 0
set_option maxRecDepth 100000 in
set_option maxHeartbeats 4000000 in
theorem RPut_any (magic : Nat) (hm : magic < 4294967296) (cm : List UInt8) (hc : cm.length ≤ 1000000) (a : Option Addr) (n c : Nat) (p : List UInt8) (hl : p.length = n) (hn : n ≤ c) (hc2 : n ≤ 1000000 ∧ c ≤ 9223372036854775807) (hno : a = none → n = 0 ∧ c = 0) (w : World) (hr : RdS w a p) :
    Calls Tryd.prog 6 #[.int .u32 magic, .agg #[.string (bstr cm), .slice a n c]] w fun e w' => ∃ u, e = .returned (.tuple #[u, .int .i64 (putE cm p : Nat)]) ∧ Below w.heap.size w w' ∧ CloV (putL magic cm p) u w' := by
  have cC := fun w' => RCommand_any cm (by omega) w'
  have cF := fun w' => rfour_any magic hm w'
  have cN := fun w' => rfour_any n (by omega) w'
  have cD := fun w' (h : Below w.heap.size w w') => RDouble_any a p n c hl hn ⟨by omega, by omega⟩ hno w' (hr.calls h)
  obtain ⟨S, hS⟩ : ∃ S, S = bstr cm := ⟨_, rfl⟩
  have hsz : S.size = cm.length := by rw [hS]; simp [bstr, ByteArray.size]
  have hsc : strCells S = cm.map fun c => Value.int .u8 (c.toNat : Int) := by rw [hS]; exact strCells_bstr cm
  rw [← hS] at cC ⊢
  have n0 : ¬ (4000000 : Int) < (n : Int) := by omega
  have hw32 : IntKind.u32.wrap (n : Int) = (n : Int) := by simp [IntKind.wrap, IntKind.signed, IntKind.bits]; omega
  obtain ⟨i0, hi, hz0, hz1, hz2⟩ := info_parts (show (Tryd.prog.info? 5).map (fun i => (i.zero, i.size, i.bytes)) = some (some (.int .u8 0), 1, 1) by kernel_rfl)
  have I := Lib.hid (And.intro hi (And.intro hz0 (And.intro hz1 hz2))); clear hi hz0 hz1 hz2
  have F := Lib.hid (And.intro cC (And.intro cF (And.intro cN (And.intro cD (And.intro hr (And.intro hl (And.intro hsz hsc))))))); clear cC cF cN cD hr hl hS hsz hsc
  go_enter Tryd.func6, Tryd.ntmps6
  go_wp2_with fail
  refine (F.out.1 _).mono ?_
  rintro e w1 ⟨rfl, hb1⟩
  have X1 := (Blk.new w 25 #[.string S, .slice a n c]).calls hb1
  have B1 := bt (ba (Below.refl _ _) (.cells #[.string S, .slice a n c] 25)) hb1
  have m2 : w1.cell? ⟨w.heap.size, 1, none⟩ = some (.slice a n c) := X1.cell 1
  have G := Lib.hid (And.intro X1 B1); clear X1 B1 hb1
  cases hok : cmdOk cm with
  | false =>
    have E : putE cm p = 2 ∧ putL magic cm p = [] := by
      have : putE cm p = 2 := putE_bad hok
      exact ⟨this, by unfold putL; rw [this]; rfl⟩
    have EE := Lib.hid E; clear E hok
    go_wp2_with fail
    rw [EE.out.1, EE.out.2]
    exact bodyPost_ret (v := .tuple #[.slice none 0 0, .int .i64 2]) (by simp [results, Tryd.results6, go_sem]) rfl ⟨.slice none 0 0, rfl, G.out.2, ⟨none, 0, rfl, .inl rfl, Nat.le_refl _, Nat.zero_le _, fun _ => ⟨rfl, rfl⟩⟩⟩
  | true =>
    have hlen : cm.length ≤ 12 := cmdOk_len hok
    obtain ⟨q, hq⟩ : ∃ q, q = cm.length := ⟨_, rfl⟩
    have E : putE cm p = 0 ∧ putL magic cm p = headOf magic cm p ++ p := ⟨putE_good hok (by have := F.out.2.2.2.2.2.1; omega), putL_good hok (by have := F.out.2.2.2.2.2.1; omega)⟩
    have q12 : q ≤ 12 := by omega
    have EE := Lib.hid (And.intro E (And.intro hok hq)); clear E hok hq hlen
    go_wp2_with fail
    refine (F.out.2.1 _).mono ?_
    rintro e w2 ⟨rfl, hw2⟩
    have own2 : w2.ownsRow w1.heap.size 5 1 (.slice (some ⟨w1.heap.size, 0, none⟩) 4 4) 4 ((le4 magic).map fun c => Value.int .u8 (c.toNat : Int)) := by rw [hw2]; exact own_laid w1 (le4 magic) 5 4 rfl (by unfold maxLen; omega) (Nat.le_refl _)
    have B2 : Below w1.heap.size w1 w2 := by rw [hw2]; exact ba (Below.refl _ _) _
    have z2 : w1.heap.size ≤ w2.heap.size := B2.size
    have s12 : S.size = q := F.out.2.2.2.2.2.2.1.trans EE.out.2.2.symm
    clear m2 hw2
    have m1 : w2.cell? ⟨w.heap.size, 0, none⟩ = some (.string S) := (G.out.1.calls B2).cell 0
    have O2 := Lib.hid (And.intro own2 (And.intro B2 s12)); clear own2 B2 s12
    go_wp2_with (at_builtin; refine wpList_append_own_string _ rfl _ _ 23 9 rfl w1.heap.size 5 i0 Tryd.underlying23 Tryd.underlying9 I.out.1 I.out.2.1 I.out.2.2.1 I.out.2.2.2 (.slice (some ⟨w1.heap.size, 0, none⟩) 4 4) 4 _ rfl O2.out.1 S rfl (by rw [O2.out.2.2]; unfold maxLen; omega) (by rw [O2.out.2.2]; omega) z2 ?_)
    intro v3 w3 o3 g3 _
    rw [O2.out.2.2, F.out.2.2.2.2.2.2.2, ← List.map_append] at o3
    have B3 := below_grown O2.out.2.1 g3 z2 (by intro k hk; have := O2.out.1.lt k hk; omega)
    have O3 := Lib.hid (And.intro o3 B3); clear o3 B3 g3 O2 m1
    obtain ⟨a3, c3, rfl⟩ := own_slice O3.out.1
    go_wp2_with fail
    go_loopw [6] (fun v wr => ∃ j k : Nat, k = 4 + q + j ∧ k ≤ 16 ∧ wr.ownsRow w1.heap.size 5 1 v k ((le4 magic ++ cm ++ List.replicate j (0 : UInt8)).map fun c => Value.int .u8 (c.toNat : Int)) ∧ Below w1.heap.size w1 wr) (fun v _ => 16 - sliceN v)
    case atStart => exact ⟨0, 4 + q, rfl, by omega, by rw [List.replicate_zero, List.append_nil]; exact O3.out.1, O3.out.2⟩
    case round =>
      obtain ⟨j, k, hk, hk16, hO, hB⟩ := hrel
      obtain ⟨a4, c4, rfl⟩ := own_slice hO
      by_cases hlt : k < 16
      · have hlti : (k : Int) < 16 := by omega
        have hbs := bs1_run 0 wr
        have hO' := own1_below hO (ba (Below.refl _ _) (.cells #[.int .u8 0] 5))
        have hzz : w1.heap.size ≤ (wr.alloc (.cells #[.int .u8 0] 5)).heap.size := by rw [World.size_alloc]; have := hB.size; omega
        have R := Lib.hid (And.intro hO' (And.intro hB hk)); clear hO hO' hB hk
        go_wp2_with (at_builtin; refine wl_one R.out.1 rfl _ _ 23 rfl Tryd.underlying23 i0 I.out.1 I.out.2.1 I.out.2.2.1 I.out.2.2.2 rfl wr.heap.size 1 0 rfl (by rw [(Blk.new wr _ _).cell]; rfl) (by omega) hzz ?_)
        intro v5 w5 o5 g5 _
        have B5 := below_grown (ba R.out.2.1 (.cells #[.int .u8 0] 5)) g5 hzz (by intro kk hkk; exact (R.out.1.lt kk hkk).1)
        obtain ⟨a5, c5, rfl⟩ := own_slice o5
        replace o5 : w5.ownsRow w1.heap.size 5 1 (.slice a5 (k + 1) c5) (k + 1) ((le4 magic ++ cm ++ List.replicate j (0 : UInt8) ++ [(0 : UInt8)] : List UInt8).map fun c => Value.int .u8 (c.toNat : Int)) := by first | exact o5 | (rw [List.map_append]; simpa using o5)
        have R5 := Lib.hid (And.intro o5 B5); clear o5 B5 g5 hbs
        go_wp2
        go_roundw
        case rel => exact ⟨j + 1, k + 1, by have := R.out.2.2; omega, by omega, by rw [List.replicate_succ', ← List.append_assoc]; exact R5.out.1, R5.out.2⟩
        case measure => simp [sliceN]; omega
      · obtain rfl : k = 16 := by omega
        have hj : 12 - cm.length = j := by rw [← EE.out.2.2]; omega
        have hO' : wr.ownsRow w1.heap.size 5 1 (.slice a4 16 c4) 16 ((le4 magic ++ cmd12 cm).map fun c => Value.int .u8 (c.toNat : Int)) := by unfold cmd12; rw [hj, ← List.append_assoc]; exact hO
        have m2 : wr.cell? ⟨w.heap.size, 1, none⟩ = some (.slice a n c) := (G.out.1.calls hB).cell 1
        have R := Lib.hid (And.intro hO' hB); clear hO' hB hO hj hlt hk hk16
        go_wp2_with fail
        refine (F.out.2.2.1 _).mono ?_
        rintro e w5 ⟨rfl, hw5⟩
        have k5 : Below wr.heap.size wr w5 := by rw [hw5]; exact ba (Below.refl _ _) _
        have o5 := own1_below R.out.1 k5
        have B5 := R.out.2.trans (k5.mono R.out.2.size)
        have z5 : w1.heap.size ≤ w5.heap.size := B5.size
        have rd5 : RdS w5 (some ⟨wr.heap.size, 0, none⟩) (le4 n) := by
          obtain ⟨_, _, e, _, h, _⟩ := own_rds (show w5.ownsRow wr.heap.size 5 1 (.slice (some ⟨wr.heap.size, 0, none⟩) 4 4) 4 ((le4 n).map fun c => Value.int .u8 (c.toNat : Int)) by rw [hw5]; exact own_laid wr (le4 n) 5 4 rfl (by unfold maxLen; omega) (Nat.le_refl _))
          injection e with e1 e2 e3
          rw [e1]
          exact h
        clear m2 hw5
        have O5 := Lib.hid (And.intro o5 (And.intro B5 rd5)); clear o5 B5 rd5 k5 R
        go_wp2_with (at_builtin; refine wl_app O5.out.1 rfl _ _ 23 rfl Tryd.underlying23 i0 I.out.1 I.out.2.1 I.out.2.2.1 I.out.2.2.2 rfl (some ⟨wr.heap.size, 0, none⟩) 4 4 (le4 n) rfl O5.out.2.2 rfl (fun h => by cases h) (by omega) z5 ?_)
        intro v6 w6 o6 g6 _
        replace o6 : w6.ownsRow w1.heap.size 5 1 v6 20 ((le4 magic ++ cmd12 cm ++ le4 n).map fun c => Value.int .u8 (c.toNat : Int)) := by simpa using o6
        have B6 := below_grown O5.out.2.1 g6 z5 (by intro k hk; have := O5.out.1.lt k hk; omega)
        obtain ⟨a6, c6, rfl⟩ := own_slice o6
        have m2 : w6.cell? ⟨w.heap.size, 1, none⟩ = some (.slice a n c) := (G.out.1.calls B6).cell 1
        have z6 : w1.heap.size ≤ w6.heap.size := B6.size
        obtain ⟨D, hD⟩ : ∃ D, D = dbl p := ⟨_, rfl⟩
        have hDl : D.length = 32 := by rw [hD]; exact dbl_length _
        obtain ⟨C, hC⟩ : ∃ C, C = u8cells D := ⟨_, rfl⟩
        have cD := F.out.2.2.2.1 w6 (bt G.out.2 B6)
        have hcd : u8cells (sumOf (sumOf p)) = C := by rw [hC, hD, dbl]
        rw [hcd] at cD
        have sC : C.size = 32 := by rw [hC, u8cells_size]; exact hDl
        have iC : (Tryd.prog.info? 58).map (·.size) = some C.size := by rw [sC]; kernel_rfl
        have zC : (#[.int .u8 0, .int .u8 0, .int .u8 0, .int .u8 0, .int .u8 0, .int .u8 0, .int .u8 0, .int .u8 0, .int .u8 0, .int .u8 0, .int .u8 0, .int .u8 0, .int .u8 0, .int .u8 0, .int .u8 0, .int .u8 0, .int .u8 0, .int .u8 0, .int .u8 0, .int .u8 0, .int .u8 0, .int .u8 0, .int .u8 0, .int .u8 0, .int .u8 0, .int .u8 0, .int .u8 0, .int .u8 0, .int .u8 0, .int .u8 0, .int .u8 0, .int .u8 0] : Array Value).size = C.size := by rw [sC]; rfl
        have aC : C.all (·.oneCell') = true := by rw [hC]; exact u8cells_one _
        have O6 := Lib.hid (And.intro o6 (And.intro B6 (And.intro cD (And.intro hD (And.intro hDl hC))))); clear o6 B6 cD hD hDl hC hcd sC g6 O5
        go_wp2_with fail
        refine O6.out.2.2.1.mono ?_
        rintro e w7 ⟨rfl, hb7⟩
        have o7 := own1_below O6.out.1 hb7
        have B7 := O6.out.2.1.trans (hb7.mono O6.out.2.1.size)
        have NN : Blk (w7.alloc (.cells #[.int .u8 0, .int .u8 0, .int .u8 0, .int .u8 0, .int .u8 0, .int .u8 0, .int .u8 0, .int .u8 0, .int .u8 0, .int .u8 0, .int .u8 0, .int .u8 0, .int .u8 0, .int .u8 0, .int .u8 0, .int .u8 0, .int .u8 0, .int .u8 0, .int .u8 0, .int .u8 0, .int .u8 0, .int .u8 0, .int .u8 0, .int .u8 0, .int .u8 0, .int .u8 0, .int .u8 0, .int .u8 0, .int .u8 0, .int .u8 0, .int .u8 0, .int .u8 0] 58)) w7.heap.size 58 #[.int .u8 0, .int .u8 0, .int .u8 0, .int .u8 0, .int .u8 0, .int .u8 0, .int .u8 0, .int .u8 0, .int .u8 0, .int .u8 0, .int .u8 0, .int .u8 0, .int .u8 0, .int .u8 0, .int .u8 0, .int .u8 0, .int .u8 0, .int .u8 0, .int .u8 0, .int .u8 0, .int .u8 0, .int .u8 0, .int .u8 0, .int .u8 0, .int .u8 0, .int .u8 0, .int .u8 0, .int .u8 0, .int .u8 0, .int .u8 0, .int .u8 0, .int .u8 0] := Blk.new _ _ _
        have o8 : (World.setRow (w7.alloc (.cells #[.int .u8 0, .int .u8 0, .int .u8 0, .int .u8 0, .int .u8 0, .int .u8 0, .int .u8 0, .int .u8 0, .int .u8 0, .int .u8 0, .int .u8 0, .int .u8 0, .int .u8 0, .int .u8 0, .int .u8 0, .int .u8 0, .int .u8 0, .int .u8 0, .int .u8 0, .int .u8 0, .int .u8 0, .int .u8 0, .int .u8 0, .int .u8 0, .int .u8 0, .int .u8 0, .int .u8 0, .int .u8 0, .int .u8 0, .int .u8 0, .int .u8 0, .int .u8 0] 58)) w7.heap.size C).ownsRow w1.heap.size 5 1 (.slice a6 20 c6) 20 ((le4 magic ++ cmd12 cm ++ le4 n).map fun c => Value.int .u8 (c.toNat : Int)) := by
          have hb : Below w7.heap.size w7 (World.setRow (w7.alloc (.cells #[.int .u8 0, .int .u8 0, .int .u8 0, .int .u8 0, .int .u8 0, .int .u8 0, .int .u8 0, .int .u8 0, .int .u8 0, .int .u8 0, .int .u8 0, .int .u8 0, .int .u8 0, .int .u8 0, .int .u8 0, .int .u8 0, .int .u8 0, .int .u8 0, .int .u8 0, .int .u8 0, .int .u8 0, .int .u8 0, .int .u8 0, .int .u8 0, .int .u8 0, .int .u8 0, .int .u8 0, .int .u8 0, .int .u8 0, .int .u8 0, .int .u8 0, .int .u8 0] 58)) w7.heap.size C) := setRow_below (ba (Below.refl _ _) _) (Nat.le_refl _) C
          exact own1_below o7 hb
        have B8 : Below w1.heap.size w1 (World.setRow (w7.alloc (.cells #[.int .u8 0, .int .u8 0, .int .u8 0, .int .u8 0, .int .u8 0, .int .u8 0, .int .u8 0, .int .u8 0, .int .u8 0, .int .u8 0, .int .u8 0, .int .u8 0, .int .u8 0, .int .u8 0, .int .u8 0, .int .u8 0, .int .u8 0, .int .u8 0, .int .u8 0, .int .u8 0, .int .u8 0, .int .u8 0, .int .u8 0, .int .u8 0, .int .u8 0, .int .u8 0, .int .u8 0, .int .u8 0, .int .u8 0, .int .u8 0, .int .u8 0, .int .u8 0] 58)) w7.heap.size C) := setRow_below (B7.trans ((ba (Below.refl _ _) _ : Below w7.heap.size w7 (w7.alloc (.cells #[.int .u8 0, .int .u8 0, .int .u8 0, .int .u8 0, .int .u8 0, .int .u8 0, .int .u8 0, .int .u8 0, .int .u8 0, .int .u8 0, .int .u8 0, .int .u8 0, .int .u8 0, .int .u8 0, .int .u8 0, .int .u8 0, .int .u8 0, .int .u8 0, .int .u8 0, .int .u8 0, .int .u8 0, .int .u8 0, .int .u8 0, .int .u8 0, .int .u8 0, .int .u8 0, .int .u8 0, .int .u8 0, .int .u8 0, .int .u8 0, .int .u8 0, .int .u8 0] 58))).mono B7.size)) B7.size C
        have RD8 : RdS (World.setRow (w7.alloc (.cells #[.int .u8 0, .int .u8 0, .int .u8 0, .int .u8 0, .int .u8 0, .int .u8 0, .int .u8 0, .int .u8 0, .int .u8 0, .int .u8 0, .int .u8 0, .int .u8 0, .int .u8 0, .int .u8 0, .int .u8 0, .int .u8 0, .int .u8 0, .int .u8 0, .int .u8 0, .int .u8 0, .int .u8 0, .int .u8 0, .int .u8 0, .int .u8 0, .int .u8 0, .int .u8 0, .int .u8 0, .int .u8 0, .int .u8 0, .int .u8 0, .int .u8 0, .int .u8 0] 58)) w7.heap.size C) (some ⟨w7.heap.size, 0, none⟩) (D.take 4) := u8_rd ((NN.row C).to O6.out.2.2.2.2.2) (by have := O6.out.2.2.2.2.1; omega)
        clear m2
        have NH := Lib.hid (And.intro NN (And.intro o8 (And.intro B8 RD8))); clear NN o8 B8 RD8 o7 B7 hb7
        go_upto_region 11 with (with_reducible refine ws_row NH.out.1 _ _ _ _ rfl rfl rfl rfl iC zC aC ?_)
        have NK := Lib.hid NH.out.2; clear NH zC iC aC
        generalize World.setRow _ _ _ = w8 at *
        generalize w7.heap.size = g7 at *
        have z8 : w1.heap.size ≤ w8.heap.size := NK.out.2.1.size
        have ln4 : (D.take 4).length = 4 := by rw [List.length_take, O6.out.2.2.2.2.1]; rfl
        go_wp2_with (at_builtin; refine wl_app NK.out.1 rfl _ _ 23 rfl Tryd.underlying23 i0 I.out.1 I.out.2.1 I.out.2.2.1 I.out.2.2.2 rfl (some ⟨g7, 0, none⟩) 4 32 (D.take 4) rfl NK.out.2.2 ln4 (fun h => by cases h) (by omega) z8 ?_)
        intro v9 w9 o9 g9 _
        replace o9 : w9.ownsRow w1.heap.size 5 1 v9 24 ((le4 magic ++ cmd12 cm ++ le4 n ++ D.take 4).map fun c => Value.int .u8 (c.toNat : Int)) := by simpa using o9
        have B9 := below_grown NK.out.2.1 g9 z8 (by intro k hk; have := NK.out.1.lt k hk; omega)
        obtain ⟨a9, c9, rfl⟩ := own_slice o9
        have m2 : w9.cell? ⟨w.heap.size, 1, none⟩ = some (.slice a n c) := (G.out.1.calls B9).cell 1
        have z9 : w1.heap.size ≤ w9.heap.size := B9.size
        have Q9 := Lib.hid (And.intro o9 (And.intro B9 (F.out.2.2.2.2.1.calls (bt G.out.2 B9)))); clear o9 B9 g9 NK
        go_wp2_with (at_builtin; refine wl_app Q9.out.1 rfl _ _ 23 rfl Tryd.underlying23 i0 I.out.1 I.out.2.1 I.out.2.2.1 I.out.2.2.2 rfl a n c p rfl Q9.out.2.2 F.out.2.2.2.2.2.1 hno (by omega) z9 ?_)
        intro v10 w10 o10 g10 _
        replace o10 : w10.ownsRow w1.heap.size 5 1 v10 (24 + n) ((le4 magic ++ cmd12 cm ++ le4 n ++ D.take 4 ++ p).map fun c => Value.int .u8 (c.toNat : Int)) := by simpa using o10
        have B10 := below_grown Q9.out.2.1 g10 z9 (by intro k hk; have := Q9.out.1.lt k hk; omega)
        obtain ⟨a10, c10, rfl, e1, e2, e3, e4, e5⟩ := own_rds o10
        have Q10 := Lib.hid (And.intro (bt G.out.2 B10) (And.intro e1 (And.intro e2 (And.intro e3 (And.intro e4 e5))))); clear o10 g10 Q9 B10 e1 e2 e3 e4 e5
        go_wp2_with fail
        rw [EE.out.1.1, EE.out.1.2]
        refine bodyPost_ret (v := .tuple #[.slice a10 (24 + n) c10, .int .i64 0]) (by simp [results, Tryd.results6, go_sem]) rfl ⟨.slice a10 (24 + n) c10, rfl, Q10.out.1, a10, c10, ?_, ?_, ?_, Q10.out.2.2.2.2.1, ?_⟩
        all_goals
          have hp : headOf magic cm p ++ p = le4 magic ++ cmd12 cm ++ le4 n ++ D.take 4 ++ p := by unfold headOf; rw [F.out.2.2.2.2.2.1, O6.out.2.2.2.1]
          rw [hp]
        · rw [Q10.out.2.1]
        · exact Q10.out.2.2.1
        · rw [Q10.out.2.1]; exact Q10.out.2.2.2.1
        · rw [Q10.out.2.1]; exact Q10.out.2.2.2.2.2
end Go.Proofs.YtlegcceaoglpoaaDoor
