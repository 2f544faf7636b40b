/- What sha2.End comes to. What sha2.Sum comes to. The sum of 'abc'; awake of florinlaw02. florinlaw02's theirs; the document's Same, of states that are the same. -/
import Derived.Test.YtfebknplkbeblaaDoorHiJ
import Derived.Test.YtfebknplkbeblaaDoorHiF
import Derived.Lib.SlBytesConst
import Derived.Test.YtfebknplkbeblaaDoorHiG
namespace Go.Proofs.YtfebknplkbeblaaDoor
open Go.RowKit
set_option linter.unusedVariables false

theorem run_loadVar_cell {P : Program} (w : World) (a : Addr) (ty : TypeId) (v : Value) (d : TypeDesc) (hc : w.cell? a = some v) (hu : P.underlying ty = some d) (hd : (match d with | .struct _ | .array _ _ => false | _ => true) = true) :
    (loadVar ty a).run P w = .ok v w := by
  have hagg : (isAgg ty).run P w = .ok false w := by
    unfold isAgg
    rw [Sem.run_bind, run_underlying hu w]
    cases d <;> simp_all
  simp [loadVar, Sem.run_bind, hagg, hc]
theorem op_cell {P : Program} {Q : Exit → Act → World → Prop} {o : Oper} {A : Act} {w : World} (ty : TypeId) (x : Operand) (ho : o.op = .load ty x) (b : Addr) (hx : A.eval x = .pointer (some b)) (v : Value) (hc : w.cell? b = some v) (d : TypeDesc) (hu : P.underlying ty = some d)
    (hd : (match d with | .struct _ | .array _ _ => false | _ => true) = true) : o.wp P A w (fun a' w'' => a' = A.put o.dst v ∧ Below w.heap.size w w'') Q := by
  refine op_run ?_
  unfold execOp
  simp only [ho, hx, Instr.loadAt, Instr.sureAddr, Sem.run_bind, Sem.run_pure, Result.andThen_ok, run_loadVar_cell w b ty v d hc hu hd]
theorem op_call1 {P : Program} {Q : Exit → Act → World → Prop} {o : Oper} {A : Act} {w : World} (f : FuncId) (args : Array Value) (hrun : (execOp A.eval o).run P w = .ok (.enter f args) w) (G : Value → World → Prop) (h : Calls P f args w fun e w' => ∃ u, e = .returned u ∧ Below w.heap.size w w' ∧ G u w') :
    o.wp P A w (fun a' w'' => ∃ u, G u w'' ∧ a' = A.put o.dst u ∧ Below w.heap.size w w'') Q := by
  unfold Oper.wp
  rw [hrun, Oper.upon_enter]
  refine h.mono fun e w'' hh => ?_
  obtain ⟨u, rfl, hb, hG⟩ := hh
  exact ⟨u, hG, rfl, hb⟩
theorem op_field2 {Q : Exit → Act → World → Prop} {o : Oper} {A : Act} {w : World} (x : Operand) (ho : o.op = .fieldAddr 31 x 2) (g : Nat) (hx : A.eval x = .pointer (some ⟨g, 0, none⟩)) :
    o.wp Tryd.prog A w (fun a' w'' => a' = A.put o.dst (.pointer (some ⟨g, 9, none⟩)) ∧ Below w.heap.size w w'') Q := by
  have hf : (Instr.fieldAt 31 (.pointer (some ⟨g, 0, none⟩)) 2).run Tryd.prog w = .ok (.pointer (some ⟨g, 9, none⟩)) w := by kernel_rfl
  refine op_run ?_
  unfold execOp
  simp only [ho, hx, Sem.run_bind, hf]
  rfl
/-- The bytes of words, the highest first. -/
def wbytes (H : List Wd) : List UInt8 := H.flatMap fun x => byB (wn x) 4
theorem wbytes_length (H : List Wd) (h : H.length = 8) : (wbytes H).length = 32 := by
  obtain ⟨x0, x1, x2, x3, x4, x5, x6, x7, rfl⟩ := eight H h
  simp [wbytes, byB_length]
theorem wbytes_at (H : List Wd) (h : H.length = 8) (k j : Nat) (hk : k < 8) (hj : j < 4) : (wbytes H).getD (4 * k + j) 0 = UInt8.ofNat (wn (H.getD k 0) / 256 ^ (3 - j) % 256) := by
  have key : ∀ (l : List Wd) (k : Nat), k < l.length → (wbytes l).getD (4 * k + j) 0 = (byB (wn (l.getD k 0)) 4).getD j 0 := by
    intro l
    induction l with
    | nil => intro k hk; cases hk
    | cons x l ih =>
      intro k hk
      have e : wbytes (x :: l) = byB (wn x) 4 ++ wbytes l := rfl
      rw [e]
      cases k with
      | zero => simp [List.getD, List.getElem?_append_left, byB_length, hj]
      | succ k =>
        have := ih k (by simpa using hk)
        simp only [List.getD, List.getElem?_cons_succ] at this ⊢
        rw [← this, List.getElem?_append_right (by rw [byB_length]; omega), byB_length]
        congr 2
        omega
  rw [key H k (by omega), byB_at (wn (H.getD k 0)) 4 j hj]

theorem index_W8 (l : List Wd) (k : Nat) (hl : l.length = 8) (hk : k < 8) (w : World) :
    (Instr.index 25 (.agg (u32c l)) (.int .i64 k)).run Tryd.prog w = .ok (.int .u32 (wn (l.getD k 0))) w := by
  obtain ⟨i, hi⟩ := Option.isSome_iff_exists.1 (show (Tryd.prog.info? 24).isSome = true by kernel_rfl)
  have hs : i.size = 1 := by
    have h : (Tryd.prog.info? 24).map (·.size) = some 1 := by kernel_rfl
    rw [hi] at h
    simpa using h
  exact index_arr (by kernel_rfl) Tryd.underlying25 hi hs hk (u32c_at l k (by omega)) w
/-- What holds of what End's third region yields. -/
def EndF (g : Nat) (SE : Array Value) (ne : Nat) (HF : List Wd) : Nat → Value → World → Prop
  | 0, u, _ => u = .agg SE
  | 1, u, _ => u = .pointer (some ⟨g, 9, none⟩)
  | 2, u, _ => u = .int .u64 ne
  | 3, u, w => ∃ p, u = .slice (some ⟨p, 0, none⟩) (padOf ne).length (padOf ne).length ∧ Blk w p 5 (u8cells (padOf ne))
  | 4, u, _ => ∃ a l c N, u = .agg (stC HF (.slice a l c) N)
  | _, _, _ => True
theorem EndF.keep {g : Nat} {SE : Array Value} {ne : Nat} {HF : List Wd} : ∀ j u w1 w2, EndF g SE ne HF j u w1 → Below w1.heap.size w1 w2 → EndF g SE ne HF j u w2
  | 0, _, _, _, h, _ => h
  | 1, _, _, _, h, _ => h
  | 2, _, _, _, h, _ => h
  | 3, _, _, _, ⟨p, h1, h2⟩, hb => ⟨p, h1, h2.calls hb⟩
  | 4, _, _, _, h, _ => h
  | _ + 5, _, _, _, h, _ => h

set_option maxRecDepth 100000 in
set_option maxHeartbeats 4000000 in
theorem End_any (H : List Wd) (hH : H.length = 8) (a : Option Addr) (rest : List UInt8) (len c n : Nat) (hn : n < W64) (hrl : rest.length = len) (hlc : len ≤ c) (hcm : c ≤ maxLen) (w : World) (hrr : RdS w a rest) (hL : Laid w) :
    Calls Tryd.prog 23 #[.agg (stC H (.slice a len c) n)] w fun e w' => e = .returned (.agg (u8cells (wbytes (absH (effH H len n) (effR rest len n ++ padOf (effN len n)))))) ∧ Below w.heap.size w w' := by
  have hl9 : len ≤ 9223372036854775807 := by unfold maxLen at hcm; omega
  obtain ⟨b, hb⟩ : ∃ b, decide (len = n % 64) = b := ⟨_, rfl⟩
  have iS := isSt10 (stC H (.slice a len c) n) (stC_size _ _ _ hH)
  have cS := fun w => Sane_any H hH a len c n hn hl9 b hb w
  obtain ⟨S, hS⟩ : ∃ S, S = stC H (.slice a len c) n := ⟨_, rfl⟩
  have sS : S.size = 10 := by rw [hS]; exact stC_size _ _ _ hH
  rw [← hS] at iS cS ⊢
  obtain ⟨ae, ce, hae, hce1, hce2, hrae⟩ : ∃ (ae : Option Addr) (ce : Nat), ((b = true ∧ ae = a ∧ ce = c) ∨ (b = false ∧ ae = none ∧ ce = 0)) ∧ (effR rest len n).length ≤ ce ∧ ce ≤ maxLen ∧ RdS w ae (effR rest len n) := by
    cases hbb : b with
    | true =>
      have : len = n % 64 := by rw [hbb] at hb; simpa using hb
      refine ⟨a, c, .inl ⟨rfl, rfl, rfl⟩, ?_, hcm, ?_⟩ <;> simp only [effR, if_pos this]
      · omega
      · exact hrr
    | false =>
      have : ¬ len = n % 64 := by rw [hbb] at hb; simpa using hb
      refine ⟨none, 0, .inr ⟨rfl, rfl, rfl⟩, ?_, Nat.zero_le _, ?_⟩ <;> simp only [effR, if_neg this]
      · exact Nat.le_refl _
      · exact .inl rfl
  obtain ⟨SE, hSE⟩ : ∃ SE, SE = stC (effH H len n) (.slice ae (effR rest len n).length ce) (effN len n) := ⟨_, rfl⟩
  have hcase : (b = true ∧ S = SE) ∨ (b = false ∧ stC HI (.slice none 0 0) 0 = SE) := by
    rcases hae with ⟨h1, h2, h3⟩ | ⟨h1, h2, h3⟩
    · have : len = n % 64 := by rw [h1] at hb; simpa using hb
      exact .inl ⟨h1, by rw [hS, hSE, h2, h3]; simp only [effH, effR, effN, if_pos this, hrl]⟩
    · have : ¬ len = n % 64 := by rw [h1] at hb; simpa using hb
      exact .inr ⟨h1, by rw [hSE, h2, h3]; simp only [effH, effR, effN, if_neg this]; rfl⟩
  have hHe : (effH H len n).length = 8 := by unfold effH; split; exact hH; exact HI_length
  have hne : effN len n < W64 := by unfold effN; split; exact hn; exact W64_pos
  have hsane : (effR rest len n).length = effN len n % 64 := by unfold effR effN; split <;> simp_all
  clear hae hl9 hrl hlc hcm hrr hS
  generalize effH H len n = He at *
  generalize effR rest len n = Re at *
  generalize effN len n = ne at *
  obtain ⟨HF, hHF⟩ : ∃ HF, HF = absH He (Re ++ padOf ne) := ⟨_, rfl⟩
  have hHFl : HF.length = 8 := by rw [hHF]; exact absH_length _ _ hHe
  rw [← hHF]
  obtain ⟨L, hLb⟩ : ∃ L, L = wbytes HF := ⟨_, rfl⟩
  rw [← hLb]
  have FL := Lib.hid hLb; clear hLb
  have sE : SE.size = 10 := by rw [hSE]; exact stC_size _ _ _ hHe
  have iE := isSt10 SE sE
  have aE : SE.all (·.oneCell') = true := by rw [hSE]; exact stC_one _ _ _ _ _
  have sSE : S.size = SE.size := by rw [sS, sE]
  have cW := fun (w2 : World) (hb : Below w.heap.size w w2) (p : Nat) (hp : Blk w2 p 5 (u8cells (padOf ne))) =>
    Write_any He hHe ae Re Re.length ce ne hne rfl hce1 hce2 (some ⟨p, 0, none⟩) (padOf ne) (padOf ne).length (padOf ne).length rfl (Nat.le_refl _) (by rw [padOf_length]; unfold zerosOf; split <;> omega) (fun h => by cases h) w2 (hrae.below hb (Nat.le_refl _)) (.inr ⟨p, 0, rfl, hp.lt, fun i hi => (hp.cell (0 + i)).trans (by rw [Nat.zero_add]; exact u8cells_at _ i hi)⟩) (hL.below hb (Nat.le_refl _))
  have F := Lib.hid (And.intro hSE (And.intro hHF (And.intro hHFl (And.intro hL (And.intro hHe (And.intro hne hsane)))))); clear hSE hHF hHFl hL hHe hne hsane hrae hb
  have CS := Lib.hid cS; clear cS
  have CW := Lib.hid cW; clear cW
  go_enter Tryd.func23, Tryd.ntmps23
  go_wp2_with (with_reducible refine wl_st ((Blk.newAt w _ S rfl).alloc _) _ _ rfl rfl rfl _ Tryd.underlying31 iS ?_)
  refine (CS.out _).mono ?_
  rintro e w1 ⟨rfl, hb1⟩
  obtain ⟨H0, hH0⟩ : ∃ H0, H0 = Array.replicate 32 (Value.int .u8 0) := ⟨_, rfl⟩
  have A0 : Blk w1 w.heap.size 31 S := ((Blk.newAt w _ S rfl).alloc _).calls hb1
  have A1 : Blk w1 (w.heap.size + 1) 38 H0 := by rw [hH0]; exact (Blk.second w _ _ _).calls hb1
  have AB : Below w.heap.size w w1 := bt (ba (ba (Below.refl _ _) _) _) hb1
  have z0 := A0.lt
  have z1 := A1.lt
  clear hb1
  have HH0 := Lib.hid hH0; clear hH0
  go_upto_if 8 with fail
  go_cut [] (fun wx => Blk wx w.heap.size 31 SE ∧ Blk wx (w.heap.size + 1) 38 H0 ∧ Below w.heap.size w wx)
  case first =>
    rcases hcase with ⟨h1, h2⟩ | ⟨h1, h2⟩
    · subst h1
      rw [h2] at A0
      have HA := Lib.hid (And.intro A0 (And.intro A1 AB)); clear A0 A1 AB h2
      go_wp2_with fail
      go_meet
      exact HA.out
    · subst h1
      have HA := Lib.hid (And.intro A0 (And.intro A1 AB)); clear A0 A1 AB
      have h2' := Lib.hid h2; clear h2
      go_wp2_with fail
      refine (Start_any _ (F.out.2.2.2.1.below HA.out.2.2 (Nat.le_refl _))).mono ?_
      rintro e w2 ⟨rfl, hb2⟩
      rw [h2'.out]
      have B0 := HA.out.1.calls hb2
      have B1 := HA.out.2.1.calls hb2
      have BB := bt HA.out.2.2 hb2
      have HB := Lib.hid (And.intro B0 (And.intro B1 BB)); clear B0 B1 BB hb2 HA
      go_wp2_with (with_reducible refine ws_row HB.out.1 _ _ _ _ rfl rfl rfl rfl iE sSE aE ?_)
      go_meet
      exact ⟨HB.out.1.row _, HB.out.2.1.rowFar (by omega) _, setRow_below HB.out.2.2 (by omega) _⟩
  case rest =>
    obtain ⟨B0, B1, BB⟩ := hcut
    clear hcase sSE iS A0 A1 AB CS z0 z1
    have z0 := B0.lt
    have z1 := B1.lt
    have B := Lib.hid (And.intro B0 (And.intro B1 BB)); clear B0 B1 BB
    go_wp2_with fail
    refine wp_region_vals [some 10, some 11, some 12, some 13, some 14, none] (EndF w.heap.size SE ne HF) 5 (fun w' => ∃ a l c N, Blk w' w.heap.size 31 (stC HF (.slice a l c) N) ∧ Blk w' (w.heap.size + 1) 38 H0 ∧ Below w.heap.size w w') EndF.keep (by kernel_rfl) rfl rfl rfl rfl rfl rfl ⟨
      .inr ⟨rfl, fun A w' γ hb hf hs => Oper.wp_mono (by rintro a' w'' ⟨h1, h2⟩; exact ⟨_, h1, h2, rfl⟩) (wp_load_row (K := fun a' w'' => a' = A.put (some 10) (.agg SE) ∧ Below w'.heap.size w' w'') 31 (.tmp 1) rfl w.heap.size ((hs.2 1 rfl).trans rfl) 31 SE (0, 0) _ (B.out.1.below hb z0) Tryd.underlying31 rfl iE ⟨rfl, Below.refl _ _⟩)⟩,
      .inr ⟨rfl, fun A w' γ hb hf hs => Oper.wp_mono (by rintro a' w'' ⟨h1, h2⟩; exact ⟨_, h1, h2, rfl⟩) (op_field2 (.tmp 1) rfl w.heap.size ((hs.2 1 rfl).trans rfl))⟩,
      .inr ⟨rfl, fun A w' γ hb hf hs => Oper.wp_mono (by rintro a' w'' ⟨h1, h2⟩; exact ⟨_, h1, h2, rfl⟩) (op_cell 27 (.tmp 11) rfl ⟨w.heap.size, 9, none⟩ ((hs.1 1 rfl 11 rfl).trans (hf 1 rfl)) (.int .u64 ne) (by rw [(B.out.1.below hb z0).cell, F.out.1]; exact stC_num _ _ _ F.out.2.2.2.2.1) _ Tryd.underlying27 rfl)⟩,
      .inr ⟨rfl, fun A w' γ hb hf hs => Oper.wp_mono (by rintro a' w'' ⟨u, ⟨p, h1, h4⟩, h2, h3⟩; exact ⟨u, h2, h3, p, h1, h4⟩) (op_call1 26 _ (exec_call _ 26 _ rfl rfl (margs1 (show A.eval (.tmp 12) = _ from (hs.1 2 rfl 12 rfl).trans (hf 2 rfl))) Tryd.func26 rfl rfl) (fun u w'' => ∃ p, u = .slice (some ⟨p, 0, none⟩) (padOf ne).length (padOf ne).length ∧ Blk w'' p 5 (u8cells (padOf ne))) ((Pad_any ne F.out.2.2.2.2.2.1 _ rfl w').mono (by rintro e w'' ⟨rfl, h1, h2⟩; exact ⟨_, rfl, h1, _, rfl, h2⟩)))⟩,
      .inr ⟨rfl, fun A w' γ hb hf hs => by
        obtain ⟨p, hp1, hp2⟩ := hf 3 rfl
        refine Oper.wp_mono ?_ (op_call1 22 _ (exec_call _ 22 _ rfl rfl (margs2 (show A.eval (.tmp 10) = _ from (hs.1 0 rfl 10 rfl).trans (hf 0 rfl)) (show A.eval (.tmp 13) = _ from (hs.1 3 rfl 13 rfl).trans hp1)) Tryd.func22 rfl rfl) (fun u w'' => ∃ a l c N, u = .agg (stC HF (.slice a l c) N)) ?_)
        · rintro a' w'' ⟨u, h1, h2, h3⟩
          exact ⟨u, h2, h3, h1⟩
        · rw [F.out.1]
          refine (CW.out w' (bt B.out.2.2 hb) p hp2).mono ?_
          rintro e w'' ⟨a2, c2, rfl, _, _, _, hb2⟩
          refine ⟨_, rfl, hb2, a2, (absR (Re ++ padOf ne)).length, c2, (ne + (padOf ne).length) % W64, ?_⟩
          rw [F.out.2.1]
          simp only [effH, effR, effN, if_pos F.out.2.2.2.2.2.2]⟩,
      .inl ⟨rfl, rfl, fun A w' γ hb hf hs => by
        obtain ⟨a2, l2, c2, N2, hu⟩ := hf 4 (by omega)
        have s10 : (stC HF (.slice a2 l2 c2) N2).size = 10 := stC_size _ _ _ F.out.2.2.1
        refine wp_store_row 31 (.tmp 1) (.tmp 14) rfl w.heap.size (stC HF (.slice a2 l2 c2) N2) ((hs.2 1 rfl).trans rfl) ((hs.1 4 rfl 14 rfl).trans hu) 31 SE (B.out.1.below hb z0) (isSt10 _ s10) (by rw [sE, s10]) (stC_one _ _ _ _ _) ⟨undef, rfl, a2, l2, c2, N2, ?_, ?_, ?_⟩
        · exact (B.out.1.below hb z0).row _
        · exact (B.out.2.1.below hb z1).rowFar (by omega) _
        · exact setRow_below (bt B.out.2.2 hb) (Nat.le_refl _) _⟩, trivial⟩ ?_
    rintro γ wt ⟨at', lt, ct, Nt, hT1, hT2, hT3⟩
    simp only [Fr, if_true, Act.put, List.setIfInBounds_toArray, List.set_cons_zero, List.set_cons_succ, List.getD_cons_zero, List.getD_cons_succ]
    generalize γ 0 = s10
    generalize γ 1 = s11
    generalize γ 2 = s12
    generalize γ 3 = s13
    generalize γ 4 = s14
    have hLb := FL.out
    have hLl : L.length = 32 := by rw [hLb]; exact wbytes_length HF F.out.2.2.1
    have i8H := is8 (u32c HF) (by rw [u32c_size, F.out.2.2.1])
    have zt0 := hT1.lt
    have zt1 := hT2.lt
    have TT := Lib.hid (And.intro hT1 (And.intro hT2 (And.intro hT3 (And.intro hLb (And.intro hLl F.out.2.2.1))))); clear hT1 hT2 hT3 hLb hLl B
    go_wp2_with (refine wpList_load_mid rfl _ _ rfl w.heap.size 0 rfl (u32c HF).toList _ (words_range (TT.out.1.alloc _) TT.out.2.2.2.2.2) Tryd.underlying25 rfl (by simpa using i8H) ?_)
    go_loopw [17] (fun i wr => ∃ k : Nat, k ≤ 8 ∧ i = .int .i64 k ∧ Blk wr wt.heap.size 38 (partB L (4 * k)) ∧ Blk wr (w.heap.size + 1) 38 H0 ∧ Below w.heap.size w wr) (fun i _ => 8 - (intOf i).toNat)
    case atStart =>
      refine ⟨0, by omega, rfl, ?_, TT.out.2.1.alloc _, ba TT.out.2.2.1 _⟩
      rw [Nat.mul_zero, partB_zero, TT.out.2.2.2.2.1]
      exact Blk.new wt _ _
    case round =>
      obtain ⟨k, hk, rfl, h0, h1, hb⟩ := hrel
      by_cases hlt : k < 8
      · obtain ⟨p0, hp0⟩ : ∃ p, p = 4 * k := ⟨_, rfl⟩
        obtain ⟨p1, hp1⟩ : ∃ p, p = p0 + 1 := ⟨_, rfl⟩
        obtain ⟨p2, hp2⟩ : ∃ p, p = p0 + 2 := ⟨_, rfl⟩
        obtain ⟨p3, hp3⟩ : ∃ p, p = p0 + 3 := ⟨_, rfl⟩
        obtain ⟨x, hx⟩ : ∃ x, x = HF.getD k 0 := ⟨_, rfl⟩
        obtain ⟨X, hX⟩ : ∃ X, X = wn x := ⟨_, rfl⟩
        have hix := fun w => index_W8 HF k TT.out.2.2.2.2.2 hlt w
        rw [← hx, ← hX] at hix
        obtain ⟨y0, hy0⟩ : ∃ y, y = (L.getD p0 0).toNat := ⟨_, rfl⟩
        obtain ⟨y1, hy1⟩ : ∃ y, y = (L.getD p1 0).toNat := ⟨_, rfl⟩
        obtain ⟨y2, hy2⟩ : ∃ y, y = (L.getD p2 0).toNat := ⟨_, rfl⟩
        obtain ⟨y3, hy3⟩ : ∃ y, y = (L.getD p3 0).toNat := ⟨_, rfl⟩
        have q0 : (X : Int) / 16777216 % 256 = (y0 : Int) := by
          rw [hy0, hp0, TT.out.2.2.2.1, ← Nat.add_zero (4 * k), wbytes_at HF TT.out.2.2.2.2.2 k 0 hlt (by omega), ← hx, ← hX]
          simp
        have q1 : (X : Int) / 65536 % 256 = (y1 : Int) := by
          rw [hy1, hp1, hp0, TT.out.2.2.2.1, wbytes_at HF TT.out.2.2.2.2.2 k 1 hlt (by omega), ← hx, ← hX]
          simp
        have q2 : (X : Int) / 256 % 256 = (y2 : Int) := by
          rw [hy2, hp2, hp0, TT.out.2.2.2.1, wbytes_at HF TT.out.2.2.2.2.2 k 2 hlt (by omega), ← hx, ← hX]
          simp
        have q3 : (X : Int) % 256 = (y3 : Int) := by
          rw [hy3, hp3, hp0, TT.out.2.2.2.1, wbytes_at HF TT.out.2.2.2.2.2 k 3 hlt (by omega), ← hx, ← hX]
          simp
        have i0 : (4 : Int) * (k : Int) = (p0 : Int) := by omega
        have i1 : (p0 : Int) + 1 = (p1 : Int) := by omega
        have i2 : (p0 : Int) + 2 = (p2 : Int) := by omega
        have i3 : (p0 : Int) + 3 = (p3 : Int) := by omega
        have b0 : p0 < 32 := by omega
        have b1 : p1 < 32 := by omega
        have b2 : p2 < 32 := by omega
        have b3 : p3 < 32 := by omega
        have n01 : p1 ≠ p0 := by omega
        have n02 : p2 ≠ p0 := by omega
        have n03 : p3 ≠ p0 := by omega
        have n12 : p2 ≠ p1 := by omega
        have n13 : p3 ≠ p1 := by omega
        have n23 : p3 ≠ p2 := by omega
        rw [← hp0] at h0
        obtain ⟨v0, hv0⟩ := partB_at L p0 p0 (by rw [TT.out.2.2.2.2.1]; exact b0)
        obtain ⟨v1, hv1⟩ := partB_at L p0 p1 (by rw [TT.out.2.2.2.2.1]; exact b1)
        obtain ⟨v2, hv2⟩ := partB_at L p0 p2 (by rw [TT.out.2.2.2.2.1]; exact b2)
        obtain ⟨v3, hv3⟩ := partB_at L p0 p3 (by rw [TT.out.2.2.2.2.1]; exact b3)
        have c0 := blk_get h0 p0 _ hv0
        have c1 := blk_get h0 p1 _ hv1
        have c2 := blk_get h0 p2 _ hv2
        have c3 := blk_get h0 p3 _ hv3
        have f0 := h0.frozen p0
        have f1 := h0.frozen p1
        have f2 := h0.frozen p2
        have f3 := h0.frozen p3
        have hki : (k : Int) < 8 := by omega
        have HR := Lib.hid (And.intro h0 (And.intro h1 (And.intro hb (And.intro hp0 (And.intro hp1 (And.intro hp2 (And.intro hp3 (And.intro hy0 (And.intro hy1 (And.intro hy2 (And.intro hy3 (And.intro hx hX)))))))))))); clear h0 h1 hb hp0 hp1 hp2 hp3 hy0 hy1 hy2 hy3 hx hX hv0 hv1 hv2 hv3
        go_wp2
        obtain ⟨h0, h1, hb, hp0, hp1, hp2, hp3, hy0, hy1, hy2, hy3, hx, hX⟩ := HR.out
        go_roundw
        case rel =>
          refine ⟨k + 1, by omega, by go_num, ?_, (((h1.far (by omega) _).far (by omega) _).far (by omega) _).far (by omega) _, (((hb.setCell (by simp; omega) _).setCell (by simp; omega) _).setCell (by simp; omega) _).setCell (by simp; omega) _⟩
          have hLl := TT.out.2.2.2.2.1
          have s0 := partB_set L p0 (by omega)
          have s1 := partB_set L p1 (by omega)
          have s2 := partB_set L p2 (by omega)
          have s3 := partB_set L p3 (by omega)
          rw [← hy0, ← hp1] at s0
          rw [← hy1, show p1 + 1 = p2 by omega] at s1
          rw [← hy2, show p2 + 1 = p3 by omega] at s2
          rw [← hy3] at s3
          rw [show 4 * (k + 1) = p3 + 1 by omega, ← s3, ← s2, ← s1, ← s0]
          exact (((h0.set_ p0 _).set_ p1 _).set_ p2 _).set_ p3 _
        case measure => simp [intOf]; omega
      · obtain rfl : k = 8 := by omega
        rw [show 4 * 8 = 32 from rfl, partB_full L 32 TT.out.2.2.2.2.1] at h0
        obtain ⟨C, hC⟩ : ∃ C, C = u8cells L := ⟨_, rfl⟩
        rw [← hC] at h0
        have sC : C.size = 32 := by rw [hC, u8cells_size]; exact TT.out.2.2.2.2.1
        have iC : (Tryd.prog.info? 38).map (·.size) = some C.size := by rw [sC]; kernel_rfl
        have s1 : H0.size = C.size := by rw [sC, HH0.out]; simp
        have aC : C.all (·.oneCell') = true := by rw [hC]; exact u8cells_one L
        have HR := Lib.hid (And.intro h0 (And.intro h1 (And.intro hb hC))); clear h0 h1 hb hC sC
        go_wp2_with (first | with_reducible refine wl_row HR.out.1 _ _ rfl rfl rfl _ _ Tryd.underlying38 iC ?_ | with_reducible refine ws_row HR.out.2.1 _ _ _ _ rfl rfl rfl rfl iC s1 aC ?_)
        obtain ⟨h0, h1, hb, hC⟩ := HR.out
        refine bodyPost_ret (v := .agg C) ?_ rfl ⟨by rw [hC], setRow_below hb (by omega) _⟩
        exact results_cell_row rfl _ _ _ _ _ (0, 0) _ rfl (h1.row _) Tryd.underlying38 rfl iC
end Go.Proofs.YtfebknplkbeblaaDoor

namespace Go.Proofs.YtfebknplkbeblaaDoor
open Go.RowKit
set_option linter.unusedVariables false

/-- A text's sum. -/
def sumOf (t : List UInt8) : List UInt8 := wbytes (absH HI (t ++ padOf (t.length % W64)))
theorem sumOf_length (t : List UInt8) : (sumOf t).length = 32 := wbytes_length _ (absH_length _ _ HI_length)
theorem End_at (v : Value) (txt : List UInt8) (w : World) (hv : StAt w v txt) (hL : Laid w) :
    Calls Tryd.prog 23 #[v] w fun e w' => e = .returned (.agg (u8cells (sumOf txt))) ∧ Below w.heap.size w w' := by
  obtain ⟨a, c, rfl, hra, h1, h2⟩ := hv
  have hs : (absR txt).length = txt.length % W64 % 64 := by rw [absR_length]; unfold W64; omega
  have h := End_any (absH HI txt) (absH_length _ _ HI_length) a (absR txt) _ c (txt.length % W64) (Nat.mod_lt _ W64_pos) rfl h1 h2 w hra hL
  simp only [effH, effR, effN, if_pos hs] at h
  rw [← absH_app] at h
  exact h
set_option maxRecDepth 100000 in
set_option maxHeartbeats 400000 in
theorem Sum_any (a' : Option Addr) (t : List UInt8) (m c' : Nat) (hm : t.length = m) (hc : m ≤ c') (hc2 : m ≤ 140737488355328 ∧ c' ≤ 9223372036854775807) (hno : a' = none → m = 0 ∧ c' = 0) (w : World) (hr : RdS w a' t) (hL : Laid w) :
    Calls Tryd.prog 24 #[.slice a' m c'] w fun e w' => e = .returned (.agg (u8cells (sumOf t))) ∧ Below w.heap.size w w' := by
  obtain ⟨C, hC⟩ : ∃ C, C = u8cells (sumOf t) := ⟨_, rfl⟩
  have sC : C.size = 32 := by rw [hC, u8cells_size]; exact sumOf_length t
  have iC : (Tryd.prog.info? 38).map (·.size) = some C.size := by rw [sC]; kernel_rfl
  have aC : C.all (·.oneCell') = true := by rw [hC]; exact u8cells_one _
  obtain ⟨H0, hH0⟩ : ∃ H0, H0 = Array.replicate 32 (Value.int .u8 0) := ⟨_, rfl⟩
  have s1 : H0.size = C.size := by rw [sC, hH0]; simp
  rw [← hC]
  have F := Lib.hid (And.intro hm (And.intro hr (And.intro hL (And.intro hC hH0)))); clear hm hr hL hC hH0 sC
  go_enter Tryd.func24, Tryd.ntmps24
  go_wp2_with fail
  refine (Start_any _ (F.out.2.2.1.below (ba (Below.refl _ _) _) (Nat.le_refl _))).mono ?_
  rintro e w1 ⟨rfl, hb1⟩
  have A0 : Blk w1 w.heap.size 38 H0 := by rw [F.out.2.2.2.2]; exact (Blk.new w _ _).calls hb1
  have AB : Below w.heap.size w w1 := bt (ba (Below.refl _ _) _) hb1
  have A := Lib.hid (And.intro A0 AB); clear A0 AB hb1
  go_wp2_with fail
  refine (Write_at _ [] a' t m c' F.out.1 hc hc2 hno w1 (StAt.start w1) (F.out.2.1.below A.out.2 (Nat.le_refl _)) (F.out.2.2.1.below A.out.2 (Nat.le_refl _))).mono ?_
  rintro e w2 ⟨v2, rfl, hv2, hb2⟩
  rw [List.nil_append] at hv2
  have B := Lib.hid (And.intro (A.out.1.calls hb2) (And.intro (bt A.out.2 hb2) hv2)); clear hb2 hv2 A
  go_wp2_with fail
  refine (End_at v2 t w2 B.out.2.2 (F.out.2.2.1.below B.out.2.1 (Nat.le_refl _))).mono ?_
  rintro e w3 ⟨rfl, hb3⟩
  rw [← F.out.2.2.2.1]
  have D := Lib.hid (And.intro (B.out.1.calls hb3) (bt B.out.2.1 hb3)); clear hb3 B
  go_wp2_with (with_reducible refine ws_row D.out.1 _ _ _ _ rfl rfl rfl rfl iC s1 aC ?_)
  refine bodyPost_ret (v := .agg C) ?_ rfl ⟨rfl, setRow_below D.out.2 (Nat.le_refl _) _⟩
  exact results_cell_row rfl _ _ _ _ _ (0, 0) _ rfl (D.out.1.row _) Tryd.underlying38 rfl iC
end Go.Proofs.YtfebknplkbeblaaDoor

namespace Go.Proofs.YtfebknplkbeblaaDoor
open Go.RowKit
set_option linter.unusedVariables false
set_option maxRecDepth 100000 in
theorem abc_sum : sumOf [97, 98, 99] = [0xba, 0x78, 0x16, 0xbf, 0x8f, 0x01, 0xcf, 0xea, 0x41, 0x41, 0x40, 0xde, 0x5d, 0xae, 0x22, 0x23, 0xb0, 0x03, 0x61, 0xa3, 0x96, 0x17, 0x7a, 0x9c, 0xb4, 0x10, 0xff, 0x61, 0xf2, 0x00, 0x15, 0xad] := by
  decide +kernel
theorem abc_at : (u8cells (sumOf [97, 98, 99]))[0]? = some (.int .u8 186) ∧ (u8cells (sumOf [97, 98, 99]))[1]? = some (.int .u8 120) ∧ (u8cells (sumOf [97, 98, 99]))[31]? = some (.int .u8 173) := by
  rw [abc_sum]
  exact ⟨rfl, rfl, rfl⟩
set_option maxRecDepth 100000 in
set_option maxHeartbeats 1000000 in
theorem Awake02 (w : World) (hL : Laid w) : Calls Tryd.prog 13 #[] w fun e w' => e = .returned (.bool true) ∧ Below w.heap.size w w' := by
  have HL := Lib.hid hL; clear hL
  obtain ⟨C, hC⟩ : ∃ C, C = u8cells (sumOf [97, 98, 99]) := ⟨_, rfl⟩
  obtain ⟨e0, e1, e2⟩ := abc_at
  rw [← hC] at e0 e1 e2
  have sC : C.size = 32 := by rw [hC, u8cells_size]; exact sumOf_length _
  have iC : (Tryd.prog.info? 38).map (·.size) = some C.size := by rw [sC]; kernel_rfl
  have aC : C.all (·.oneCell') = true := by rw [hC]; exact u8cells_one _
  have E := Lib.hid (And.intro hC (And.intro e0 (And.intro e1 e2))); clear hC e0 e1 e2
  have hcv := Lib.run_convert_bytes_const (P := Tryd.prog) w 26 5 #[.int .u8 97, .int .u8 98, .int .u8 99] 3 3 Tryd.underlying26 Tryd.underlying5
  go_enter Tryd.func13, Tryd.ntmps13
  go_wp2_with fail
  refine (Sum_any _ [97, 98, 99] 3 3 rfl (by omega) (by omega) (fun h => by cases h) _ (.inr ⟨w.heap.size, 0, rfl, by simp, fun i hi => ?_⟩) (HL.out.below (ba (Below.refl _ _) _) (Nat.le_refl _))).mono ?_
  · rw [World.cell?_alloc_mark]
    rcases (show i = 0 ∨ i = 1 ∨ i = 2 by simp at hi; omega) with rfl | rfl | rfl <;> rfl
  rintro e w1 ⟨rfl, hb1⟩
  rw [← E.out.1]
  have AB : Below w.heap.size w w1 := bt (ba (Below.refl _ _) _) hb1
  clear hb1
  have N : Blk _ w1.heap.size 38 #[.int .u8 0, .int .u8 0, .int .u8 0, .int .u8 0, .int .u8 0, .int .u8 0, .int .u8 0, .int .u8 0, .int .u8 0, .int .u8 0, .int .u8 0, .int .u8 0, .int .u8 0, .int .u8 0, .int .u8 0, .int .u8 0, .int .u8 0, .int .u8 0, .int .u8 0, .int .u8 0, .int .u8 0, .int .u8 0, .int .u8 0, .int .u8 0, .int .u8 0, .int .u8 0, .int .u8 0, .int .u8 0, .int .u8 0, .int .u8 0, .int .u8 0, .int .u8 0] := Blk.new w1 38 #[.int .u8 0, .int .u8 0, .int .u8 0, .int .u8 0, .int .u8 0, .int .u8 0, .int .u8 0, .int .u8 0, .int .u8 0, .int .u8 0, .int .u8 0, .int .u8 0, .int .u8 0, .int .u8 0, .int .u8 0, .int .u8 0, .int .u8 0, .int .u8 0, .int .u8 0, .int .u8 0, .int .u8 0, .int .u8 0, .int .u8 0, .int .u8 0, .int .u8 0, .int .u8 0, .int .u8 0, .int .u8 0, .int .u8 0, .int .u8 0, .int .u8 0, .int .u8 0]
  have s1 : (Array.size (#[.int .u8 0, .int .u8 0, .int .u8 0, .int .u8 0, .int .u8 0, .int .u8 0, .int .u8 0, .int .u8 0, .int .u8 0, .int .u8 0, .int .u8 0, .int .u8 0, .int .u8 0, .int .u8 0, .int .u8 0, .int .u8 0, .int .u8 0, .int .u8 0, .int .u8 0, .int .u8 0, .int .u8 0, .int .u8 0, .int .u8 0, .int .u8 0, .int .u8 0, .int .u8 0, .int .u8 0, .int .u8 0, .int .u8 0, .int .u8 0, .int .u8 0, .int .u8 0] : Array Value)) = C.size := by rw [sC]; rfl
  have R := N.row C
  have c0 := blk_get R 0 _ E.out.2.1
  have c1 := blk_get R 1 _ E.out.2.2.1
  have c2 := blk_get R 31 _ E.out.2.2.2
  have RB := setRow_below (ba AB (.cells #[.int .u8 0, .int .u8 0, .int .u8 0, .int .u8 0, .int .u8 0, .int .u8 0, .int .u8 0, .int .u8 0, .int .u8 0, .int .u8 0, .int .u8 0, .int .u8 0, .int .u8 0, .int .u8 0, .int .u8 0, .int .u8 0, .int .u8 0, .int .u8 0, .int .u8 0, .int .u8 0, .int .u8 0, .int .u8 0, .int .u8 0, .int .u8 0, .int .u8 0, .int .u8 0, .int .u8 0, .int .u8 0, .int .u8 0, .int .u8 0, .int .u8 0, .int .u8 0] 38)) (show w.heap.size ≤ w1.heap.size from AB.size) C
  have A := Lib.hid (And.intro AB (And.intro N RB)); clear AB N R RB sC
  go_wp2_with (with_reducible refine ws_row A.out.2.1 _ _ _ _ rfl rfl rfl rfl iC s1 aC ?_)
  go_ret
  exact ⟨rfl, A.out.2.2⟩
end Go.Proofs.YtfebknplkbeblaaDoor

namespace Go.Proofs.YtfebknplkbeblaaDoor
open Go.RowKit
set_option linter.unusedVariables false

section
variable {P : Program} {Q : Exit → Act → World → Prop} {o : Oper} {A : Act} {w : World} {u : Value}
theorem op_fieldK (T : TypeId) (x : Operand) (k off : Nat) (ho : o.op = .fieldAddr T x k) (g : Nat) (hx : A.eval x = .pointer (some ⟨g, 0, none⟩)) (hf : ∀ (g : Nat) (w : World), (Instr.fieldAt T (.pointer (some ⟨g, 0, none⟩)) k).run P w = .ok (.pointer (some ⟨g, off, none⟩)) w) :
    o.wp P A w (fun a' w'' => a' = A.put o.dst (.pointer (some ⟨g, off, none⟩)) ∧ Below w.heap.size w w'') Q := by
  refine op_run ?_
  unfold execOp
  simp only [ho, hx, Sem.run_bind, hf]
  rfl
theorem op_conv (src dst : TypeId) (x : Operand) {v : Value} (ho : o.op = .convert src dst x) (hx : A.eval x = v) (hrun : (convert src dst v).run P w = .ok u w) : o.wp P A w (fun a' w'' => a' = A.put o.dst u ∧ Below w.heap.size w w'') Q := by
  refine op_run ?_
  unfold execOp
  simp only [ho, hx, Sem.run_bind, hrun]
  rfl
end
theorem str_of {w : World} {a : Option Addr} {r : List UInt8} {len c : Nat} (h : RdS w a r) (hl : r.length = len) : (convert 26 9 (.slice a len c)).run Tryd.prog w = .ok (.string (bstr r)) w := by
  rcases h with rfl | ⟨g, off, rfl, hg, hr⟩
  · subst hl
    cases a with
    | none => exact run_convert_bytes_nil w 26 5 Tryd.underlying26 Tryd.underlying5 0 c 9 Tryd.underlying9
    | some p =>
      have h0 : (loadCells p 0).run Tryd.prog w = .ok #[] w := run_loadCells_list (P := Tryd.prog) w p [] (fun j v hj => by simp at hj)
      have h1 := run_bytesToString (P := Tryd.prog) w p 0 c [] (by simpa using h0)
      rw [List.length_nil, run_convert_bytes_string w 26 9 5 _ 0 c Tryd.underlying26 Tryd.underlying5 Tryd.underlying9, h1]
      rfl
  · have e := run_convert_bytes_arg (P := Tryd.prog) w 26 5 Tryd.underlying26 Tryd.underlying5 g off len c (r.map fun c => (c.toNat : Int)) (by simpa using hl) (fun i hi => ?_) 9 Tryd.underlying9
    · rw [e, strOf_u8]
    · rw [hr i (by omega)]
      have : i < r.length := by omega
      simp [List.getD, List.getElem?_eq_getElem this]
theorem eqW (H : List Wd) (hH : H.length = 8) (w : World) : (Op.equalIn 10000 25 (.agg (u32c H)) (.agg (u32c H))).run Tryd.prog w = .ok true w := by
  obtain ⟨i, hi⟩ := Option.isSome_iff_exists.1 (show (Tryd.prog.info? 24).isSome = true by kernel_rfl)
  exact run_eqInts w .u32 .u32 (by kernel_rfl) Tryd.underlying24 Tryd.underlying25 hi (by kernel_rfl) (fun i => (wn (H.getD i 0) : Int)) (fun i => (wn (H.getD i 0) : Int)) _ _ (fun i hi => ⟨u32c_at H i (by omega), u32c_at H i (by omega)⟩) true (by simp)
theorem isRS (c : Array Value) (h : c.size = 10) : (Tryd.prog.info? 29).map (·.size) = some c.size := by rw [h]; kernel_rfl
set_option maxRecDepth 100000 in
theorem Theirs_any (H : List Wd) (hH : H.length = 8) (a : Option Addr) (len c n : Nat) (w : World) :
    Calls Tryd.prog 15 #[.agg (stC H (.slice a len c) n)] w fun e w' => e = .returned (.agg (stC H (.slice a len c) n)) ∧ Below w.heap.size w w' := by
  obtain ⟨x0, x1, x2, x3, x4, x5, x6, x7, rfl⟩ := eight H hH
  rw [stC_lit]
  go_enter Tryd.func15, Tryd.ntmps15
  go_wp2
  refine bodyPost_ret (v := .agg #[.int .u32 (wn x0), .int .u32 (wn x1), .int .u32 (wn x2), .int .u32 (wn x3), .int .u32 (wn x4), .int .u32 (wn x5), .int .u32 (wn x6), .int .u32 (wn x7), .slice a len c, .int .u64 n]) (by simp [results, Tryd.results15, go_sem]) rfl ⟨rfl, ?_⟩
  exact ba (ba (Below.refl _ _) _) _
theorem Theirs_at (v : Value) (txt : List UInt8) (w : World) (h : StAt w v txt) : Calls Tryd.prog 15 #[v] w fun e w' => e = .returned v ∧ Below w.heap.size w w' := by
  obtain ⟨a, c, rfl, hr, h1, h2⟩ := h
  exact Theirs_any _ (absH_length _ _ HI_length) _ _ _ _ w
set_option maxRecDepth 100000 in
set_option maxHeartbeats 1000000 in
theorem Same_true (H : List Wd) (hH : H.length = 8) (a b : Option Addr) (r : List UInt8) (c d n : Nat) (w : World) (ha : RdS w a r) (hb : RdS w b r) :
    Calls Tryd.prog 14 #[.agg (stC H (.slice a r.length c) n), .agg (stC H (.slice b r.length d) n)] w fun e w' => e = .returned (.bool true) ∧ Below w.heap.size w w' := by
  have i8 := is8 (u32c H) (by rw [u32c_size, hH])
  obtain ⟨S, hS⟩ : ∃ S, S = stC H (.slice a r.length c) n := ⟨_, rfl⟩
  obtain ⟨U, hU⟩ : ∃ U, U = stC H (.slice b r.length d) n := ⟨_, rfl⟩
  rw [← hS, ← hU]
  have bb : Below w.heap.size w ((w.alloc (.cells S 29)).alloc (.cells U 29)) := ba (ba (Below.refl _ _) _) _
  have B2 : Blk ((w.alloc (.cells S 29)).alloc (.cells U 29)) w.heap.size 29 S := (Blk.newAt w _ S rfl).alloc _
  have B3 : Blk ((w.alloc (.cells S 29)).alloc (.cells U 29)) (w.heap.size + 1) 29 U := Blk.second w _ _ _
  have s1 := str_of (c := c) (ha.below bb (Nat.le_refl _)) rfl
  have s2 := str_of (c := d) (hb.below bb (Nat.le_refl _)) rfl
  have c1 : S[8]? = some (.slice a r.length c) := by rw [hS]; exact stC_rest H _ n hH
  have c2 : U[8]? = some (.slice b r.length d) := by rw [hU]; exact stC_rest H _ n hH
  have c3 : S[9]? = some (.int .u64 n) := by rw [hS]; exact stC_num H _ n hH
  have c4 : U[9]? = some (.int .u64 n) := by rw [hU]; exact stC_num H _ n hH
  have q := fun w => eqW H hH w
  have r1 : ((w.alloc (.cells S 29)).alloc (.cells U 29)).rangeAt w.heap.size 0 (u32c H).toList := words_range (B2.to hS) hH
  have r2 : ((w.alloc (.cells S 29)).alloc (.cells U 29)).rangeAt (w.heap.size + 1) 0 (u32c H).toList := words_range (B3.to hU) hH
  have R := Lib.hid (And.intro r1 r2); clear r1 r2 hS hU B2 B3 ha hb
  go_enter Tryd.func14, Tryd.ntmps14
  go_wp2_with (first | with_reducible refine wpList_load_mid rfl _ _ rfl w.heap.size 0 rfl (u32c H).toList _ R.out.1 Tryd.underlying25 rfl (by simpa using i8) ?_ | with_reducible refine wpList_load_mid rfl _ _ rfl (w.heap.size + 1) 0 rfl (u32c H).toList _ R.out.2 Tryd.underlying25 rfl (by simpa using i8) ?_)
  go_ret
  exact ⟨rfl, bb⟩
theorem Same_at (v u : Value) (txt : List UInt8) (w : World) (hv : StAt w v txt) (hu : StAt w u txt) :
    Calls Tryd.prog 14 #[v, u] w fun e w' => e = .returned (.bool true) ∧ Below w.heap.size w w' := by
  obtain ⟨a, c, rfl, hr, _, _⟩ := hv
  obtain ⟨b, d, rfl, hs, _, _⟩ := hu
  exact Same_true _ (absH_length _ _ HI_length) a b _ c d _ w hr hs
theorem Theirs_ex (v : Value) (txt : List UInt8) (w : World) (h : StAt w v txt) : Calls Tryd.prog 15 #[v] w fun e w' => ∃ u, e = .returned u ∧ Below w.heap.size w w' ∧ StAt w' u txt :=
  (Theirs_at v txt w h).mono fun _ _ ⟨he, hb⟩ => ⟨v, he, hb, h.below hb⟩
theorem Sane_at (v : Value) (txt : List UInt8) (w : World) (h : StAt w v txt) : Calls Tryd.prog 25 #[v] w fun e w' => e = .returned (.bool true) ∧ Below w.heap.size w w' := by
  obtain ⟨a, c, rfl, hr, h1, h2⟩ := h
  exact Sane_any _ (absH_length _ _ HI_length) a _ c _ (Nat.mod_lt _ W64_pos) (by unfold maxLen at h2; omega) true (by rw [absR_length]; simp; unfold W64; omega) w
theorem StAt.cells {w : World} {v : Value} {txt : List UInt8} (h : StAt w v txt) : ∃ S : Array Value, v = .agg S ∧ S.size = 10 ∧ S.all (·.oneCell') = true := by
  obtain ⟨a, c, rfl, hr, h1, h2⟩ := h
  exact ⟨_, rfl, stC_size _ _ _ (absH_length _ _ HI_length), stC_one _ _ _ _ _⟩
theorem keeps_st (txt : List UInt8) : Keeps fun u w => StAt w u txt := fun _ _ _ h hb => h.below hb
theorem Write_ex (v : Value) (txt t2 : List UInt8) (a' : Option Addr) (t : List UInt8) (m c' : Nat) (he : txt ++ t = t2) (hm : t.length = m) (hc : m ≤ c') (hc2 : m ≤ 140737488355328 ∧ c' ≤ 9223372036854775807) (hno : a' = none → m = 0 ∧ c' = 0) (w : World) (hv : StAt w v txt) (hr : RdS w a' t) (hL : Laid w) :
    Calls Tryd.prog 22 #[v, .slice a' m c'] w fun e w' => ∃ v', e = .returned v' ∧ Below w.heap.size w w' ∧ StAt w' v' t2 := by
  subst he
  exact (Write_at v txt a' t m c' hm hc hc2 hno w hv hr hL).mono fun _ _ ⟨v', h1, h2, h3⟩ => ⟨v', h1, h3, h2⟩
theorem Start_st (w : World) (hL : Laid w) : Calls Tryd.prog 16 #[] w fun e w' => ∃ v', e = .returned v' ∧ Below w.heap.size w w' ∧ StAt w' v' [] :=
  (Start_any w hL).mono fun _ w' ⟨he, hb⟩ => ⟨_, he, hb, StAt.start w'⟩
theorem sumC (t : List UInt8) : ∃ C : Array Value, C = u8cells (sumOf t) ∧ C.size = 32 ∧ (∀ w : World, (Op.equalIn 10000 38 (.agg C) (.agg C)).run Tryd.prog w = .ok true w) :=
  ⟨_, rfl, by rw [u8cells_size]; exact sumOf_length t, fun w => eqH _ _ true (sumOf_length t) (sumOf_length t) (by simp) w⟩
end Go.Proofs.YtfebknplkbeblaaDoor
