/- What the document's Write comes to, of any state. -/
import Derived.Test.YtfebknplkbeblaaDoorRefV
import Derived.Test.YtfebknplkbeblaaDoorRefW
import Derived.Test.YtfebknplkbeblaaDoorSame
import Derived.Test.YtfebknplkbeblaaDoorShaK
namespace Go.Proofs.YtfebknplkbeblaaDoor
open Go.RowKit
set_option linter.unusedVariables false
def RWPost (w : World) (He : List Wd) (t : List UInt8) (N : Nat) (e : Ending) (w' : World) : Prop :=
  ∃ (a : Option Addr) (c : Nat), e = .returned (.agg (stC (absH He t) (.slice a (absR t).length c) N)) ∧ RdS w' a (absR t) ∧ (absR t).length ≤ c ∧ c ≤ maxLen ∧ (a = none → (absR t).length = 0 ∧ c = 0) ∧ Below w.heap.size w w'
theorem rds_rowFar {w : World} {a : Option Addr} {l : List UInt8} {g g3 o3 b : Nat} (hne : g ≠ b) (c : Array Value) (h1 : a = some ⟨g3, o3, none⟩) (hg : g3 = g) (h2 : g3 < w.heap.size) (h3 : Rd w g3 o3 l) : RdS (w.setRow b c) a l := by
  have hb := setRow_below (B := b) (w0 := w) (w := w) (Below.refl _ _) (Nat.le_refl _) c
  subst hg
  refine .inr ⟨g3, o3, h1, Nat.lt_of_lt_of_le h2 hb.size, fun i hi => ?_⟩
  have h := h3 i hi
  have e : (w.setRow b c).heap[g3]? = w.heap[g3]? := by simp [World.setRow, Array.getElem?_modify, Ne.symm hne]
  unfold World.cell? at h ⊢
  rw [e]
  exact h
theorem z8_at {w : World} {g : Nat} (h : Blk w g 25 (padW 8 [])) : Blk w g 25 #[.int .u32 0, .int .u32 0, .int .u32 0, .int .u32 0, .int .u32 0, .int .u32 0, .int .u32 0, .int .u32 0] := z8_cells ▸ h
set_option maxRecDepth 100000 in
set_option maxHeartbeats 4000000 in
theorem RWrite_any (H : List Wd) (hH : H.length = 8) (a : Option Addr) (rest : List UInt8) (len c n : Nat) (hn : n < W64) (hrl : rest.length = len) (hlc : len ≤ c) (hcm : c ≤ maxLen) (hl47 : len ≤ 70368744177664) (hnoa : a = none → len = 0 ∧ c = 0)
    (a' : Option Addr) (t : List UInt8) (m c' : Nat) (hm : t.length = m) (hc : m ≤ c') (hc2 : m ≤ 70368744177664 ∧ c' ≤ 9223372036854775807) (hno : a' = none → m = 0 ∧ c' = 0) (w : World) (hrr : RdS w a rest) (hr : RdS w a' t) :
    Calls Tryd.prog 32 #[.agg (stC H (.slice a len c) n), .slice a' m c'] w (RWPost w (effH H len n) (effR rest len n ++ t) ((effN len n + m) % W64)) := by
  have hRe47 : (effR rest len n).length ≤ 70368744177664 := by unfold effR; split; omega; simp
  have hl9 : len ≤ 9223372036854775807 := by unfold maxLen at hcm; omega
  obtain ⟨b, hb⟩ : ∃ b, decide (len = n % 64) = b := ⟨_, rfl⟩
  have iS := isRS (stC H (.slice a len c) n) (stC_size _ _ _ hH)
  have cS := fun w => RSane_any H hH a len c n hn hl9 b hb w
  obtain ⟨S, hS⟩ : ∃ S, S = stC H (.slice a len c) n := ⟨_, rfl⟩
  have sS : S.size = 10 := by rw [hS]; exact stC_size _ _ _ hH
  rw [← hS] at iS cS ⊢
  obtain ⟨ae, ce, hae, hce1, hce2, hrae, hnoe⟩ : ∃ (ae : Option Addr) (ce : Nat), ((b = true ∧ ae = a ∧ ce = c) ∨ (b = false ∧ ae = none ∧ ce = 0)) ∧ (effR rest len n).length ≤ ce ∧ ce ≤ maxLen ∧ RdS w ae (effR rest len n) ∧ (ae = none → (effR rest len n).length = 0 ∧ ce = 0) := by
    cases hbb : b with
    | true =>
      have : len = n % 64 := by rw [hbb] at hb; simpa using hb
      refine ⟨a, c, .inl ⟨rfl, rfl, rfl⟩, ?_, hcm, ?_, ?_⟩ <;> simp only [effR, if_pos this]
      · omega
      · exact hrr
      · rw [hrl]; exact hnoa
    | false =>
      have : ¬ len = n % 64 := by rw [hbb] at hb; simpa using hb
      refine ⟨none, 0, .inr ⟨rfl, rfl, rfl⟩, ?_, Nat.zero_le _, ?_, ?_⟩ <;> simp only [effR, if_neg this]
      · exact Nat.le_refl _
      · exact .inl rfl
      · simp
  obtain ⟨SE, hSE⟩ : ∃ SE, SE = stC (effH H len n) (.slice ae (effR rest len n).length ce) (effN len n) := ⟨_, rfl⟩
  have hcase : (b = true ∧ S = SE) ∨ (b = false ∧ stC HI (.slice none 0 0) 0 = SE) := by
    rcases hae with ⟨h1, h2, h3⟩ | ⟨h1, h2, h3⟩
    · have : len = n % 64 := by rw [h1] at hb; simpa using hb
      exact .inl ⟨h1, by rw [hS, hSE, h2, h3]; simp only [effH, effR, effN, if_pos this, hrl]⟩
    · have : ¬ len = n % 64 := by rw [h1] at hb; simpa using hb
      exact .inr ⟨h1, by rw [hSE, h2, h3]; simp only [effH, effR, effN, if_neg this]; rfl⟩
  have hHe : (effH H len n).length = 8 := by unfold effH; split; exact hH; exact HI_length
  have hne : effN len n < W64 := by unfold effN; split; exact hn; exact W64_pos
  have hsane : (effR rest len n).length = effN len n % 64 := by unfold effR effN; split <;> simp_all
  clear hae hl9 hrl hlc hcm hrr hS hnoa
  generalize effH H len n = He at *
  generalize effR rest len n = Re at *
  generalize effN len n = ne at *
  have sE : SE.size = 10 := by rw [hSE]; exact stC_size _ _ _ hHe
  have iE := isRS SE sE
  have aE : SE.all (·.oneCell') = true := by rw [hSE]; exact stC_one _ _ _ _ _
  have sSE : S.size = SE.size := by rw [sS, sE]
  obtain ⟨N, hN⟩ : ∃ N, N = (ne + m) % W64 := ⟨_, rfl⟩
  have hNi := add_num ne m hne
  rw [← hN] at hNi ⊢
  obtain ⟨rl, hrl⟩ : ∃ rl, rl = Re.length := ⟨_, rfl⟩
  rw [← hrl] at hce1 hsane hSE hRe47 hnoe
  have F := Lib.hid (And.intro hSE (And.intro hHe (And.intro hne (And.intro hsane (And.intro hrae (And.intro hr (And.intro hm (And.intro hN hrl)))))))); clear hSE hHe hne hsane hrae hr hm hN hrl hb
  have CS := Lib.hid cS; clear cS
  obtain ⟨i0, hi, hz0, hz1, hz2⟩ := info_parts (show (Tryd.prog.info? 5).map (fun i => (i.zero, i.size, i.bytes)) = some (some (.int .u8 0), 1, 1) by kernel_rfl)
  have I := Lib.hid (And.intro hi (And.intro hz0 (And.intro hz1 hz2))); clear hi hz0 hz1 hz2
  go_enter Tryd.func32, Tryd.ntmps32
  go_wp2_with (with_reducible refine wl_st ((Blk.newAt w _ S rfl).alloc _) _ _ rfl rfl rfl _ Tryd.underlying29 iS ?_)
  refine (CS.out _).mono ?_
  rintro e w1 ⟨rfl, hb1⟩
  have A0 : Blk w1 w.heap.size 29 S := ((Blk.newAt w _ S rfl).alloc _).calls hb1
  have A1 : Blk w1 (w.heap.size + 1) 29 (startC 0) := by rw [startC_zero]; exact (Blk.second w _ _ _).calls hb1
  have AB : Below w.heap.size w w1 := bt (ba (ba (Below.refl _ _) _) _) hb1
  have z0 := A0.lt
  have z1 := A1.lt
  clear hb1
  go_upto_if 9 with fail
  go_cut [] (fun wx => Blk wx w.heap.size 29 SE ∧ Blk wx (w.heap.size + 1) 29 (startC 0) ∧ Below w.heap.size w wx)
  case first =>
    rcases hcase with ⟨h1, h2⟩ | ⟨h1, h2⟩
    · subst h1
      rw [h2] at A0
      have HA := Lib.hid (And.intro A0 (And.intro A1 AB)); clear A0 A1 AB h2
      go_wp2_with fail
      go_meet
      exact HA.out
    · subst h1
      have HA := Lib.hid (And.intro A0 (And.intro A1 AB)); clear A0 A1 AB
      have h2' := Lib.hid h2; clear h2
      go_wp2_with fail
      refine (RStart_any _).mono ?_
      rintro e w2 ⟨rfl, hb2⟩
      rw [h2'.out]
      have B0 := HA.out.1.calls hb2
      have B1 := HA.out.2.1.calls hb2
      have BB := bt HA.out.2.2 hb2
      have HB := Lib.hid (And.intro B0 (And.intro B1 BB)); clear B0 B1 BB hb2 HA
      go_wp2_with (with_reducible refine ws_row HB.out.1 _ _ _ _ rfl rfl rfl rfl iE sSE aE ?_)
      go_meet
      exact ⟨HB.out.1.row _, HB.out.2.1.rowFar (by omega) _, setRow_below HB.out.2.2 (by omega) _⟩
  case rest =>
    obtain ⟨B0, B1, BB⟩ := hcut
    clear hcase sSE iS A0 A1 AB CS z0 z1
    have z0 := B0.lt
    have z1 := B1.lt
    have B := Lib.hid (And.intro B0 (And.intro B1 BB)); clear B0 B1 BB
    have cc := B.out.1.cell
    rw [F.out.1] at cc
    have c8 := cc 8
    rw [stC_rest _ _ _ F.out.2.1] at c8
    have c9 := cc 9
    rw [stC_num _ _ _ F.out.2.1] at c9
    clear cc
    have wz : w.heap.size ≤ wc.heap.size := B.out.2.2.size
    have own : (wc.alloc (.cells #[] 5)).ownsRow wc.heap.size 5 1 (.slice (some ⟨wc.heap.size, 0, none⟩) 0 0) 0 (([] : List UInt8).map fun c => Value.int .u8 (c.toNat : Int)) := World.ownsRow_made wc #[] 0 (Nat.le_refl _) (by unfold maxLen; omega) rfl
    have O := Lib.hid own; clear own
    go_wp2_with (at_builtin; refine wl_app O.out rfl _ _ 26 rfl Tryd.underlying26 i0 I.out.1 I.out.2.1 I.out.2.2.1 I.out.2.2.2 rfl ae rl ce Re rfl (F.out.2.2.2.2.1.below (ba B.out.2.2 (.cells #[] 5)) (Nat.le_refl _)) F.out.2.2.2.2.2.2.2.2.symm hnoe (by omega) (by simp) ?_)
    intro v1 w2 hw1 hg1 hn1
    replace hw1 : w2.ownsRow wc.heap.size 5 1 v1 rl (Re.map fun c => Value.int .u8 (c.toNat : Int)) := by simpa using hw1
    obtain ⟨g1, cap1, cur1, rfl, hgb1, hbg1, _, _, _, _⟩ := own_blk hw1 (by simpa using hn1)
    have D0 := (B.out.1.alloc (.cells #[] 5)).grown hg1 (by simp [Value.ownBlock]; omega)
    have D1 := (B.out.2.1.alloc (.cells #[] 5)).grown hg1 (by simp [Value.ownBlock]; omega)
    have DB := below_grown (ba B.out.2.2 (.cells #[] 5)) hg1 (by simp; omega) (by intro k hk; simp [Value.ownBlock] at hk; omega)
    have lt1 := hbg1.lt
    have D := Lib.hid (And.intro hw1 (And.intro D0 (And.intro D1 DB))); clear hw1 D0 D1 DB hg1 hn1 hbg1
    go_wp2_with (at_builtin; refine wl_app D.out.1 rfl _ _ 26 rfl Tryd.underlying26 i0 I.out.1 I.out.2.1 I.out.2.2.1 I.out.2.2.2 rfl a' m c' t rfl (F.out.2.2.2.2.2.1.below D.out.2.2.2 (Nat.le_refl _)) F.out.2.2.2.2.2.2.1 hno (by omega) (by omega) ?_)
    intro v2 w3 hw2 hg2 hn2
    obtain ⟨txt, htx⟩ : ∃ txt, txt = Re ++ t := ⟨_, rfl⟩
    obtain ⟨M, hM⟩ : ∃ M, M = rl + m := ⟨_, rfl⟩
    rw [← List.map_append, ← htx, ← hM] at hw2
    obtain ⟨g, cap, cur3, rfl, hgb2, hbg2, hcp1, hcp2, hlen, hrd⟩ := own_blk hw2 (by simpa using hn2)
    have E0 := D.out.2.1.grown hg2 (by simp [Value.ownBlock]; omega)
    have E1 := D.out.2.2.1.grown hg2 (by simp [Value.ownBlock]; omega)
    have EB := below_grown D.out.2.2.2 hg2 (by omega) (by intro k hk; simp [Value.ownBlock] at hk; omega)
    have ra : RdS w3 (some ⟨g, 0, none⟩) txt := .inr ⟨g, 0, rfl, hbg2.lt, fun i hi => (hbg2.cell (0 + i)).trans (by rw [Nat.zero_add]; exact hrd i hi)⟩
    have e9 := E0.cell 9
    rw [F.out.1, stC_num _ _ _ F.out.2.1] at e9
    have lt3 := E0.lt
    have lt4 := E1.lt
    have i8H := is8 (u32c He) (by rw [u32c_size, F.out.2.1])
    have s8H : (#[.int .u32 0, .int .u32 0, .int .u32 0, .int .u32 0, .int .u32 0, .int .u32 0, .int .u32 0, .int .u32 0] : Array Value).size = (u32c He).size := by rw [u32c_size, F.out.2.1]; rfl
    have a8H := u32c_one He
    have E := Lib.hid (And.intro (E0.to F.out.1) (And.intro E1 (And.intro EB (And.intro ra (And.intro hlen (And.intro htx hM)))))); clear hw2 hg2 hn2 hbg2 hrd E0 E1 EB ra hlen D O htx hM c8 c9
    have hMb : M ≤ 140737488355328 := by have := E.out.2.2.2.2.2.2; omega
    have N4 : Blk _ w3.heap.size 25 #[.int .u32 0, .int .u32 0, .int .u32 0, .int .u32 0, .int .u32 0, .int .u32 0, .int .u32 0, .int .u32 0] := Blk.new w3 25 #[.int .u32 0, .int .u32 0, .int .u32 0, .int .u32 0, .int .u32 0, .int .u32 0, .int .u32 0, .int .u32 0]
    go_wp2_with (first | (refine wpList_load_mid rfl _ _ rfl w.heap.size 0 rfl (u32c He).toList _ (words_range E.out.1 F.out.2.1) Tryd.underlying25 rfl (by simpa using i8H) ?_) | (with_reducible refine ws_row N4 _ _ _ _ rfl rfl rfl rfl i8H s8H a8H ?_))
    have R4 := N4.row (u32c He)
    have RB := setRow_below (g := w3.heap.size) (ba (Below.refl w3.heap.size w3) (.cells #[.int .u32 0, .int .u32 0, .int .u32 0, .int .u32 0, .int .u32 0, .int .u32 0, .int .u32 0, .int .u32 0] 25)) (Nat.le_refl _) (u32c He)
    have R := Lib.hid (And.intro R4 RB); clear R4 RB N4
    generalize World.setRow _ _ _ = w4 at *
    have eM := E.out.2.2.2.2.2.2
    clear eM
    simp only [Act.put]
    go_loopw [5] (fun s wr => ∃ (j : Nat) (a1 : Option Addr) (c1 p : Nat), p = M - 64 * j ∧ 64 * j ≤ M ∧ s = .slice a1 p c1 ∧ p ≤ c1 ∧ c1 ≤ maxLen ∧ RdS w3 a1 (txt.drop (64 * j)) ∧ (a1 = none → p = 0 ∧ c1 = 0) ∧ (∀ ad, a1 = some ad → ad.block = g) ∧ Blk wr w3.heap.size 25 (u32c (blks txt j He)) ∧ Below w3.heap.size w3 wr) (fun s _ => lenS s)
    case atStart =>
      exact ⟨0, some ⟨g, 0, none⟩, cap, M, by omega, by omega, rfl, hcp1, hcp2, E.out.2.2.2.1, (fun h => by cases h), (fun ad h => by injection h with h; rw [← h]), R.out.1, R.out.2⟩
    case round =>
      clear R
      obtain ⟨j, a1, c1, p, hp, hj, rfl, hpc, hc1, hr1, hno1, hbk, h5, hb⟩ := hrel
      have hpi : (p : Int) ≤ 140737488355328 := by omega
      have hc19 : c1 ≤ 9223372036854775807 := by unfold maxLen at hc1; omega
      by_cases h64 : 64 ≤ p
      · obtain ⟨a2, hs2, hr2, _, _⟩ := slice_to a1 (txt.drop (64 * j)) p c1 64 (by rw [drop_length_eq, E.out.2.2.2.2.1, hp]) h64 hpc
        obtain ⟨Hj, hHj⟩ : ∃ Hj, Hj = blks txt j He := ⟨_, rfl⟩
        have hHl : Hj.length = 8 := by rw [hHj]; exact blks_length txt j He F.out.2.1
        obtain ⟨r, hrr⟩ : ∃ r, r = blk Hj ((txt.drop (64 * j)).take 64) := ⟨_, rfl⟩
        have hnext : blks txt (j + 1) He = r := by rw [blks, ← hHj, hrr]
        have hrl : r.length = 8 := by rw [hrr]; exact blk_length _ _ hHl
        have htl : ((txt.drop (64 * j)).take 64).length = 64 := by rw [List.length_take, drop_length_eq, E.out.2.2.2.2.1, ← hp]; omega
        obtain ⟨g2, o2, ha2, hg2, hrd2⟩ : ∃ g off, a2 = some ⟨g, off, none⟩ ∧ g < w3.heap.size ∧ Rd w3 g off ((txt.drop (64 * j)).take 64) := by
          rcases hr2 w3 hr1 with hh | hh
          · rw [hh] at htl; cases htl
          · exact hh
        subst ha2
        have hcall : ∀ w', Below w3.heap.size w3 w' → Calls Tryd.prog 34 #[.agg (u32c Hj), .slice (some ⟨g2, o2, none⟩) 64 c1] w' fun e w'' => e = .returned (.agg (u32c r)) ∧ Below w'.heap.size w' w'' := fun w' hw' => by
          rw [hrr]
          exact RBlock_any Hj hHl g2 o2 c1 _ w' (fun i hi => hrd2.at hw' hg2 i hi) (Nat.lt_of_lt_of_le hg2 hw'.size) htl
        rw [← hHj] at h5
        have l5 := h5.lt
        have i8j := is8 (u32c Hj) (by rw [u32c_size, hHl])
        have s8r : (u32c r).size = 8 := by rw [u32c_size, hrl]
        have s8j : (u32c Hj).size = (u32c r).size := by rw [s8r, u32c_size, hHl]
        have i8r := is8 (u32c r) s8r
        have a8r := u32c_one r
        have hpm : (p : Int) - 64 = ((p - 64 : Nat) : Int) := by omega
        have K := Lib.hid (And.intro h5 (And.intro hb (And.intro hp (And.intro hnext (And.intro hr1 hbk)))))
        clear h5 hb hbk hp hHj hHl hrr hnext hrl htl hr1 hr2 s8r
        have KC := Lib.hid hcall; clear hcall
        have KS := Lib.hid hs2; clear hs2
        go_wp2_with fail
        refine wp_region_tail [some 23, some 24, some 25, some 26, none] (fun i => ([.agg (u32c Hj), .slice a1 p c1, .slice (some ⟨g2, o2, none⟩) 64 c1, .agg (u32c r), undef] : List Value).getD i undef) 4 (fun w' => ∃ wq, Below wr.heap.size wr wq ∧ w' = wq.setRow w3.heap.size (u32c r)) (by kernel_rfl) rfl rfl rfl rfl rfl rfl ⟨
          .inr ⟨rfl, fun A w' hb hs => op_load _ (.tmp 6) rfl ((hs.2 6 rfl).trans rfl) (K.out.1.below hb K.out.1.lt) Tryd.underlying25 i8j⟩,
          .inr ⟨rfl, fun A w' hb hs => op_move (.tmp 5) (.inl rfl) ((hs.2 5 rfl).trans rfl)⟩,
          .inr ⟨rfl, fun A w' hb hs => op_slice_s _ (.tmp 24) none (some (.const (.int .i64 64))) rfl (hs.1 1 rfl 24 rfl) rfl rfl (by kernel_rfl) (KS.out w')⟩,
          .inr ⟨rfl, fun A w' hb hs => op_call 34 _ (exec_call _ 34 _ rfl rfl (margs2 (hs.1 0 rfl 23 rfl) (hs.1 2 rfl 25 rfl)) Tryd.func34 rfl rfl) (KC.out w' (bt K.out.2.1 hb))⟩,
          .inl ⟨rfl, rfl, fun A w' hb hs => wp_store_row _ (.tmp 6) (.tmp 26) rfl w3.heap.size (u32c r) ((hs.2 6 rfl).trans rfl) (hs.1 3 rfl 26 rfl) 25 (u32c Hj) (K.out.1.below hb K.out.1.lt) i8r s8j a8r ⟨rfl, w', hb, rfl⟩⟩, trivial⟩ ?_
        rintro _ ⟨wq, hbq, rfl⟩
        simp only [Fr, if_true, Act.put, List.setIfInBounds_toArray, List.set_cons_zero, List.set_cons_succ, List.getD_cons_zero, List.getD_cons_succ]
        have D5 := (K.out.1.below hbq l5).row (u32c r)
        have DB := setRow_below (g := w3.heap.size) (bt K.out.2.1 hbq) (Nat.le_refl _) (u32c r)
        have D := Lib.hid (And.intro D5 DB); clear D5 DB hbq
        generalize wq.setRow _ _ = w6 at *
        go_wp2
        obtain ⟨D5, DB⟩ := D.out
        obtain ⟨_, _, hp, hnext, hr1, hbk⟩ := K.out
        go_roundw
        case rel =>
          refine ⟨j + 1, _, c1 - 64, p - 64, by omega, by omega, rfl, by omega, by omega, ?_, ?_, ?_, by rw [hnext]; exact D5, DB⟩
          · have := hr1.from (n := p) (c := c1) (k := 64) (by rw [drop_length_eq, E.out.2.2.2.2.1, hp]) h64 hpc
            rw [List.drop_drop, show 64 * j + 64 = 64 * (j + 1) by omega] at this
            exact this
          · intro hnone
            exfalso
            cases a1 with
            | none => have := (hno1 rfl).1; omega
            | some ad => split at hnone <;> cases hnone
          · intro ad had
            split at had
            · exact hbk ad had
            · obtain ⟨x, hx, rfl⟩ := Option.map_eq_some_iff.1 had
              exact hbk x hx
        case measure => simp [lenS]; omega
      · have hjj : txt.length / 64 = j := by rw [E.out.2.2.2.2.1]; omega
        have hpl : p = (absR txt).length := by rw [absR_length, E.out.2.2.2.2.1]; omega
        have hdr : txt.drop (64 * j) = absR txt := by unfold absR; rw [hjj]
        have hHH : blks txt j He = absH He txt := by unfold absH; rw [hjj]
        have hHl : (absH He txt).length = 8 := absH_length _ _ F.out.2.1
        rw [hdr] at hr1
        rw [hHH] at h5
        clear hjj hdr hHH
        have B1 := E.out.2.1.below hb lt4
        have c9 := E.out.1.below hb lt3 |>.cell 9
        rw [stC_num _ _ _ F.out.2.1] at c9
        have i8h := is8 (u32c (absH He txt)) (by rw [u32c_size, hHl])
        have FB := bt E.out.2.2.1 hb
        have rr2 := hr1.below hb (Nat.le_refl _)
        have l5 := h5.lt
        rw [E.out.2.2.2.2.2.1] at rr2 hpl
        have htx := E.out.2.2.2.2.2.1
        obtain ⟨hh, hhh⟩ : ∃ hh, hh = absH He txt := ⟨_, rfl⟩
        rw [← hhh] at h5 i8h hHl
        obtain ⟨y0, y1, y2, y3, y4, y5, y6, y7, rfl⟩ := eight hh hHl
        have K := Lib.hid (And.intro h5 (And.intro B1 (And.intro FB (And.intro rr2 (And.intro hpl (And.intro hhh (And.intro htx hbk))))))); clear h5 B1 hb FB rr2 hpl hhh htx hr1 hp hj hbk
        rw [u32c_lit] at K i8h
        obtain ⟨C, hC⟩ : ∃ C : Array Value, C = #[.int .u32 (wn y0), .int .u32 (wn y1), .int .u32 (wn y2), .int .u32 (wn y3), .int .u32 (wn y4), .int .u32 (wn y5), .int .u32 (wn y6), .int .u32 (wn y7), .slice a1 p c1, .int .u64 N] := ⟨_, rfl⟩
        have sC : C.size = 10 := by rw [hC]; rfl
        have iC := isRS C sC
        have s1 : (startC 0).size = C.size := by rw [sC]; rfl
        have aC : C.all (·.oneCell') = true := by rw [hC]; simp [Value.oneCell']
        rw [hC] at iC s1 aC
        go_wp2_with (first | with_reducible refine wl_row K.out.1 _ _ rfl rfl rfl _ _ Tryd.underlying25 i8h ?_ | with_reducible refine ws_row K.out.2.1 _ _ _ _ rfl rfl rfl rfl iC s1 aC ?_)
        obtain ⟨h5, B1, FB, rr2, hpl, hhh, htx, hbk⟩ := K.out
        refine bodyPost_ret (v := .agg C) ?_ rfl ⟨a1, c1, ?_, ?_, ?_, hc1, by rw [← hpl]; exact hno1, setRow_below FB (by omega) _⟩
        · rw [hC]; exact results_cell_row rfl _ _ _ _ _ (0, 0) _ rfl (B1.row _) Tryd.underlying29 rfl iC
        · rw [← htx, ← hhh, stC_lit, htx, ← hpl, hC]
        · rcases rr2 with h | ⟨g3, o3, h1, h2, h3⟩
          · exact .inl h
          · have hg3 : g3 = g := hbk _ h1
            exact rds_rowFar (show g ≠ w.heap.size + 1 by omega) _ h1 hg3 h2 h3
        · rw [← hpl]; exact hpc
end Go.Proofs.YtfebknplkbeblaaDoor
