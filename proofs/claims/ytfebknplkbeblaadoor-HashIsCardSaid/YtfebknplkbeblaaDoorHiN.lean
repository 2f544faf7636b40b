/- What the document's Write comes to, of any state. A region that draws its order, whose values are known by what holds of them, also behind it. What the document's End comes to. What the document's Sum and Double come to. -/
import Derived.Test.YtfebknplkbeblaaDoorHiM
import Derived.Test.YtfebknplkbeblaaDoorHiK
import Derived.Test.YtfebknplkbeblaaDoorHiJ
import Derived.Test.YtfebknplkbeblaaDoorHiL
namespace Go.Proofs.YtfebknplkbeblaaDoor
open Go.RowKit
set_option linter.unusedVariables false
def RWPost (w : World) (He : List Wd) (t : List UInt8) (N : Nat) (e : Ending) (w' : World) : Prop :=
  ∃ (a : Option Addr) (c : Nat), e = .returned (.agg (stC (absH He t) (.slice a (absR t).length c) N)) ∧ RdS w' a (absR t) ∧ (absR t).length ≤ c ∧ c ≤ maxLen ∧ (a = none → (absR t).length = 0 ∧ c = 0) ∧ Below w.heap.size w w'
theorem rds_rowFar {w : World} {a : Option Addr} {l : List UInt8} {g g3 o3 b : Nat} (hne : g ≠ b) (c : Array Value) (h1 : a = some ⟨g3, o3, none⟩) (hg : g3 = g) (h2 : g3 < w.heap.size) (h3 : Rd w g3 o3 l) : RdS (w.setRow b c) a l := by
  have hb := setRow_below (B := b) (w0 := w) (w := w) (Below.refl _ _) (Nat.le_refl _) c
  subst hg
  refine .inr ⟨g3, o3, h1, Nat.lt_of_lt_of_le h2 hb.size, fun i hi => ?_⟩
  have h := h3 i hi
  have e : (w.setRow b c).heap[g3]? = w.heap[g3]? := by simp [World.setRow, Array.getElem?_modify, Ne.symm hne]
  unfold World.cell? at h ⊢
  rw [e]
  exact h
theorem z8_at {w : World} {g : Nat} (h : Blk w g 25 (padW 8 [])) : Blk w g 25 #[.int .u32 0, .int .u32 0, .int .u32 0, .int .u32 0, .int .u32 0, .int .u32 0, .int .u32 0, .int .u32 0] := z8_cells ▸ h
set_option maxRecDepth 100000 in
set_option maxHeartbeats 4000000 in
theorem RWrite_any (H : List Wd) (hH : H.length = 8) (a : Option Addr) (rest : List UInt8) (len c n : Nat) (hn : n < W64) (hrl : rest.length = len) (hlc : len ≤ c) (hcm : c ≤ maxLen) (hl47 : len ≤ 70368744177664) (hnoa : a = none → len = 0 ∧ c = 0)
    (a' : Option Addr) (t : List UInt8) (m c' : Nat) (hm : t.length = m) (hc : m ≤ c') (hc2 : m ≤ 70368744177664 ∧ c' ≤ 9223372036854775807) (hno : a' = none → m = 0 ∧ c' = 0) (w : World) (hrr : RdS w a rest) (hr : RdS w a' t) :
    Calls Tryd.prog 32 #[.agg (stC H (.slice a len c) n), .slice a' m c'] w (RWPost w (effH H len n) (effR rest len n ++ t) ((effN len n + m) % W64)) := by
  have hRe47 : (effR rest len n).length ≤ 70368744177664 := by unfold effR; split; omega; simp
  have hl9 : len ≤ 9223372036854775807 := by unfold maxLen at hcm; omega
  obtain ⟨b, hb⟩ : ∃ b, decide (len = n % 64) = b := ⟨_, rfl⟩
  have iS := isRS (stC H (.slice a len c) n) (stC_size _ _ _ hH)
  have cS := fun w => RSane_any H hH a len c n hn hl9 b hb w
  obtain ⟨S, hS⟩ : ∃ S, S = stC H (.slice a len c) n := ⟨_, rfl⟩
  have sS : S.size = 10 := by rw [hS]; exact stC_size _ _ _ hH
  rw [← hS] at iS cS ⊢
  obtain ⟨ae, ce, hae, hce1, hce2, hrae, hnoe⟩ : ∃ (ae : Option Addr) (ce : Nat), ((b = true ∧ ae = a ∧ ce = c) ∨ (b = false ∧ ae = none ∧ ce = 0)) ∧ (effR rest len n).length ≤ ce ∧ ce ≤ maxLen ∧ RdS w ae (effR rest len n) ∧ (ae = none → (effR rest len n).length = 0 ∧ ce = 0) := by
    cases hbb : b with
    | true =>
      have : len = n % 64 := by rw [hbb] at hb; simpa using hb
      refine ⟨a, c, .inl ⟨rfl, rfl, rfl⟩, ?_, hcm, ?_, ?_⟩ <;> simp only [effR, if_pos this]
      · omega
      · exact hrr
      · rw [hrl]; exact hnoa
    | false =>
      have : ¬ len = n % 64 := by rw [hbb] at hb; simpa using hb
      refine ⟨none, 0, .inr ⟨rfl, rfl, rfl⟩, ?_, Nat.zero_le _, ?_, ?_⟩ <;> simp only [effR, if_neg this]
      · exact Nat.le_refl _
      · exact .inl rfl
      · simp
  obtain ⟨SE, hSE⟩ : ∃ SE, SE = stC (effH H len n) (.slice ae (effR rest len n).length ce) (effN len n) := ⟨_, rfl⟩
  have hcase : (b = true ∧ S = SE) ∨ (b = false ∧ stC HI (.slice none 0 0) 0 = SE) := by
    rcases hae with ⟨h1, h2, h3⟩ | ⟨h1, h2, h3⟩
    · have : len = n % 64 := by rw [h1] at hb; simpa using hb
      exact .inl ⟨h1, by rw [hS, hSE, h2, h3]; simp only [effH, effR, effN, if_pos this, hrl]⟩
    · have : ¬ len = n % 64 := by rw [h1] at hb; simpa using hb
      exact .inr ⟨h1, by rw [hSE, h2, h3]; simp only [effH, effR, effN, if_neg this]; rfl⟩
  have hHe : (effH H len n).length = 8 := by unfold effH; split; exact hH; exact HI_length
  have hne : effN len n < W64 := by unfold effN; split; exact hn; exact W64_pos
  have hsane : (effR rest len n).length = effN len n % 64 := by unfold effR effN; split <;> simp_all
  clear hae hl9 hrl hlc hcm hrr hS hnoa
  generalize effH H len n = He at *
  generalize effR rest len n = Re at *
  generalize effN len n = ne at *
  have sE : SE.size = 10 := by rw [hSE]; exact stC_size _ _ _ hHe
  have iE := isRS SE sE
  have aE : SE.all (·.oneCell') = true := by rw [hSE]; exact stC_one _ _ _ _ _
  have sSE : S.size = SE.size := by rw [sS, sE]
  obtain ⟨N, hN⟩ : ∃ N, N = (ne + m) % W64 := ⟨_, rfl⟩
  have hNi := add_num ne m hne
  rw [← hN] at hNi ⊢
  obtain ⟨rl, hrl⟩ : ∃ rl, rl = Re.length := ⟨_, rfl⟩
  rw [← hrl] at hce1 hsane hSE hRe47 hnoe
  have F := Lib.hid (And.intro hSE (And.intro hHe (And.intro hne (And.intro hsane (And.intro hrae (And.intro hr (And.intro hm (And.intro hN hrl)))))))); clear hSE hHe hne hsane hrae hr hm hN hrl hb
  have CS := Lib.hid cS; clear cS
  obtain ⟨i0, hi, hz0, hz1, hz2⟩ := info_parts (show (Tryd.prog.info? 5).map (fun i => (i.zero, i.size, i.bytes)) = some (some (.int .u8 0), 1, 1) by kernel_rfl)
  have I := Lib.hid (And.intro hi (And.intro hz0 (And.intro hz1 hz2))); clear hi hz0 hz1 hz2
  go_enter Tryd.func32, Tryd.ntmps32
  go_wp2_with (with_reducible refine wl_st ((Blk.newAt w _ S rfl).alloc _) _ _ rfl rfl rfl _ Tryd.underlying29 iS ?_)
  refine (CS.out _).mono ?_
  rintro e w1 ⟨rfl, hb1⟩
  have A0 : Blk w1 w.heap.size 29 S := ((Blk.newAt w _ S rfl).alloc _).calls hb1
  have A1 : Blk w1 (w.heap.size + 1) 29 (startC 0) := by rw [startC_zero]; exact (Blk.second w _ _ _).calls hb1
  have AB : Below w.heap.size w w1 := bt (ba (ba (Below.refl _ _) _) _) hb1
  have z0 := A0.lt
  have z1 := A1.lt
  clear hb1
  go_upto_if 9 with fail
  go_cut [] (fun wx => Blk wx w.heap.size 29 SE ∧ Blk wx (w.heap.size + 1) 29 (startC 0) ∧ Below w.heap.size w wx)
  case first =>
    rcases hcase with ⟨h1, h2⟩ | ⟨h1, h2⟩
    · subst h1
      rw [h2] at A0
      have HA := Lib.hid (And.intro A0 (And.intro A1 AB)); clear A0 A1 AB h2
      go_wp2_with fail
      go_meet
      exact HA.out
    · subst h1
      have HA := Lib.hid (And.intro A0 (And.intro A1 AB)); clear A0 A1 AB
      have h2' := Lib.hid h2; clear h2
      go_wp2_with fail
      refine (RStart_any _).mono ?_
      rintro e w2 ⟨rfl, hb2⟩
      rw [h2'.out]
      have B0 := HA.out.1.calls hb2
      have B1 := HA.out.2.1.calls hb2
      have BB := bt HA.out.2.2 hb2
      have HB := Lib.hid (And.intro B0 (And.intro B1 BB)); clear B0 B1 BB hb2 HA
      go_wp2_with (with_reducible refine ws_row HB.out.1 _ _ _ _ rfl rfl rfl rfl iE sSE aE ?_)
      go_meet
      exact ⟨HB.out.1.row _, HB.out.2.1.rowFar (by omega) _, setRow_below HB.out.2.2 (by omega) _⟩
  case rest =>
    obtain ⟨B0, B1, BB⟩ := hcut
    clear hcase sSE iS A0 A1 AB CS z0 z1
    have z0 := B0.lt
    have z1 := B1.lt
    have B := Lib.hid (And.intro B0 (And.intro B1 BB)); clear B0 B1 BB
    have cc := B.out.1.cell
    rw [F.out.1] at cc
    have c8 := cc 8
    rw [stC_rest _ _ _ F.out.2.1] at c8
    have c9 := cc 9
    rw [stC_num _ _ _ F.out.2.1] at c9
    clear cc
    have wz : w.heap.size ≤ wc.heap.size := B.out.2.2.size
    have own : (wc.alloc (.cells #[] 5)).ownsRow wc.heap.size 5 1 (.slice (some ⟨wc.heap.size, 0, none⟩) 0 0) 0 (([] : List UInt8).map fun c => Value.int .u8 (c.toNat : Int)) := World.ownsRow_made wc #[] 0 (Nat.le_refl _) (by unfold maxLen; omega) rfl
    have O := Lib.hid own; clear own
    go_wp2_with (at_builtin; refine wl_app O.out rfl _ _ 26 rfl Tryd.underlying26 i0 I.out.1 I.out.2.1 I.out.2.2.1 I.out.2.2.2 rfl ae rl ce Re rfl (F.out.2.2.2.2.1.below (ba B.out.2.2 (.cells #[] 5)) (Nat.le_refl _)) F.out.2.2.2.2.2.2.2.2.symm hnoe (by omega) (by simp) ?_)
    intro v1 w2 hw1 hg1 hn1
    replace hw1 : w2.ownsRow wc.heap.size 5 1 v1 rl (Re.map fun c => Value.int .u8 (c.toNat : Int)) := by simpa using hw1
    obtain ⟨g1, cap1, cur1, rfl, hgb1, hbg1, _, _, _, _⟩ := own_blk hw1 (by simpa using hn1)
    have D0 := (B.out.1.alloc (.cells #[] 5)).grown hg1 (by simp [Value.ownBlock]; omega)
    have D1 := (B.out.2.1.alloc (.cells #[] 5)).grown hg1 (by simp [Value.ownBlock]; omega)
    have DB := below_grown (ba B.out.2.2 (.cells #[] 5)) hg1 (by simp; omega) (by intro k hk; simp [Value.ownBlock] at hk; omega)
    have lt1 := hbg1.lt
    have D := Lib.hid (And.intro hw1 (And.intro D0 (And.intro D1 DB))); clear hw1 D0 D1 DB hg1 hn1 hbg1
    go_wp2_with (at_builtin; refine wl_app D.out.1 rfl _ _ 26 rfl Tryd.underlying26 i0 I.out.1 I.out.2.1 I.out.2.2.1 I.out.2.2.2 rfl a' m c' t rfl (F.out.2.2.2.2.2.1.below D.out.2.2.2 (Nat.le_refl _)) F.out.2.2.2.2.2.2.1 hno (by omega) (by omega) ?_)
    intro v2 w3 hw2 hg2 hn2
    obtain ⟨txt, htx⟩ : ∃ txt, txt = Re ++ t := ⟨_, rfl⟩
    obtain ⟨M, hM⟩ : ∃ M, M = rl + m := ⟨_, rfl⟩
    rw [← List.map_append, ← htx, ← hM] at hw2
    obtain ⟨g, cap, cur3, rfl, hgb2, hbg2, hcp1, hcp2, hlen, hrd⟩ := own_blk hw2 (by simpa using hn2)
    have E0 := D.out.2.1.grown hg2 (by simp [Value.ownBlock]; omega)
    have E1 := D.out.2.2.1.grown hg2 (by simp [Value.ownBlock]; omega)
    have EB := below_grown D.out.2.2.2 hg2 (by omega) (by intro k hk; simp [Value.ownBlock] at hk; omega)
    have ra : RdS w3 (some ⟨g, 0, none⟩) txt := .inr ⟨g, 0, rfl, hbg2.lt, fun i hi => (hbg2.cell (0 + i)).trans (by rw [Nat.zero_add]; exact hrd i hi)⟩
    have e9 := E0.cell 9
    rw [F.out.1, stC_num _ _ _ F.out.2.1] at e9
    have lt3 := E0.lt
    have lt4 := E1.lt
    have i8H := is8 (u32c He) (by rw [u32c_size, F.out.2.1])
    have s8H : (#[.int .u32 0, .int .u32 0, .int .u32 0, .int .u32 0, .int .u32 0, .int .u32 0, .int .u32 0, .int .u32 0] : Array Value).size = (u32c He).size := by rw [u32c_size, F.out.2.1]; rfl
    have a8H := u32c_one He
    have E := Lib.hid (And.intro (E0.to F.out.1) (And.intro E1 (And.intro EB (And.intro ra (And.intro hlen (And.intro htx hM)))))); clear hw2 hg2 hn2 hbg2 hrd E0 E1 EB ra hlen D O htx hM c8 c9
    have hMb : M ≤ 140737488355328 := by have := E.out.2.2.2.2.2.2; omega
    have N4 : Blk _ w3.heap.size 25 #[.int .u32 0, .int .u32 0, .int .u32 0, .int .u32 0, .int .u32 0, .int .u32 0, .int .u32 0, .int .u32 0] := Blk.new w3 25 #[.int .u32 0, .int .u32 0, .int .u32 0, .int .u32 0, .int .u32 0, .int .u32 0, .int .u32 0, .int .u32 0]
    go_wp2_with (first | (refine wpList_load_mid rfl _ _ rfl w.heap.size 0 rfl (u32c He).toList _ (words_range E.out.1 F.out.2.1) Tryd.underlying25 rfl (by simpa using i8H) ?_) | (with_reducible refine ws_row N4 _ _ _ _ rfl rfl rfl rfl i8H s8H a8H ?_))
    have R4 := N4.row (u32c He)
    have RB := setRow_below (g := w3.heap.size) (ba (Below.refl w3.heap.size w3) (.cells #[.int .u32 0, .int .u32 0, .int .u32 0, .int .u32 0, .int .u32 0, .int .u32 0, .int .u32 0, .int .u32 0] 25)) (Nat.le_refl _) (u32c He)
    have R := Lib.hid (And.intro R4 RB); clear R4 RB N4
    generalize World.setRow _ _ _ = w4 at *
    have eM := E.out.2.2.2.2.2.2
    clear eM
    simp only [Act.put]
    go_loopw [5] (fun s wr => ∃ (j : Nat) (a1 : Option Addr) (c1 p : Nat), p = M - 64 * j ∧ 64 * j ≤ M ∧ s = .slice a1 p c1 ∧ p ≤ c1 ∧ c1 ≤ maxLen ∧ RdS w3 a1 (txt.drop (64 * j)) ∧ (a1 = none → p = 0 ∧ c1 = 0) ∧ (∀ ad, a1 = some ad → ad.block = g) ∧ Blk wr w3.heap.size 25 (u32c (blks txt j He)) ∧ Below w3.heap.size w3 wr) (fun s _ => lenS s)
    case atStart =>
      exact ⟨0, some ⟨g, 0, none⟩, cap, M, by omega, by omega, rfl, hcp1, hcp2, E.out.2.2.2.1, (fun h => by cases h), (fun ad h => by injection h with h; rw [← h]), R.out.1, R.out.2⟩
    case round =>
      clear R
      obtain ⟨j, a1, c1, p, hp, hj, rfl, hpc, hc1, hr1, hno1, hbk, h5, hb⟩ := hrel
      have hpi : (p : Int) ≤ 140737488355328 := by omega
      have hc19 : c1 ≤ 9223372036854775807 := by unfold maxLen at hc1; omega
      by_cases h64 : 64 ≤ p
      · obtain ⟨a2, hs2, hr2, _, _⟩ := slice_to a1 (txt.drop (64 * j)) p c1 64 (by rw [drop_length_eq, E.out.2.2.2.2.1, hp]) h64 hpc
        obtain ⟨Hj, hHj⟩ : ∃ Hj, Hj = blks txt j He := ⟨_, rfl⟩
        have hHl : Hj.length = 8 := by rw [hHj]; exact blks_length txt j He F.out.2.1
        obtain ⟨r, hrr⟩ : ∃ r, r = blk Hj ((txt.drop (64 * j)).take 64) := ⟨_, rfl⟩
        have hnext : blks txt (j + 1) He = r := by rw [blks, ← hHj, hrr]
        have hrl : r.length = 8 := by rw [hrr]; exact blk_length _ _ hHl
        have htl : ((txt.drop (64 * j)).take 64).length = 64 := by rw [List.length_take, drop_length_eq, E.out.2.2.2.2.1, ← hp]; omega
        obtain ⟨g2, o2, ha2, hg2, hrd2⟩ : ∃ g off, a2 = some ⟨g, off, none⟩ ∧ g < w3.heap.size ∧ Rd w3 g off ((txt.drop (64 * j)).take 64) := by
          rcases hr2 w3 hr1 with hh | hh
          · rw [hh] at htl; cases htl
          · exact hh
        subst ha2
        have hcall : ∀ w', Below w3.heap.size w3 w' → Calls Tryd.prog 34 #[.agg (u32c Hj), .slice (some ⟨g2, o2, none⟩) 64 c1] w' fun e w'' => e = .returned (.agg (u32c r)) ∧ Below w'.heap.size w' w'' := fun w' hw' => by
          rw [hrr]
          exact RBlock_any Hj hHl g2 o2 c1 _ w' (fun i hi => hrd2.at hw' hg2 i hi) (Nat.lt_of_lt_of_le hg2 hw'.size) htl
        rw [← hHj] at h5
        have l5 := h5.lt
        have i8j := is8 (u32c Hj) (by rw [u32c_size, hHl])
        have s8r : (u32c r).size = 8 := by rw [u32c_size, hrl]
        have s8j : (u32c Hj).size = (u32c r).size := by rw [s8r, u32c_size, hHl]
        have i8r := is8 (u32c r) s8r
        have a8r := u32c_one r
        have hpm : (p : Int) - 64 = ((p - 64 : Nat) : Int) := by omega
        have K := Lib.hid (And.intro h5 (And.intro hb (And.intro hp (And.intro hnext (And.intro hr1 hbk)))))
        clear h5 hb hbk hp hHj hHl hrr hnext hrl htl hr1 hr2 s8r
        have KC := Lib.hid hcall; clear hcall
        have KS := Lib.hid hs2; clear hs2
        go_wp2_with fail
        refine wp_region_tail [some 23, some 24, some 25, some 26, none] (fun i => ([.agg (u32c Hj), .slice a1 p c1, .slice (some ⟨g2, o2, none⟩) 64 c1, .agg (u32c r), undef] : List Value).getD i undef) 4 (fun w' => ∃ wq, Below wr.heap.size wr wq ∧ w' = wq.setRow w3.heap.size (u32c r)) (by kernel_rfl) rfl rfl rfl rfl rfl rfl ⟨
          .inr ⟨rfl, fun A w' hb hs => op_load _ (.tmp 6) rfl ((hs.2 6 rfl).trans rfl) (K.out.1.below hb K.out.1.lt) Tryd.underlying25 i8j⟩,
          .inr ⟨rfl, fun A w' hb hs => op_move (.tmp 5) (.inl rfl) ((hs.2 5 rfl).trans rfl)⟩,
          .inr ⟨rfl, fun A w' hb hs => op_slice_s _ (.tmp 24) none (some (.const (.int .i64 64))) rfl (hs.1 1 rfl 24 rfl) rfl rfl (by kernel_rfl) (KS.out w')⟩,
          .inr ⟨rfl, fun A w' hb hs => op_call 34 _ (exec_call _ 34 _ rfl rfl (margs2 (hs.1 0 rfl 23 rfl) (hs.1 2 rfl 25 rfl)) Tryd.func34 rfl rfl) (KC.out w' (bt K.out.2.1 hb))⟩,
          .inl ⟨rfl, rfl, fun A w' hb hs => wp_store_row _ (.tmp 6) (.tmp 26) rfl w3.heap.size (u32c r) ((hs.2 6 rfl).trans rfl) (hs.1 3 rfl 26 rfl) 25 (u32c Hj) (K.out.1.below hb K.out.1.lt) i8r s8j a8r ⟨rfl, w', hb, rfl⟩⟩, trivial⟩ ?_
        rintro _ ⟨wq, hbq, rfl⟩
        simp only [Fr, if_true, Act.put, List.setIfInBounds_toArray, List.set_cons_zero, List.set_cons_succ, List.getD_cons_zero, List.getD_cons_succ]
        have D5 := (K.out.1.below hbq l5).row (u32c r)
        have DB := setRow_below (g := w3.heap.size) (bt K.out.2.1 hbq) (Nat.le_refl _) (u32c r)
        have D := Lib.hid (And.intro D5 DB); clear D5 DB hbq
        generalize wq.setRow _ _ = w6 at *
        go_wp2
        obtain ⟨D5, DB⟩ := D.out
        obtain ⟨_, _, hp, hnext, hr1, hbk⟩ := K.out
        go_roundw
        case rel =>
          refine ⟨j + 1, _, c1 - 64, p - 64, by omega, by omega, rfl, by omega, by omega, ?_, ?_, ?_, by rw [hnext]; exact D5, DB⟩
          · have := hr1.from (n := p) (c := c1) (k := 64) (by rw [drop_length_eq, E.out.2.2.2.2.1, hp]) h64 hpc
            rw [List.drop_drop, show 64 * j + 64 = 64 * (j + 1) by omega] at this
            exact this
          · intro hnone
            exfalso
            cases a1 with
            | none => have := (hno1 rfl).1; omega
            | some ad => split at hnone <;> cases hnone
          · intro ad had
            split at had
            · exact hbk ad had
            · obtain ⟨x, hx, rfl⟩ := Option.map_eq_some_iff.1 had
              exact hbk x hx
        case measure => simp [lenS]; omega
      · have hjj : txt.length / 64 = j := by rw [E.out.2.2.2.2.1]; omega
        have hpl : p = (absR txt).length := by rw [absR_length, E.out.2.2.2.2.1]; omega
        have hdr : txt.drop (64 * j) = absR txt := by unfold absR; rw [hjj]
        have hHH : blks txt j He = absH He txt := by unfold absH; rw [hjj]
        have hHl : (absH He txt).length = 8 := absH_length _ _ F.out.2.1
        rw [hdr] at hr1
        rw [hHH] at h5
        clear hjj hdr hHH
        have B1 := E.out.2.1.below hb lt4
        have c9 := E.out.1.below hb lt3 |>.cell 9
        rw [stC_num _ _ _ F.out.2.1] at c9
        have i8h := is8 (u32c (absH He txt)) (by rw [u32c_size, hHl])
        have FB := bt E.out.2.2.1 hb
        have rr2 := hr1.below hb (Nat.le_refl _)
        have l5 := h5.lt
        rw [E.out.2.2.2.2.2.1] at rr2 hpl
        have htx := E.out.2.2.2.2.2.1
        obtain ⟨hh, hhh⟩ : ∃ hh, hh = absH He txt := ⟨_, rfl⟩
        rw [← hhh] at h5 i8h hHl
        obtain ⟨y0, y1, y2, y3, y4, y5, y6, y7, rfl⟩ := eight hh hHl
        have K := Lib.hid (And.intro h5 (And.intro B1 (And.intro FB (And.intro rr2 (And.intro hpl (And.intro hhh (And.intro htx hbk))))))); clear h5 B1 hb FB rr2 hpl hhh htx hr1 hp hj hbk
        rw [u32c_lit] at K i8h
        obtain ⟨C, hC⟩ : ∃ C : Array Value, C = #[.int .u32 (wn y0), .int .u32 (wn y1), .int .u32 (wn y2), .int .u32 (wn y3), .int .u32 (wn y4), .int .u32 (wn y5), .int .u32 (wn y6), .int .u32 (wn y7), .slice a1 p c1, .int .u64 N] := ⟨_, rfl⟩
        have sC : C.size = 10 := by rw [hC]; rfl
        have iC := isRS C sC
        have s1 : (startC 0).size = C.size := by rw [sC]; rfl
        have aC : C.all (·.oneCell') = true := by rw [hC]; simp [Value.oneCell']
        rw [hC] at iC s1 aC
        go_wp2_with (first | with_reducible refine wl_row K.out.1 _ _ rfl rfl rfl _ _ Tryd.underlying25 i8h ?_ | with_reducible refine ws_row K.out.2.1 _ _ _ _ rfl rfl rfl rfl iC s1 aC ?_)
        obtain ⟨h5, B1, FB, rr2, hpl, hhh, htx, hbk⟩ := K.out
        refine bodyPost_ret (v := .agg C) ?_ rfl ⟨a1, c1, ?_, ?_, ?_, hc1, by rw [← hpl]; exact hno1, setRow_below FB (by omega) _⟩
        · rw [hC]; exact results_cell_row rfl _ _ _ _ _ (0, 0) _ rfl (B1.row _) Tryd.underlying29 rfl iC
        · rw [← htx, ← hhh, stC_lit, htx, ← hpl, hC]
        · rcases rr2 with h | ⟨g3, o3, h1, h2, h3⟩
          · exact .inl h
          · have hg3 : g3 = g := hbk _ h1
            exact rds_rowFar (show g ≠ w.heap.size + 1 by omega) _ h1 hg3 h2 h3
        · rw [← hpl]; exact hpc
end Go.Proofs.YtfebknplkbeblaaDoor

namespace Go.Proofs.YtfebknplkbeblaaDoor
open Go.RowKit
set_option linter.unusedVariables false
/-- All operations but the last leave what is old alone, and of what each yields F holds; the last waits for all. -/
def ValStep2 (P : Program) (Q : Exit → Act → World → Prop) (w0 : World) (dsts : List (Option Tmp)) (F : Nat → Value → World → Prop) (a0 : Act) (n : Nat) (T : (Nat → Value) → World → Prop) (i : Nat) (o : Oper) : Prop :=
  (i = n ∧ ((List.range n).all fun j => (edgesOf o).contains j) = true ∧ ∀ (A : Act) w' (γ : Nat → Value), Below w0.heap.size w0 w' → (∀ j, j < n → F j (γ j) w') → SlotF dsts γ a0 o A → o.wp P A w' (fun a' w'' => ∃ u, a' = A.put o.dst u ∧ T γ w'') Q) ∨
  (Nat.beq i n = false ∧ ∀ (A : Act) w' (γ : Nat → Value), Below w0.heap.size w0 w' → (∀ j, (edgesOf o).contains j = true → F j (γ j) w') → SlotF dsts γ a0 o A → o.wp P A w' (fun a' w'' => ∃ u, a' = A.put o.dst u ∧ Below w'.heap.size w' w'' ∧ F i u w'') Q)
theorem wp_region_vals2 {P : Program} {Q : Exit → Act → World → Prop} {id : Nat} {l : List Oper} {a : Act} {w : World} (dsts : List (Option Tmp)) (F : Nat → Value → World → Prop) (n : Nat) (T : (Nat → Value) → World → Prop) (hTc : ∀ γ γ' w, (∀ j, j < n → γ j = γ' j) → T γ w → T γ' w)
    (hF : ∀ j u w1 w2, F j u w1 → Below w1.heap.size w1 w2 → F j u w2)
    (hm : P.follows .mixedOrders = true) (hds : l.map (·.dst) = dsts) (hnd : nodupD dsts = true) (hng : (l.all fun o => o.guard.isNone) = true) (hord : ordGo 0 l = true) (hin : inD a.tmps.size dsts = true) (hn : l.length = n + 1)
    (step : StepAll (ValStep2 P Q w dsts F a n T) 0 l) (fin : ∀ γ w', T γ w' → Q .normal (Fr γ (fun _ => true) dsts 0 a) w') : (Code.region id l.toArray true).wp P Q a w := by
  refine wp_region_inv (Γ := Nat → Value) dsts (fun γ => γ) (fun γ L w' => (L n = false ∧ Below w.heap.size w w' ∧ ∀ j, L j = true → F j (γ j) w') ∨ (L n = true ∧ (∀ j, j < n → L j = true) ∧ T γ w')) hm hds hnd hng hord (fun _ => undef) (.inl ⟨rfl, (Below.refl _ _).drew, fun j h => by cases h⟩) ?_ ?_
  · have key : ∀ (l' : List Oper) (k : Nat), k + l'.length = n + 1 → StepAll (ValStep2 P Q w dsts F a n T) k l' → StepAll (fun i o => ∀ (γ : Nat → Value) (L : Nat → Bool) w', ((L n = false ∧ Below w.heap.size w w' ∧ ∀ j, L j = true → F j (γ j) w') ∨ (L n = true ∧ (∀ j, j < n → L j = true) ∧ T γ w')) → L i = false → (∀ j ∈ edgesOf o, L j = true) →
        o.wp P (Fr γ L dsts 0 a) w' (fun a' w'' => ∃ γ' : Nat → Value, (∀ j, L j = true → γ' j = γ j) ∧ a' = (Fr γ L dsts 0 a).put o.dst (γ' i) ∧ ((onL L i n = false ∧ Below w.heap.size w w'' ∧ ∀ j, onL L i j = true → F j (γ' j) w'') ∨ (onL L i n = true ∧ (∀ j, j < n → onL L i j = true) ∧ T γ' w''))) Q) k l' := by
      intro l'
      induction l' with
      | nil => intro _ _ _; trivial
      | cons o l' ih =>
        intro k hk hs
        refine ⟨?_, ih (k + 1) (by simp at hk; omega) hs.2⟩
        intro γ L w' hI hL hdep
        have hkn : k ≤ n := by simp at hk; omega
        have hln : L n = false := by
          cases e : L n with
          | false => rfl
          | true =>
            rcases hI with ⟨h, _⟩ | ⟨_, h, _⟩
            · rw [e] at h; cases h
            · by_cases hk2 : k = n
              · rw [hk2, e] at hL; cases hL
              · rw [h k (by omega)] at hL; cases hL
        obtain ⟨hb, hFs⟩ : Below w.heap.size w w' ∧ ∀ j, L j = true → F j (γ j) w' := by
          rcases hI with ⟨_, h⟩ | ⟨h, _⟩
          · exact h
          · rw [hln] at h; cases h
        have hSF : SlotF dsts γ a o (Fr γ L dsts 0 a) :=
          ⟨fun j hj t ht => Fr_get γ L t j (hdep j (List.contains_iff_mem.1 hj)) dsts 0 a hnd (Nat.zero_le _) (by simpa using ht) (inD_lt hin ht), fun t ht => Fr_old γ L t dsts 0 a ht⟩
        have hup : ∀ u, (fun j => if j = k then u else γ j) k = u := fun u => by simp
        have hkeep : ∀ u j, L j = true → (fun j => if j = k then u else γ j) j = γ j := fun u j hj => by
          by_cases e : j = k
          · rw [e, hL] at hj; cases hj
          · simp [e]
        rcases hs.1 with ⟨rfl, hall, hq⟩ | ⟨hne, hq⟩
        · have hd : ∀ j, j < k → L j = true := fun j hj => hdep j (List.contains_iff_mem.1 (List.all_eq_true.1 hall j (List.mem_range.2 hj)))
          refine Oper.wp_mono ?_ (hq _ w' γ hb (fun j hj => hFs j (hd j hj)) hSF)
          rintro a' w'' ⟨u, rfl, hT⟩
          refine ⟨fun j => if j = k then u else γ j, hkeep u, by rw [hup u], .inr ⟨onL_same, fun j hj => ?_, hTc γ _ _ (fun j hj => by simp [show ¬ j = k by omega]) hT⟩⟩
          simp [onL, hd j hj]
        · refine Oper.wp_mono ?_ (hq _ w' γ hb (fun j hj => hFs j (hdep j (List.contains_iff_mem.1 hj))) hSF)
          rintro a' w'' ⟨u, rfl, hbel, hFi⟩
          refine ⟨fun j => if j = k then u else γ j, hkeep u, by rw [hup u], .inl ⟨?_, bt hb hbel, fun j hj => ?_⟩⟩
          · have hne' : n ≠ k := fun e => by subst e; simp at hne
            rw [onL_ne hne', hln]
          · by_cases e : j = k
            · subst e
              rw [hup u]
              exact hFi
            · have hj' : L j = true := by rw [onL_ne e] at hj; exact hj
              rw [hkeep u j hj']
              exact hF j _ _ _ (hFs j hj') hbel
    exact key l 0 (by omega) step
  · rintro γ L w' hL hI
    rcases hI with ⟨h, _⟩ | ⟨_, _, h⟩
    · rw [hL n (by omega)] at h; cases h
    · exact fin γ w' h
end Go.Proofs.YtfebknplkbeblaaDoor

namespace Go.Proofs.YtfebknplkbeblaaDoor
open Go.RowKit
set_option linter.unusedVariables false
theorem op_alloc {P : Program} {Q : Exit → Act → World → Prop} {o : Oper} {A : Act} {w : World} (z : Array Value) (t : TypeId) (hrun : (execOp A.eval o).run P w = .ok (.value (.pointer (some ⟨w.heap.size, 0, none⟩))) (w.alloc (.cells z t))) :
    o.wp P A w (fun a' w'' => ∃ u, a' = A.put o.dst u ∧ Below w.heap.size w w'' ∧ u = .pointer (some ⟨w.heap.size, 0, none⟩) ∧ Blk w'' w.heap.size t z) Q := by
  unfold Oper.wp
  rw [hrun]
  exact ⟨_, rfl, ba (Below.refl _ _) _, rfl, Blk.new w t z⟩
theorem op_field2R {Q : Exit → Act → World → Prop} {o : Oper} {A : Act} {w : World} (x : Operand) (ho : o.op = .fieldAddr 29 x 2) (g : Nat) (hx : A.eval x = .pointer (some ⟨g, 0, none⟩)) :
    o.wp Tryd.prog A w (fun a' w'' => a' = A.put o.dst (.pointer (some ⟨g, 9, none⟩)) ∧ Below w.heap.size w w'') Q := by
  have hf : (Instr.fieldAt 29 (.pointer (some ⟨g, 0, none⟩)) 2).run Tryd.prog w = .ok (.pointer (some ⟨g, 9, none⟩)) w := by kernel_rfl
  refine op_run ?_
  unfold execOp
  simp only [ho, hx, Sem.run_bind, hf]
  rfl
def PadV (n : Nat) (u : Value) (w : World) : Prop := ∃ (a : Option Addr) (c : Nat), u = .slice a (padOf n).length c ∧ RdS w a (padOf n) ∧ (padOf n).length ≤ c ∧ c ≤ maxLen ∧ (a = none → (padOf n).length = 0 ∧ c = 0)
theorem PadV.keep {n : Nat} {u : Value} {w w' : World} (h : PadV n u w) (hb : Below w.heap.size w w') : PadV n u w' := by
  obtain ⟨a, c, h1, h2, h3⟩ := h
  exact ⟨a, c, h1, h2.calls hb, h3⟩
/-- What holds of what the third region of the document's End yields. -/
def REndF (B g : Nat) (SE : Array Value) (ne : Nat) (HF : List Wd) : Nat → Value → World → Prop
  | 0, u, _ => u = .agg SE
  | 1, u, _ => u = .pointer (some ⟨g, 9, none⟩)
  | 2, u, _ => u = .int .u64 ne
  | 3, u, w => PadV ne u w
  | 4, u, _ => ∃ a l c N, u = .agg (stC HF (.slice a l c) N)
  | 5, u, w => ∃ p, u = .pointer (some ⟨p, 0, none⟩) ∧ Blk w p 29 (startC 0) ∧ B < p
  | _, _, _ => True
theorem REndF.keep {B g : Nat} {SE : Array Value} {ne : Nat} {HF : List Wd} : ∀ j u w1 w2, REndF B g SE ne HF j u w1 → Below w1.heap.size w1 w2 → REndF B g SE ne HF j u w2
  | 0, _, _, _, h, _ => h
  | 1, _, _, _, h, _ => h
  | 2, _, _, _, h, _ => h
  | 3, _, _, _, h, hb => PadV.keep h hb
  | 4, _, _, _, h, _ => h
  | 5, _, _, _, ⟨p, h1, h2, h3⟩, hb => ⟨p, h1, h2.calls hb, h3⟩
  | _ + 6, _, _, _, h, _ => h
set_option maxRecDepth 100000 in
set_option maxHeartbeats 4000000 in
theorem REnd_any (H : List Wd) (hH : H.length = 8) (a : Option Addr) (rest : List UInt8) (len c n : Nat) (hn : n < W64) (hrl : rest.length = len) (hlc : len ≤ c) (hcm : c ≤ maxLen) (hl47 : len ≤ 70368744177664) (hnoa : a = none → len = 0 ∧ c = 0) (w : World) (hrr : RdS w a rest) :
    Calls Tryd.prog 33 #[.agg (stC H (.slice a len c) n)] w fun e w' => e = .returned (.agg (u8cells (wbytes (absH (effH H len n) (effR rest len n ++ padOf (effN len n)))))) ∧ Below w.heap.size w w' := by
  have hRe47 : (effR rest len n).length ≤ 70368744177664 := by unfold effR; split; omega; simp
  have hl9 : len ≤ 9223372036854775807 := by unfold maxLen at hcm; omega
  obtain ⟨b, hb⟩ : ∃ b, decide (len = n % 64) = b := ⟨_, rfl⟩
  have iS := isRS (stC H (.slice a len c) n) (stC_size _ _ _ hH)
  have cS := fun w => RSane_any H hH a len c n hn hl9 b hb w
  obtain ⟨S, hS⟩ : ∃ S, S = stC H (.slice a len c) n := ⟨_, rfl⟩
  have sS : S.size = 10 := by rw [hS]; exact stC_size _ _ _ hH
  rw [← hS] at iS cS ⊢
  obtain ⟨ae, ce, hae, hce1, hce2, hrae, hnoe⟩ : ∃ (ae : Option Addr) (ce : Nat), ((b = true ∧ ae = a ∧ ce = c) ∨ (b = false ∧ ae = none ∧ ce = 0)) ∧ (effR rest len n).length ≤ ce ∧ ce ≤ maxLen ∧ RdS w ae (effR rest len n) ∧ (ae = none → (effR rest len n).length = 0 ∧ ce = 0) := by
    cases hbb : b with
    | true =>
      have : len = n % 64 := by rw [hbb] at hb; simpa using hb
      refine ⟨a, c, .inl ⟨rfl, rfl, rfl⟩, ?_, hcm, ?_, ?_⟩ <;> simp only [effR, if_pos this]
      · omega
      · exact hrr
      · rw [hrl]; exact hnoa
    | false =>
      have : ¬ len = n % 64 := by rw [hbb] at hb; simpa using hb
      refine ⟨none, 0, .inr ⟨rfl, rfl, rfl⟩, ?_, Nat.zero_le _, ?_, ?_⟩ <;> simp only [effR, if_neg this]
      · exact Nat.le_refl _
      · exact .inl rfl
      · simp
  obtain ⟨SE, hSE⟩ : ∃ SE, SE = stC (effH H len n) (.slice ae (effR rest len n).length ce) (effN len n) := ⟨_, rfl⟩
  have hcase : (b = true ∧ S = SE) ∨ (b = false ∧ stC HI (.slice none 0 0) 0 = SE) := by
    rcases hae with ⟨h1, h2, h3⟩ | ⟨h1, h2, h3⟩
    · have : len = n % 64 := by rw [h1] at hb; simpa using hb
      exact .inl ⟨h1, by rw [hS, hSE, h2, h3]; simp only [effH, effR, effN, if_pos this, hrl]⟩
    · have : ¬ len = n % 64 := by rw [h1] at hb; simpa using hb
      exact .inr ⟨h1, by rw [hSE, h2, h3]; simp only [effH, effR, effN, if_neg this]; rfl⟩
  have hHe : (effH H len n).length = 8 := by unfold effH; split; exact hH; exact HI_length
  have hne : effN len n < W64 := by unfold effN; split; exact hn; exact W64_pos
  have hsane : (effR rest len n).length = effN len n % 64 := by unfold effR effN; split <;> simp_all
  clear hae hl9 hrl hlc hcm hrr hS hnoa
  generalize effH H len n = He at *
  generalize effR rest len n = Re at *
  generalize effN len n = ne at *
  obtain ⟨HF, hHF⟩ : ∃ HF, HF = absH He (Re ++ padOf ne) := ⟨_, rfl⟩
  have hHFl : HF.length = 8 := by rw [hHF]; exact absH_length _ _ hHe
  rw [← hHF]
  obtain ⟨L, hLb⟩ : ∃ L, L = wbytes HF := ⟨_, rfl⟩
  rw [← hLb]
  have hLl : L.length = 32 := by rw [hLb]; exact wbytes_length HF hHFl
  obtain ⟨C, hC⟩ : ∃ C, C = u8cells L := ⟨_, rfl⟩
  rw [← hC]
  have sE : SE.size = 10 := by rw [hSE]; exact stC_size _ _ _ hHe
  have iE := isRS SE sE
  have aE : SE.all (·.oneCell') = true := by rw [hSE]; exact stC_one _ _ _ _ _
  have sSE : S.size = SE.size := by rw [sS, sE]
  have cW := fun (w2 : World) (hb : Below w.heap.size w w2) (p : Option Addr) (cp : Nat) (h1 : RdS w2 p (padOf ne)) (h2 : (padOf ne).length ≤ cp) (h3 : cp ≤ maxLen) (h4 : p = none → (padOf ne).length = 0 ∧ cp = 0) =>
    RWrite_any He hHe ae Re Re.length ce ne hne rfl hce1 hce2 hRe47 hnoe p (padOf ne) (padOf ne).length cp rfl h2 ⟨by rw [padOf_length]; unfold zerosOf; split <;> omega, by unfold maxLen at h3; omega⟩ h4 w2 (hrae.below hb (Nat.le_refl _)) h1
  have F := Lib.hid (And.intro hSE (And.intro hHF (And.intro hHFl (And.intro hHe (And.intro hne (And.intro hsane (And.intro hLb (And.intro hLl hC)))))))); clear hSE hHF hHFl hHe hne hsane hrae hb hLb hLl hC hnoe
  have CS := Lib.hid cS; clear cS
  have CW := Lib.hid cW; clear cW
  go_enter Tryd.func33, Tryd.ntmps33
  go_wp2_with (with_reducible refine wl_st ((Blk.newAt w _ S rfl).alloc _) _ _ rfl rfl rfl _ Tryd.underlying29 iS ?_)
  refine (CS.out _).mono ?_
  rintro e w1 ⟨rfl, hb1⟩
  obtain ⟨H0, hH0⟩ : ∃ H0, H0 = Array.replicate 32 (Value.int .u8 0) := ⟨_, rfl⟩
  have A0 : Blk w1 w.heap.size 29 S := ((Blk.newAt w _ S rfl).alloc _).calls hb1
  have A1 : Blk w1 (w.heap.size + 1) 38 H0 := by rw [hH0]; exact (Blk.second w _ _ _).calls hb1
  have AB : Below w.heap.size w w1 := bt (ba (ba (Below.refl _ _) _) _) hb1
  have z0 := A0.lt
  have z1 := A1.lt
  clear hb1
  have HH0 := Lib.hid hH0; clear hH0
  go_upto_if 9 with fail
  go_cut [] (fun wx => Blk wx w.heap.size 29 SE ∧ Blk wx (w.heap.size + 1) 38 H0 ∧ Below w.heap.size w wx)
  case first =>
    rcases hcase with ⟨h1, h2⟩ | ⟨h1, h2⟩
    · subst h1
      rw [h2] at A0
      have HA := Lib.hid (And.intro A0 (And.intro A1 AB)); clear A0 A1 AB h2
      go_wp2_with fail
      go_meet
      exact HA.out
    · subst h1
      have HA := Lib.hid (And.intro A0 (And.intro A1 AB)); clear A0 A1 AB
      have h2' := Lib.hid h2; clear h2
      go_wp2_with fail
      refine (RStart_any _).mono ?_
      rintro e w2 ⟨rfl, hb2⟩
      rw [h2'.out]
      have B0 := HA.out.1.calls hb2
      have B1 := HA.out.2.1.calls hb2
      have BB := bt HA.out.2.2 hb2
      have HB := Lib.hid (And.intro B0 (And.intro B1 BB)); clear B0 B1 BB hb2 HA
      go_wp2_with (with_reducible refine ws_row HB.out.1 _ _ _ _ rfl rfl rfl rfl iE sSE aE ?_)
      go_meet
      exact ⟨HB.out.1.row _, HB.out.2.1.rowFar (by omega) _, setRow_below HB.out.2.2 (by omega) _⟩
  case rest =>
    obtain ⟨B0, B1, BB⟩ := hcut
    clear hcase sSE iS A0 A1 AB CS z0 z1
    have z0 := B0.lt
    have z1 := B1.lt
    have B := Lib.hid (And.intro B0 (And.intro B1 BB)); clear B0 B1 BB
    go_wp2_with fail
    refine wp_region_vals2 [some 11, some 12, some 13, some 14, some 15, some 3, none] (REndF (w.heap.size + 1) w.heap.size SE ne HF) 6 (fun γ w' => ∃ p a l c N, γ 5 = .pointer (some ⟨p, 0, none⟩) ∧ w.heap.size + 1 < p ∧ Blk w' p 29 (stC HF (.slice a l c) N) ∧ Blk w' (w.heap.size + 1) 38 H0 ∧ Below w.heap.size w w') (fun γ γ' w h ⟨p, a, l, c, N, h1, h2⟩ => ⟨p, a, l, c, N, (h 5 (by omega)).symm.trans h1, h2⟩) REndF.keep (by kernel_rfl) rfl rfl rfl rfl rfl rfl ⟨
      .inr ⟨rfl, fun A w' γ hb hf hs => Oper.wp_mono (by rintro a' w'' ⟨h1, h2⟩; exact ⟨_, h1, h2, rfl⟩) (wp_load_row (K := fun a' w'' => a' = A.put (some 11) (.agg SE) ∧ Below w'.heap.size w' w'') 29 (.tmp 1) rfl w.heap.size ((hs.2 1 rfl).trans rfl) 29 SE (0, 0) _ (B.out.1.below hb z0) Tryd.underlying29 rfl iE ⟨rfl, Below.refl _ _⟩)⟩,
      .inr ⟨rfl, fun A w' γ hb hf hs => Oper.wp_mono (by rintro a' w'' ⟨h1, h2⟩; exact ⟨_, h1, h2, rfl⟩) (op_field2R (.tmp 1) rfl w.heap.size ((hs.2 1 rfl).trans rfl))⟩,
      .inr ⟨rfl, fun A w' γ hb hf hs => Oper.wp_mono (by rintro a' w'' ⟨h1, h2⟩; exact ⟨_, h1, h2, rfl⟩) (op_cell 27 (.tmp 12) rfl ⟨w.heap.size, 9, none⟩ ((hs.1 1 rfl 12 rfl).trans (hf 1 rfl)) (.int .u64 ne) (by rw [(B.out.1.below hb z0).cell, F.out.1]; exact stC_num _ _ _ F.out.2.2.2.1) _ Tryd.underlying27 rfl)⟩,
      .inr ⟨rfl, fun A w' γ hb hf hs => Oper.wp_mono (by rintro a' w'' ⟨u, h1, h2, h3⟩; exact ⟨u, h2, h3, h1⟩) (op_call1 35 _ (exec_call _ 35 _ rfl rfl (margs1 (show A.eval (.tmp 13) = _ from (hs.1 2 rfl 13 rfl).trans (hf 2 rfl))) Tryd.func35 rfl rfl) (fun u w'' => PadV ne u w'') ((RPad_any ne F.out.2.2.2.2.1 w').mono (by rintro e w'' ⟨v, rfl, h1, h2⟩; exact ⟨v, rfl, h1, h2⟩)))⟩,
      .inr ⟨rfl, fun A w' γ hb hf hs => by
        obtain ⟨p, cp, hp1, hp2, hp3, hp4, hp5⟩ := hf 3 rfl
        refine Oper.wp_mono ?_ (op_call1 32 _ (exec_call _ 32 _ rfl rfl (margs2 (show A.eval (.tmp 11) = _ from (hs.1 0 rfl 11 rfl).trans (hf 0 rfl)) (show A.eval (.tmp 14) = _ from (hs.1 3 rfl 14 rfl).trans hp1)) Tryd.func32 rfl rfl) (fun u w'' => ∃ a l c N, u = .agg (stC HF (.slice a l c) N)) ?_)
        · rintro a' w'' ⟨u, h1, h2, h3⟩
          exact ⟨u, h2, h3, h1⟩
        · rw [F.out.1]
          refine (CW.out w' (bt B.out.2.2 hb) p cp hp2 hp3 hp4 hp5).mono ?_
          rintro e w'' ⟨a2, c2, rfl, _, _, _, _, hb2⟩
          refine ⟨_, rfl, hb2, a2, (absR (Re ++ padOf ne)).length, c2, (ne + (padOf ne).length) % W64, ?_⟩
          rw [F.out.2.1]
          simp only [effH, effR, effN, if_pos F.out.2.2.2.2.2.1]⟩,
      .inr ⟨rfl, fun A w' γ hb hf hs => Oper.wp_mono (by rintro a' w'' ⟨u, h1, h2, h3, h4⟩; exact ⟨u, h1, h2, _, h3, h4, Nat.lt_of_lt_of_le z1 hb.size⟩) (op_alloc (startC 0) 29 rfl)⟩,
      .inl ⟨rfl, rfl, fun A w' γ hb hf hs => by
        obtain ⟨a2, l2, c2, N2, hu⟩ := hf 4 (by omega)
        obtain ⟨p, hp1, hp2, hp3⟩ := hf 5 (by omega)
        have s10 : (stC HF (.slice a2 l2 c2) N2).size = 10 := stC_size _ _ _ F.out.2.2.1
        have hpne : p ≠ w.heap.size := by omega
        have hpne2 : w.heap.size + 1 ≠ p := by omega
        refine wp_store_row 29 (.tmp 3) (.tmp 15) rfl p (stC HF (.slice a2 l2 c2) N2) ((hs.1 5 rfl 3 rfl).trans hp1) ((hs.1 4 rfl 15 rfl).trans hu) 29 (startC 0) hp2 (isRS _ s10) (by rw [s10]; rfl) (stC_one _ _ _ _ _) ⟨undef, rfl, p, a2, l2, c2, N2, hp1, by omega, ?_, ?_, ?_⟩
        · exact hp2.row _
        · exact (B.out.2.1.below hb z1).rowFar hpne2 _
        · exact setRow_below (bt B.out.2.2 hb) (by omega) _⟩, trivial⟩ ?_
    rintro γ wt ⟨p, at', lt, ct, Nt, hp5, hpl, hT1, hT2, hT3⟩
    simp only [Fr, if_true, Act.put, List.setIfInBounds_toArray, List.set_cons_zero, List.set_cons_succ, List.getD_cons_zero, List.getD_cons_succ]
    rw [hp5]
    generalize γ 0 = s10
    generalize γ 1 = s11
    generalize γ 2 = s12
    generalize γ 3 = s13
    generalize γ 4 = s14
    have i8H := is8 (u32c HF) (by rw [u32c_size, F.out.2.2.1])
    have zt0 := hT1.lt
    have zt1 := hT2.lt
    have zt2 := hT3.size
    have TT := Lib.hid (And.intro hT1 (And.intro hT2 hT3)); clear hT1 hT2 hT3 hp5 B
    go_wp2
    go_loopw [5] (fun i wr => ∃ k : Nat, k ≤ 8 ∧ i = .int .i64 k ∧ Blk wr wt.heap.size 38 (partB L (4 * k)) ∧ Below wt.heap.size wt wr) (fun i _ => 8 - (intOf i).toNat)
    case atStart =>
      refine ⟨0, by omega, rfl, ?_, ba (Below.refl _ _) _⟩
      rw [Nat.mul_zero, partB_zero, F.out.2.2.2.2.2.2.2.1]
      exact Blk.new wt _ _
    case round =>
      obtain ⟨k, hk, rfl, h0, hb⟩ := hrel
      by_cases hlt : k < 8
      · have hki : (k : Int) < 8 := by omega
        have R0 := Lib.hid (And.intro h0 hb); clear h0 hb
        go_wp2
        go_loopw [6] (fun i wq => ∃ j : Nat, j ≤ 4 ∧ i = .int .i64 j ∧ Blk wq wt.heap.size 38 (partB L (4 * k + j)) ∧ Below wt.heap.size wt wq) (fun i _ => 4 - (intOf i).toNat)
        case atStart => exact ⟨0, by omega, rfl, R0.out.1, R0.out.2⟩
        case round =>
          clear R0
          obtain ⟨j, hj, rfl, h0, hb⟩ := hrel
          by_cases hlt2 : j < 4
          · obtain ⟨q, hq⟩ : ∃ q, q = 4 * k := ⟨_, rfl⟩
            obtain ⟨s, hs⟩ : ∃ s, s = q + j := ⟨_, rfl⟩
            obtain ⟨t, ht⟩ : ∃ t, t = 8 * j := ⟨_, rfl⟩
            obtain ⟨v, hv⟩ : ∃ v, v = 24 - t := ⟨_, rfl⟩
            obtain ⟨x, hx⟩ : ∃ x, x = HF.getD k 0 := ⟨_, rfl⟩
            obtain ⟨X, hX⟩ : ∃ X, X = wn x := ⟨_, rfl⟩
            obtain ⟨y, hy⟩ : ∃ y, y = (L.getD s 0).toNat := ⟨_, rfl⟩
            have q0 : (X : Int) / (2 : Int) ^ v % 256 = (y : Int) := by
              rw [hy, hs, hq, F.out.2.2.2.2.2.2.1, wbytes_at HF F.out.2.2.1 k j hlt hlt2, ← hx, ← hX, show (256 : Nat) = 2 ^ 8 from rfl, ← Nat.pow_mul, show 8 * (3 - j) = v by omega]
              generalize hyy : X / 2 ^ v = yy
              have e : (X : Int) / (2 : Int) ^ v = (yy : Int) := by rw [← hyy]; push_cast; rfl
              rw [e]
              simp
            have iq : (4 : Int) * (k : Int) = (q : Int) := by omega
            have is : (q : Int) + (j : Int) = (s : Int) := by omega
            have it : (8 : Int) * (j : Int) = (t : Int) := by omega
            have iv : (24 : Int) - (t : Int) = (v : Int) := by omega
            have ev : IntKind.u64.wrap (v : Int) = (v : Int) := by rw [IntKind.wrap_u64]; omega
            have v64 : v < 32 := by omega
            have s32 : s < 32 := by omega
            have k8 : k < 8 := hlt
            have cH := (TT.out.1.below hb zt0).cell k
            rw [stC_word _ _ _ k F.out.2.2.1 hlt, ← hx, ← hX] at cH
            rw [← hq, ← hs] at h0
            obtain ⟨v0, hv0⟩ := partB_at L s s (by rw [F.out.2.2.2.2.2.2.2.1]; exact s32)
            have c0 := blk_get h0 s _ hv0
            have f0 := h0.frozen s
            have hji : (j : Int) < 4 := by omega
            have R := Lib.hid (And.intro h0 (And.intro hb (And.intro hq (And.intro hs (And.intro ht (And.intro hv (And.intro hx (And.intro hX hy)))))))); clear h0 hb hq hs ht hv hx hX hy hv0
            go_wp2
            obtain ⟨h0, hb, hq, hs, ht, hv, hx, hX, hy⟩ := R.out
            go_roundw
            case rel =>
              have s0 := partB_set L s (by rw [F.out.2.2.2.2.2.2.2.1]; exact s32)
              rw [← hy] at s0
              refine ⟨j + 1, by omega, by go_num, ?_, hb.setCell (Nat.le_refl _) _⟩
              rw [show 4 * k + (j + 1) = s + 1 by omega, ← s0]
              exact h0.set_ s _
            case measure => simp [intOf]; omega
          · obtain rfl : j = 4 := by omega
            have R := Lib.hid (And.intro h0 hb); clear h0 hb
            go_wp2
            obtain ⟨h0, hb⟩ := R.out
            go_roundw
            case rel => exact ⟨k + 1, by omega, by go_num, by rw [show 4 * (k + 1) = 4 * k + 4 by omega]; exact h0, hb⟩
            case measure => simp [intOf]; omega
      · obtain rfl : k = 8 := by omega
        rw [partB_full L (4 * 8) (by have := F.out.2.2.2.2.2.2.2.1; omega), ← F.out.2.2.2.2.2.2.2.2] at h0
        have B1 := TT.out.2.1.below hb zt1
        have FB := bt TT.out.2.2 hb
        have sC : C.size = 32 := by rw [F.out.2.2.2.2.2.2.2.2, u8cells_size]; exact F.out.2.2.2.2.2.2.2.1
        have iC : (Tryd.prog.info? 38).map (·.size) = some C.size := by rw [sC]; kernel_rfl
        have s1 : H0.size = C.size := by rw [sC, HH0.out]; simp
        have aC : C.all (·.oneCell') = true := by rw [F.out.2.2.2.2.2.2.2.2]; exact u8cells_one _
        have K := Lib.hid (And.intro h0 (And.intro B1 FB)); clear h0 B1 FB hb sC
        go_wp2_with (first | with_reducible refine wl_row K.out.1 _ _ rfl rfl rfl _ _ Tryd.underlying38 iC ?_ | with_reducible refine ws_row K.out.2.1 _ _ _ _ rfl rfl rfl rfl iC s1 aC ?_)
        refine bodyPost_ret (v := .agg C) ?_ rfl ⟨rfl, setRow_below K.out.2.2 (by omega) _⟩
        exact results_cell_row rfl _ _ _ _ _ (0, 0) _ rfl (K.out.2.1.row _) Tryd.underlying38 rfl iC
end Go.Proofs.YtfebknplkbeblaaDoor

namespace Go.Proofs.YtfebknplkbeblaaDoor
open Go.RowKit
set_option linter.unusedVariables false
set_option maxRecDepth 100000 in
set_option maxHeartbeats 400000 in
theorem RSum_any (a' : Option Addr) (t : List UInt8) (m c' : Nat) (hm : t.length = m) (hc : m ≤ c') (hc2 : m ≤ 70368744177664 ∧ c' ≤ 9223372036854775807) (hno : a' = none → m = 0 ∧ c' = 0) (w : World) (hr : RdS w a' t) :
    Calls Tryd.prog 28 #[.slice a' m c'] w fun e w' => e = .returned (.agg (u8cells (sumOf t))) ∧ Below w.heap.size w w' := by
  obtain ⟨C, hC⟩ : ∃ C, C = u8cells (sumOf t) := ⟨_, rfl⟩
  have sC : C.size = 32 := by rw [hC, u8cells_size]; exact sumOf_length t
  have iC : (Tryd.prog.info? 38).map (·.size) = some C.size := by rw [sC]; kernel_rfl
  have aC : C.all (·.oneCell') = true := by rw [hC]; exact u8cells_one _
  obtain ⟨H0, hH0⟩ : ∃ H0, H0 = Array.replicate 32 (Value.int .u8 0) := ⟨_, rfl⟩
  have s1 : H0.size = C.size := by rw [sC, hH0]; simp
  rw [← hC]
  have F := Lib.hid (And.intro hm (And.intro hr (And.intro hC hH0))); clear hm hr hC hH0 sC
  go_enter Tryd.func28, Tryd.ntmps28
  go_wp2_with fail
  refine (RStart_any _).mono ?_
  rintro e w1 ⟨rfl, hb1⟩
  have A0 : Blk w1 w.heap.size 38 H0 := by rw [F.out.2.2.2]; exact (Blk.new w _ _).calls hb1
  have AB : Below w.heap.size w w1 := bt (ba (Below.refl _ _) _) hb1
  have A := Lib.hid (And.intro A0 AB); clear A0 AB hb1
  obtain ⟨S0, hS0⟩ : ∃ S, S = stC HI (.slice none 0 0) 0 := ⟨_, rfl⟩
  have cW := RWrite_any HI HI_length none [] 0 0 0 W64_pos rfl (Nat.le_refl _) (Nat.zero_le _) (by omega) (fun _ => ⟨rfl, rfl⟩) a' t m c' F.out.1 hc hc2 hno w1 (.inl rfl) (F.out.2.1.below A.out.2 (Nat.le_refl _))
  rw [← hS0] at cW ⊢
  have CW := Lib.hid (And.intro cW hS0); clear cW hS0
  go_wp2_with fail
  refine CW.out.1.mono ?_
  rintro e w2 ⟨a2, c2, rfl, h1, h2, h3, h4, hb2⟩
  have eH : effH HI 0 0 = HI := by unfold effH; split <;> rfl
  have eR : effR [] 0 0 ++ t = t := by unfold effR; split <;> rfl
  have eN : (effN 0 0 + m) % W64 = m % W64 := by unfold effN; split <;> simp
  rw [eR] at h1 h2 h4
  rw [eH, eR, eN]
  have hlt : (absR t).length < 64 := by rw [absR_length]; exact Nat.mod_lt _ (by omega)
  have cE := REnd_any (absH HI t) (absH_length _ _ HI_length) a2 (absR t) (absR t).length c2 (m % W64) (Nat.mod_lt _ W64_pos) rfl h2 h3 (by omega) h4 w2 h1
  have hs : (absR t).length = m % W64 % 64 := by rw [absR_length, F.out.1]; unfold W64; omega
  simp only [effH, effR, effN, if_pos hs] at cE
  rw [← absH_app, show wbytes (absH HI (t ++ padOf (m % W64))) = sumOf t by unfold sumOf; rw [F.out.1]] at cE
  obtain ⟨S2, hS2⟩ : ∃ S, S = stC (absH HI t) (.slice a2 (absR t).length c2) (m % W64) := ⟨_, rfl⟩
  rw [← hS2, ← F.out.2.2.1] at cE
  rw [← hS2]
  have B := Lib.hid (And.intro (A.out.1.calls hb2) (And.intro (bt A.out.2 hb2) cE)); clear hb2 A cE h1 h2 h3 h4 hlt hs eH eR eN hS2
  go_wp2_with fail
  refine B.out.2.2.mono ?_
  rintro e w3 ⟨rfl, hb3⟩
  have D := Lib.hid (And.intro (B.out.1.calls hb3) (bt B.out.2.1 hb3)); clear hb3 B
  go_wp2_with (with_reducible refine ws_row D.out.1 _ _ _ _ rfl rfl rfl rfl iC s1 aC ?_)
  refine bodyPost_ret (v := .agg C) ?_ rfl ⟨rfl, setRow_below D.out.2 (Nat.le_refl _) _⟩
  exact results_cell_row rfl _ _ _ _ _ (0, 0) _ rfl (D.out.1.row _) Tryd.underlying38 rfl iC
set_option maxRecDepth 100000 in
set_option maxHeartbeats 1000000 in
theorem RDouble_any (a' : Option Addr) (t : List UInt8) (m c' : Nat) (hm : t.length = m) (hc : m ≤ c') (hc2 : m ≤ 70368744177664 ∧ c' ≤ 9223372036854775807) (hno : a' = none → m = 0 ∧ c' = 0) (w : World) (hr : RdS w a' t) :
    Calls Tryd.prog 30 #[.slice a' m c'] w fun e w' => e = .returned (.agg (u8cells (sumOf (sumOf t)))) ∧ Below w.heap.size w w' := by
  obtain ⟨S, hS⟩ : ∃ S, S = sumOf t := ⟨_, rfl⟩
  have hSl : S.length = 32 := by rw [hS]; exact sumOf_length t
  obtain ⟨C1, hC1⟩ : ∃ C, C = u8cells S := ⟨_, rfl⟩
  obtain ⟨C, hC⟩ : ∃ C, C = u8cells (sumOf S) := ⟨_, rfl⟩
  have sC : C.size = 32 := by rw [hC, u8cells_size]; exact sumOf_length S
  have sC1 : C1.size = 32 := by rw [hC1, u8cells_size]; exact hSl
  have iC : (Tryd.prog.info? 38).map (·.size) = some C.size := by rw [sC]; kernel_rfl
  have iC1 : (Tryd.prog.info? 38).map (·.size) = some C1.size := by rw [sC1]; kernel_rfl
  have aC : C.all (·.oneCell') = true := by rw [hC]; exact u8cells_one _
  have aC1 : C1.all (·.oneCell') = true := by rw [hC1]; exact u8cells_one _
  have s1 : (Array.size (#[.int .u8 0, .int .u8 0, .int .u8 0, .int .u8 0, .int .u8 0, .int .u8 0, .int .u8 0, .int .u8 0, .int .u8 0, .int .u8 0, .int .u8 0, .int .u8 0, .int .u8 0, .int .u8 0, .int .u8 0, .int .u8 0, .int .u8 0, .int .u8 0, .int .u8 0, .int .u8 0, .int .u8 0, .int .u8 0, .int .u8 0, .int .u8 0, .int .u8 0, .int .u8 0, .int .u8 0, .int .u8 0, .int .u8 0, .int .u8 0, .int .u8 0, .int .u8 0] : Array Value)) = C1.size := by rw [sC1]; rfl
  have s2 : (Array.size (#[.int .u8 0, .int .u8 0, .int .u8 0, .int .u8 0, .int .u8 0, .int .u8 0, .int .u8 0, .int .u8 0, .int .u8 0, .int .u8 0, .int .u8 0, .int .u8 0, .int .u8 0, .int .u8 0, .int .u8 0, .int .u8 0, .int .u8 0, .int .u8 0, .int .u8 0, .int .u8 0, .int .u8 0, .int .u8 0, .int .u8 0, .int .u8 0, .int .u8 0, .int .u8 0, .int .u8 0, .int .u8 0, .int .u8 0, .int .u8 0, .int .u8 0, .int .u8 0] : Array Value)) = C.size := by rw [sC]; rfl
  rw [← hS, ← hC]
  have F := Lib.hid (And.intro hm (And.intro hr (And.intro hC (And.intro hS (And.intro hC1 hSl))))); clear hm hr hC hS hC1 hSl sC sC1
  go_enter Tryd.func30, Tryd.ntmps30
  go_wp2_with fail
  refine (RSum_any a' t m c' F.out.1 hc hc2 hno _ (F.out.2.1.below (ba (Below.refl _ _) _) (Nat.le_refl _)) ).mono ?_
  rintro e w1 ⟨rfl, hb1⟩
  rw [← F.out.2.2.2.1, ← F.out.2.2.2.2.1]
  have A0 : Blk w1 w.heap.size 38 #[.int .u8 0, .int .u8 0, .int .u8 0, .int .u8 0, .int .u8 0, .int .u8 0, .int .u8 0, .int .u8 0, .int .u8 0, .int .u8 0, .int .u8 0, .int .u8 0, .int .u8 0, .int .u8 0, .int .u8 0, .int .u8 0, .int .u8 0, .int .u8 0, .int .u8 0, .int .u8 0, .int .u8 0, .int .u8 0, .int .u8 0, .int .u8 0, .int .u8 0, .int .u8 0, .int .u8 0, .int .u8 0, .int .u8 0, .int .u8 0, .int .u8 0, .int .u8 0] := (Blk.new w _ _).calls hb1
  have AB : Below w.heap.size w w1 := bt (ba (Below.refl _ _) _) hb1
  have z0 := A0.lt
  have N : Blk _ w1.heap.size 38 #[.int .u8 0, .int .u8 0, .int .u8 0, .int .u8 0, .int .u8 0, .int .u8 0, .int .u8 0, .int .u8 0, .int .u8 0, .int .u8 0, .int .u8 0, .int .u8 0, .int .u8 0, .int .u8 0, .int .u8 0, .int .u8 0, .int .u8 0, .int .u8 0, .int .u8 0, .int .u8 0, .int .u8 0, .int .u8 0, .int .u8 0, .int .u8 0, .int .u8 0, .int .u8 0, .int .u8 0, .int .u8 0, .int .u8 0, .int .u8 0, .int .u8 0, .int .u8 0] := Blk.new w1 38 #[.int .u8 0, .int .u8 0, .int .u8 0, .int .u8 0, .int .u8 0, .int .u8 0, .int .u8 0, .int .u8 0, .int .u8 0, .int .u8 0, .int .u8 0, .int .u8 0, .int .u8 0, .int .u8 0, .int .u8 0, .int .u8 0, .int .u8 0, .int .u8 0, .int .u8 0, .int .u8 0, .int .u8 0, .int .u8 0, .int .u8 0, .int .u8 0, .int .u8 0, .int .u8 0, .int .u8 0, .int .u8 0, .int .u8 0, .int .u8 0, .int .u8 0, .int .u8 0]
  have R := N.row C1
  have R0 := (A0.alloc (.cells #[.int .u8 0, .int .u8 0, .int .u8 0, .int .u8 0, .int .u8 0, .int .u8 0, .int .u8 0, .int .u8 0, .int .u8 0, .int .u8 0, .int .u8 0, .int .u8 0, .int .u8 0, .int .u8 0, .int .u8 0, .int .u8 0, .int .u8 0, .int .u8 0, .int .u8 0, .int .u8 0, .int .u8 0, .int .u8 0, .int .u8 0, .int .u8 0, .int .u8 0, .int .u8 0, .int .u8 0, .int .u8 0, .int .u8 0, .int .u8 0, .int .u8 0, .int .u8 0] 38)).rowFar (show w.heap.size ≠ w1.heap.size by omega) C1
  have RB := setRow_below (ba AB (.cells #[.int .u8 0, .int .u8 0, .int .u8 0, .int .u8 0, .int .u8 0, .int .u8 0, .int .u8 0, .int .u8 0, .int .u8 0, .int .u8 0, .int .u8 0, .int .u8 0, .int .u8 0, .int .u8 0, .int .u8 0, .int .u8 0, .int .u8 0, .int .u8 0, .int .u8 0, .int .u8 0, .int .u8 0, .int .u8 0, .int .u8 0, .int .u8 0, .int .u8 0, .int .u8 0, .int .u8 0, .int .u8 0, .int .u8 0, .int .u8 0, .int .u8 0, .int .u8 0] 38)) (show w.heap.size ≤ w1.heap.size from AB.size) C1
  have A := Lib.hid (And.intro N (And.intro R (And.intro R0 RB))); clear A0 AB N R R0 RB hb1
  go_wp2_with (with_reducible refine ws_row A.out.1 _ _ _ _ rfl rfl rfl rfl iC1 s1 aC1 ?_)
  refine (RSum_any (some ⟨w1.heap.size, 0, none⟩) S 32 32 F.out.2.2.2.2.2 (by omega) (by omega) (fun h => by cases h) _ (.inr ⟨w1.heap.size, 0, rfl, A.out.2.1.lt, fun i hi => (A.out.2.1.cell (0 + i)).trans (by rw [Nat.zero_add, F.out.2.2.2.2.1]; exact u8cells_at S i hi)⟩) ).mono ?_
  rintro e w2 ⟨rfl, hb2⟩
  rw [← F.out.2.2.1]
  have D := Lib.hid (And.intro (A.out.2.2.1.calls hb2) (bt A.out.2.2.2 hb2)); clear hb2 A
  go_wp2_with (with_reducible refine ws_row D.out.1 _ _ _ _ rfl rfl rfl rfl iC s2 aC ?_)
  refine bodyPost_ret (v := .agg C) ?_ rfl ⟨rfl, setRow_below D.out.2 (Nat.le_refl _) _⟩
  exact results_cell_row rfl _ _ _ _ _ (0, 0) _ rfl (D.out.1.row _) Tryd.underlying38 rfl iC
end Go.Proofs.YtfebknplkbeblaaDoor
