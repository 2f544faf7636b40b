/- What sha2.Write comes to, of a state with no rest. What sha2.Write comes to, of a state with a rest. What sha2.Write comes to, of any state; and of a state that has taken up a text. -/
import Derived.Test.YticiipddilabfaaDoorCqD
namespace Go.Proofs.YticiipddilabfaaDoor
open Go.RowKit
set_option linter.unusedVariables false

/-- What Write leaves: a state that has taken up t. -/
def WrPost (w : World) (He : List Wd) (t : List UInt8) (N : Nat) (e : Ending) (w' : World) : Prop :=
  ∃ (a : Option Addr) (c : Nat), e = .returned (.agg (stC (absH He t) (.slice a (absR t).length c) N)) ∧ RdS w' a (absR t) ∧ (absR t).length ≤ c ∧ c ≤ maxLen ∧ Below w.heap.size w w'

set_option maxRecDepth 100000 in
set_option maxHeartbeats 4000000 in
theorem Write_empty (H : List Wd) (hH : H.length = 8) (a : Option Addr) (len c n : Nat) (hn : n < W64) (hlen : len ≤ 9223372036854775807) (He : List Wd) (hHe : He.length = 8) (ae : Option Addr) (ce ne : Nat) (hne : ne < W64) (hce : ce ≤ maxLen)
    (hE : (len = n % 64 ∧ He = H ∧ ae = a ∧ ce = c ∧ ne = n ∧ len = 0) ∨ (len ≠ n % 64 ∧ He = HI ∧ ae = none ∧ ce = 0 ∧ ne = 0))
    (a' : Option Addr) (t : List UInt8) (m c' : Nat) (hm : t.length = m) (hc : m ≤ c') (hc2 : m ≤ 140737488355328 ∧ c' ≤ 9223372036854775807) (hno : a' = none → m = 0 ∧ c' = 0) (w : World) (hr : RdS w a' t) (hL : Laid w) :
    Calls Tryd.prog 44 #[.agg (stC H (.slice a len c) n), .slice a' m c'] w (WrPost w He t ((ne + m) % W64)) := by
  obtain ⟨b, hb⟩ : ∃ b, decide (len = n % 64) = b := ⟨_, rfl⟩
  have iS := isSt10 (stC H (.slice a len c) n) (stC_size _ _ _ hH)
  have cS := fun w => Sane_any H hH a len c n hn hlen b hb w
  obtain ⟨S, hS⟩ : ∃ S, S = stC H (.slice a len c) n := ⟨_, rfl⟩
  have sS : S.size = 10 := by rw [hS]; exact stC_size _ _ _ hH
  rw [← hS] at iS cS ⊢
  obtain ⟨SE, hSE⟩ : ∃ SE, SE = stC He (.slice ae 0 ce) ne := ⟨_, rfl⟩
  have hcase : (b = true ∧ S = SE) ∨ (b = false ∧ stC HI (.slice none 0 0) 0 = SE) := by
    rcases hE with ⟨h1, h2, h3, h4, h5, h6⟩ | ⟨h1, h2, h3, h4, h5⟩
    · refine .inl ⟨by rw [← hb]; simpa using h1, ?_⟩
      rw [hS, hSE, h2, h3, h4, h5, h6]
    · refine .inr ⟨by rw [← hb]; simpa using h1, ?_⟩
      rw [hSE, h2, h3, h4, h5]
  have sE : SE.size = 10 := by rw [hSE]; exact stC_size _ _ _ hHe
  have iE := isSt10 SE sE
  have aE : SE.all (·.oneCell') = true := by rw [hSE]; exact stC_one _ _ _ _ _
  have sSE : S.size = SE.size := by rw [sS, sE]
  have F := Lib.hid (And.intro hSE (And.intro hS (And.intro hb (And.intro hr (And.intro hL (And.intro hHe (And.intro hm hn)))))))
  have CS := Lib.hid cS
  clear hSE hS hb hr hL hE hH hn hHe hm cS sS sE
  go_enter Tryd.func44, Tryd.ntmps44
  go_wp2_with (with_reducible refine wl_st ((Blk.newAt w _ S rfl).alloc _) _ _ rfl rfl rfl _ Tryd.underlying87 iS ?_)
  refine (CS.out _).mono ?_
  rintro e w1 ⟨rfl, hb1⟩
  have A0 : Blk w1 w.heap.size 87 S := ((Blk.newAt w _ S rfl).alloc _).calls hb1
  have A1 : Blk w1 (w.heap.size + 1) 87 (startC 0) := by rw [startC_zero]; exact (Blk.second w _ _ _).calls hb1
  have AB : Below w.heap.size w w1 := bt (ba (ba (Below.refl _ _) _) _) hb1
  have z0 := A0.lt
  have z1 := A1.lt
  clear hb1
  go_upto_if 10 with fail
  go_cut [] (fun wx => Blk wx w.heap.size 87 SE ∧ Blk wx (w.heap.size + 1) 87 (startC 0) ∧ Below w.heap.size w wx)
  case first =>
    rcases hcase with ⟨h1, h2⟩ | ⟨h1, h2⟩
    · subst h1
      rw [h2] at A0
      have HA := Lib.hid (And.intro A0 (And.intro A1 AB)); clear A0 A1 AB h2
      go_wp2_with fail
      go_meet
      exact HA.out
    · subst h1
      have HA := Lib.hid (And.intro A0 (And.intro A1 AB)); clear A0 A1 AB
      have h2' := Lib.hid h2; clear h2
      go_wp2_with fail
      refine (Start_any _ (F.out.2.2.2.2.1.below HA.out.2.2 (Nat.le_refl _))).mono ?_
      rintro e w2 ⟨rfl, hb2⟩
      rw [h2'.out]
      have B0 := HA.out.1.calls hb2
      have B1 := HA.out.2.1.calls hb2
      have BB := bt HA.out.2.2 hb2
      have HB := Lib.hid (And.intro B0 (And.intro B1 BB)); clear B0 B1 BB hb2 HA
      go_wp2_with (with_reducible refine ws_row HB.out.1 _ _ _ _ rfl rfl rfl rfl iE sSE aE ?_)
      go_meet
      exact ⟨HB.out.1.row _, HB.out.2.1.rowFar (by omega) _, setRow_below HB.out.2.2 (by omega) _⟩
  case rest =>
    obtain ⟨B0, B1, BB⟩ := hcut
    clear hcase iE aE sSE iS A0 A1 AB CS z0 z1
    have z0 := B0.lt
    have z1 := B1.lt
    obtain ⟨N, hN⟩ : ∃ N, N = (ne + m) % W64 := ⟨_, rfl⟩
    have hNi := add_num ne m hne
    rw [← hN] at hNi
    obtain ⟨x0, x1, x2, x3, x4, x5, x6, x7, h8⟩ := eight He F.out.2.2.2.2.2.1
    have B0' := B0
    rw [F.out.1, h8, stC_lit] at B0'
    have cc := B0'.cell
    have hm0 : 0 ≤ (m : Int) := by omega
    have hmb : m ≤ 140737488355328 := by omega
    have G := Lib.hid (And.intro hN (And.intro h8 (And.intro B0 (And.intro B1 BB)))); clear hN h8 B0 B0' B1 BB
    go_wp2
    have FIN := Lib.hid (fun (a : Option Addr) (c : Nat) (w2 : World) (h1 : RdS w2 a (absR t)) (h2 : (absR t).length ≤ c) (h3 : c ≤ maxLen) (h4 : Below w.heap.size w w2) => show WrPost w He t ((ne + m) % W64) (.returned (.agg (stC (absH He t) (.slice a (absR t).length c) N))) w2 from ⟨a, c, by rw [G.out.1], h1, h2, h3, h4⟩)
    have A5 : Blk _ wc.heap.size 87 (stC He (.slice none 0 0) N) := Blk.new wc 87 (stC He (.slice none 0 0) N)
    have A1 : Blk _ (w.heap.size + 1) 87 (startC 0) := G.out.2.2.2.1.alloc (.cells (stC He (.slice none 0 0) N) 87)
    have AB : Below w.heap.size w _ := ba G.out.2.2.2.2 (.cells (stC He (.slice none 0 0) N) 87)
    have HA := Lib.hid (And.intro A5 (And.intro A1 AB)); clear A5 A1 AB
    have hq := G.out.2.1
    rw [hq, stC_lit] at HA
    clear hq cc
    generalize wc.alloc _ = w3 at *
    go_loopw [1] (fun s wr => ∃ (j : Nat) (a1 : Option Addr) (c1 p : Nat), p = m - 64 * j ∧ 64 * j ≤ m ∧ s = .slice a1 p c1 ∧ p ≤ c1 ∧ (p ≤ 140737488355328 ∧ c1 ≤ 9223372036854775807) ∧ RdS w a1 (t.drop (64 * j)) ∧ (a1 = none → p = 0 ∧ c1 = 0) ∧ Blk wr (w.heap.size + 1) 87 (startC 0) ∧ Blk wr wc.heap.size 87 (stC (blks t j He) (.slice none 0 0) N) ∧ Below w.heap.size w wr) (fun s _ => lenS s)
    case atStart =>
      obtain ⟨A5, A1, AB⟩ := HA.out
      refine ⟨0, a', c', m, by omega, by omega, rfl, hc, hc2, F.out.2.2.2.1, hno, A1, ?_, AB⟩
      rw [G.out.2.1, blks, stC_lit]
      exact A5
    case round =>
      clear HA
      obtain ⟨j, a1, c1, p, hp, hj, rfl, hpc, hc1, hr1, hno1, h1, h5, hb⟩ := hrel
      have hpi : (p : Int) ≤ 140737488355328 := by omega
      by_cases h64 : 64 ≤ p
      · obtain ⟨a2, hs2, hr2, _, _⟩ := slice_to a1 (t.drop (64 * j)) p c1 64 (by rw [drop_length_eq, F.out.2.2.2.2.2.2.1, hp]) h64 hpc
        obtain ⟨Hj, hHj⟩ : ∃ Hj, Hj = blks t j He := ⟨_, rfl⟩
        have hHl : Hj.length = 8 := by rw [hHj]; exact blks_length t j He F.out.2.2.2.2.2.1
        obtain ⟨r, hrr⟩ : ∃ r, r = blk Hj ((t.drop (64 * j)).take 64) := ⟨_, rfl⟩
        have hnext : blks t (j + 1) He = r := by rw [blks, ← hHj, hrr]
        have hrl : r.length = 8 := by rw [hrr]; exact blk_length _ _ hHl
        have htl : ((t.drop (64 * j)).take 64).length = 64 := by rw [List.length_take, drop_length_eq, F.out.2.2.2.2.2.2.1, ← hp]; omega
        obtain ⟨g2, o2, ha2, hg2, hrd2⟩ : ∃ g off, a2 = some ⟨g, off, none⟩ ∧ g < w.heap.size ∧ Rd w g off ((t.drop (64 * j)).take 64) := by
          rcases hr2 w hr1 with hh | hh
          · rw [hh] at htl; cases htl
          · exact hh
        subst ha2
        have hcall : ∀ w', Below w.heap.size w w' → Calls Tryd.prog 54 #[.agg (u32c Hj), .slice (some ⟨g2, o2, none⟩) 64 c1] w' fun e w'' => e = .returned (.agg (u32c r)) ∧ Below w'.heap.size w' w'' := fun w' hw' => by
          rw [hrr]
          exact Block_any Hj hHl g2 o2 c1 _ w' (fun i hi => hrd2.at hw' hg2 i hi) (Nat.lt_of_lt_of_le hg2 hw'.size) htl (F.out.2.2.2.2.1.below hw' (Nat.le_refl _))
        rw [← hHj] at h5
        have l5 := h5.lt
        have l1 := h1.lt
        have i8H := is8 (u32c Hj) (by rw [u32c_size, hHl])
        have s8r : (u32c r).size = 8 := by rw [u32c_size, hrl]
        have i8r := is8 (u32c r) s8r
        have a8r := u32c_one r
        have hpm : (p : Int) - 64 = ((p - 64 : Nat) : Int) := by omega
        have K := Lib.hid (And.intro h1 (And.intro h5 (And.intro hb (And.intro hp (And.intro hHj (And.intro hHl (And.intro hrr (And.intro hnext (And.intro hrl (And.intro htl (And.intro hr1 (And.intro hr1 s8r))))))))))))
        clear h1 h5 hb hp hHj hHl hrr hnext hrl htl hr1 hr2 s8r
        have KC := Lib.hid hcall; clear hcall
        have KS := Lib.hid hs2; clear hs2
        go_wp2_with fail
        refine wp_region_tail [some 61, some 62, some 63, some 64, some 65, some 66, none] (fun i => ([.pointer (some ⟨wc.heap.size, 0, none⟩), .agg (u32c Hj), .slice a1 p c1, .slice (some ⟨g2, o2, none⟩) 64 c1, .agg (u32c r), .pointer (some ⟨wc.heap.size, 0, none⟩), undef] : List Value).getD i undef) 6 (fun w' => ∃ wq, Below wr.heap.size wr wq ∧ w' = wq.setCells wc.heap.size 0 (u32c r).toList) (by kernel_rfl) rfl rfl rfl rfl rfl rfl ⟨
          .inr ⟨rfl, fun A w' hb hs => op_field0 (.tmp 5) rfl wc.heap.size ((hs.2 5 rfl).trans rfl)⟩,
          .inr ⟨rfl, fun A w' hb hs => op_load_mid _ (.tmp 61) rfl wc.heap.size 0 (hs.1 0 rfl 61 rfl) (u32c Hj).toList _ (words_range (K.out.2.1.below hb K.out.2.1.lt) K.out.2.2.2.2.2.1) Tryd.underlying85 rfl (by simpa using i8H)⟩,
          .inr ⟨rfl, fun A w' hb hs => op_move (.tmp 1) (.inl rfl) ((hs.2 1 rfl).trans rfl)⟩,
          .inr ⟨rfl, fun A w' hb hs => op_slice_s _ (.tmp 63) none (some (.const (.int .i64 64))) rfl (hs.1 2 rfl 63 rfl) rfl rfl (by kernel_rfl) (KS.out w')⟩,
          .inr ⟨rfl, fun A w' hb hs => op_call 54 _ (exec_call _ 54 _ rfl rfl (margs2 (hs.1 1 rfl 62 rfl) (hs.1 3 rfl 64 rfl)) Tryd.func54 rfl rfl) (KC.out w' (bt K.out.2.2.1 hb))⟩,
          .inr ⟨rfl, fun A w' hb hs => op_field0 (.tmp 5) rfl wc.heap.size ((hs.2 5 rfl).trans rfl)⟩,
          .inl ⟨rfl, rfl, fun A w' hb hs => wp_store_mid _ (.tmp 66) (.tmp 65) rfl wc.heap.size 0 (u32c r) (hs.1 5 rfl 66 rfl) (hs.1 4 rfl 65 rfl) (by rw [K.out.2.2.2.2.2.2.2.2.2.2.2.2]; exact words_there (K.out.2.1.below hb K.out.2.1.lt) K.out.2.2.2.2.2.1) i8r a8r ⟨rfl, w', hb, rfl⟩⟩, trivial⟩ ?_
        rintro _ ⟨wq, hbq, rfl⟩
        simp only [Fr, if_true, Act.put, List.setIfInBounds_toArray, List.set_cons_zero, List.set_cons_succ, List.getD_cons_zero, List.getD_cons_succ]
        have D1 := (K.out.1.below hbq l1).setsFar (b := wc.heap.size) (by omega) (u32c r).toList 0
        have D5 := (K.out.2.1.below hbq l5).setWords K.out.2.2.2.2.2.1 K.out.2.2.2.2.2.2.2.2.1
        have DB := below_sets (b := wc.heap.size) (show w.heap.size ≤ wc.heap.size by omega) (u32c r).toList 0 (bt K.out.2.2.1 hbq)
        have D := Lib.hid (And.intro D1 (And.intro D5 DB)); clear D1 D5 DB hbq
        generalize wq.setCells _ _ _ = w6 at *
        go_wp2
        obtain ⟨D1, D5, DB⟩ := D.out
        obtain ⟨_, _, _, hp, hHj, _, _, hnext, _, _, hr1, _, _⟩ := K.out
        go_roundw
        case rel =>
          refine ⟨j + 1, _, c1 - 64, p - 64, by omega, by omega, rfl, by omega, by omega, ?_, ?_, D1, by rw [hnext]; exact D5, DB⟩
          · have := hr1.from (n := p) (c := c1) (k := 64) (by rw [drop_length_eq, F.out.2.2.2.2.2.2.1, hp]) h64 hpc
            rw [List.drop_drop, show 64 * j + 64 = 64 * (j + 1) by omega] at this
            exact this
          · intro hnone
            exfalso
            have hsome := hno1
            cases a1 with
            | none => have := (hno1 rfl).1; omega
            | some ad => split at hnone <;> cases hnone
        case measure => simp [lenS]; omega
      · have hjj : t.length / 64 = j := by rw [F.out.2.2.2.2.2.2.1]; omega
        have hpl : p = (absR t).length := by rw [absR_length, F.out.2.2.2.2.2.2.1]; omega
        have hdr : t.drop (64 * j) = absR t := by unfold absR; rw [hjj]
        have hHH : blks t j He = absH He t := by unfold absH; rw [hjj]
        rw [hdr] at hr1
        rw [hHH] at h5
        clear hjj hdr hHH
        have hRl : (absR t).length = p := hpl.symm
        have hmx : (absR t).length ≤ maxLen := by rw [hRl]; unfold maxLen; omega
        obtain ⟨i0, hi, hz0, hz1, hz2⟩ := info_parts (show (Tryd.prog.info? 5).map (fun i => (i.zero, i.size, i.bytes)) = some (some (.int .u8 0), 1, 1) by kernel_rfl)
        have l5 := h5.lt
        have l1 := h1.lt
        have hHl : (absH He t).length = 8 := blks_length _ _ _ F.out.2.2.2.2.2.1
        obtain ⟨HH, hHH⟩ : ∃ HH, HH = absH He t := ⟨_, rfl⟩
        obtain ⟨R, hR⟩ : ∃ R, R = absR t := ⟨_, rfl⟩
        rw [← hHH] at h5 hHl
        rw [← hR] at hr1 hRl hmx
        have K := Lib.hid (And.intro h1 (And.intro h5 (And.intro hb (And.intro hp (And.intro hHH (And.intro hHl (And.intro hR (And.intro hRl (And.intro hr1 hmx)))))))))
        clear h1 h5 hb hp hHH hHl hR hRl hr1 hpl hmx
        have HI0 := Lib.hid (And.intro hi (And.intro hz0 (And.intro hz1 hz2))); clear hi hz0 hz1 hz2
        cases a1 with
        | none =>
          obtain ⟨hp0, hc0⟩ := hno1 rfl
          subst hp0 hc0
          have R0 : R = [] := List.length_eq_zero_iff.1 K.out.2.2.2.2.2.2.2.1
          obtain ⟨C, hC⟩ : ∃ C, C = stC HH (.slice (some ⟨wr.heap.size, 0, none⟩) 0 0) N := ⟨_, rfl⟩
          have sC : C.size = 10 := by rw [hC]; exact stC_size _ _ _ K.out.2.2.2.2.2.1
          have iC := isSt10 C sC
          have s1 : (startC 0).size = C.size := by rw [sC]; rfl
          have aC : C.all (·.oneCell') = true := by rw [hC]; exact stC_one _ _ _ _ _
          have B5 := K.out.2.1.alloc (.cells #[] 5)
          have c8 := blk_get B5 8 _ (stC_rest _ _ _ K.out.2.2.2.2.2.1)
          have f8 := B5.frozen 8
          have M5 : Blk _ wc.heap.size 87 C := ((K.out.2.1.set_ 8 (.slice (some ⟨wr.heap.size, 0, none⟩) 0 0)).to (show _ = C by rw [hC]; exact stC_setRest _ _ _ _ K.out.2.2.2.2.2.1)).alloc (.cells #[] 5)
          have M1 := (K.out.1.far (show w.heap.size + 1 ≠ wc.heap.size by omega) (i := 8) (.slice (some ⟨wr.heap.size, 0, none⟩) 0 0)).alloc (.cells #[] 5)
          have MB := ba (K.out.2.2.1.setCell (show w.heap.size ≤ (⟨wc.heap.size, 8, none⟩ : Addr).block by show w.heap.size ≤ wc.heap.size; omega) (.slice (some ⟨wr.heap.size, 0, none⟩) 0 0)) (.cells #[] 5)
          have M := Lib.hid (And.intro M5 (And.intro M1 (And.intro MB (And.intro hC R0)))); clear M5 M1 MB B5 hC sC R0
          go_wp2_with (first | (at_builtin; refine wpList_append_own_none rfl _ _ 23 rfl wr.heap.size 5 i0 1 Tryd.underlying23 HI0.out.1 _ 0 [] rfl (World.ownsRow_made wr #[] 0 (Nat.le_refl _) (by omega) rfl) rfl ?_) | with_reducible refine wl_st M.out.1 _ _ rfl rfl rfl _ Tryd.underlying87 iC ?_ | with_reducible refine ws_row M.out.2.1 _ _ _ _ rfl rfl rfl rfl iC s1 aC ?_)
          obtain ⟨M5, M1, MB, hC, R0⟩ := M.out
          have hRR := K.out.2.2.2.2.2.2.1
          have hHH := K.out.2.2.2.2.1
          rw [R0] at hRR
          have hCC : C = stC (absH He t) (.slice (some ⟨wr.heap.size, 0, none⟩) (absR t).length 0) N := by rw [hC, hHH, ← hRR]; rfl
          refine bodyPost_ret (v := .agg C) ?_ rfl (by rw [hCC]; exact FIN.out _ _ _ (.inl hRR.symm) (by rw [← hRR]; exact Nat.le_refl _) (by unfold maxLen; omega) (setRow_below MB (by omega) _))
          exact results_cell_row rfl _ _ _ _ _ (0, 0) _ rfl (M1.row _) Tryd.underlying87 rfl iC
        | some ad =>
          clear hno1
          have hmb2 : p ≤ maxLen := by unfold maxLen; omega
          have hmb3 : (0 + p) * 1 ≤ 140737488355328 := by omega
          go_wp2_with (at_builtin; go_loud (refine wpList_append_own _ rfl _ _ 23 rfl wr.heap.size 5 i0 (.int .u8 0) 1 1 Tryd.underlying23 HI0.out.1 HI0.out.2.1 HI0.out.2.2.1 HI0.out.2.2.2 rfl (by omega) _ 0 [] rfl (World.ownsRow_made wr #[] 0 (Nat.le_refl _) (by omega) rfl) ad p c1 (R.map fun c => Value.int .u8 (c.toNat : Int)) rfl (by rw [List.length_map, K.out.2.2.2.2.2.2.2.1, Nat.mul_one]) (fun j u hu => rd_news ((K.out.2.2.2.2.2.2.2.2.1.below K.out.2.2.1 (Nat.le_refl _)).below ((Below.refl _ _).alloc (Nat.le_refl _) _) (Nat.le_refl _)) j u hu) (one_news R) (by omega) hmb3 (by simp) ?_))
          intro v' w' ho hg hnil
          obtain ⟨g, cap, cur, rfl, hgb, hbg, hpc2, hcm3, hRp, hrd⟩ := own_blk ho hnil
          clear ho hnil
          have B5 := (K.out.2.1.alloc (.cells #[] 5)).grown hg (by simp [Value.ownBlock]; omega)
          have B1 := (K.out.1.alloc (.cells #[] 5)).grown hg (by simp [Value.ownBlock]; omega)
          have BB := below_grown (ba K.out.2.2.1 (.cells #[] 5)) hg (by simp; omega) (by intro k hk; simp [Value.ownBlock] at hk; omega)
          clear hg
          obtain ⟨C, hC⟩ : ∃ C, C = stC HH (.slice (some ⟨g, 0, none⟩) p cap) N := ⟨_, rfl⟩
          have sC : C.size = 10 := by rw [hC]; exact stC_size _ _ _ K.out.2.2.2.2.2.1
          have iC := isSt10 C sC
          have s1 : (startC 0).size = C.size := by rw [sC]; rfl
          have aC : C.all (·.oneCell') = true := by rw [hC]; exact stC_one _ _ _ _ _
          have c8 := blk_get B5 8 _ (stC_rest _ _ _ K.out.2.2.2.2.2.1)
          have f8 := B5.frozen 8
          have M5 : Blk _ wc.heap.size 87 C := (B5.set_ 8 (.slice (some ⟨g, 0, none⟩) p cap)).to (show _ = C by rw [hC]; exact stC_setRest _ _ _ _ K.out.2.2.2.2.2.1)
          have M1 := B1.far (show w.heap.size + 1 ≠ wc.heap.size by omega) (i := 8) (.slice (some ⟨g, 0, none⟩) p cap)
          have MG := hbg.far (show g ≠ wc.heap.size by omega) (i := 8) (.slice (some ⟨g, 0, none⟩) p cap)
          have MB := BB.setCell (show w.heap.size ≤ (⟨wc.heap.size, 8, none⟩ : Addr).block by show w.heap.size ≤ wc.heap.size; omega) (.slice (some ⟨g, 0, none⟩) p cap)
          have M := Lib.hid (And.intro M5 (And.intro M1 (And.intro MB (And.intro hC (And.intro MG hrd))))); clear M5 M1 MB B5 B1 BB hbg hC sC MG hrd
          go_wp2_with (first | with_reducible refine wl_st M.out.1 _ _ rfl rfl rfl _ Tryd.underlying87 iC ?_ | with_reducible refine ws_row M.out.2.1 _ _ _ _ rfl rfl rfl rfl iC s1 aC ?_)
          obtain ⟨M5, M1, MB, hC, MG, hrd⟩ := M.out
          have hRR := K.out.2.2.2.2.2.2.1
          have hHH := K.out.2.2.2.2.1
          have hRl := K.out.2.2.2.2.2.2.2.1
          have hCC : C = stC (absH He t) (.slice (some ⟨g, 0, none⟩) (absR t).length cap) N := by rw [hC, hHH, ← hRR, hRl]
          refine bodyPost_ret (v := .agg C) ?_ rfl (by
            rw [hCC]
            refine FIN.out _ _ _ (.inr ⟨g, 0, rfl, (MG.rowFar (show g ≠ w.heap.size + 1 by omega) _).lt, ?_⟩) (by rw [← hRR, hRl]; exact hpc2) hcm3 (setRow_below MB (by omega) _)
            intro i hi
            rw [← hRR] at hi ⊢
            exact ((MG.rowFar (show g ≠ w.heap.size + 1 by omega) _).cell (0 + i)).trans (by rw [Nat.zero_add]; exact hrd i hi))
          exact results_cell_row rfl _ _ _ _ _ (0, 0) _ rfl (M1.row _) Tryd.underlying87 rfl iC
end Go.Proofs.YticiipddilabfaaDoor

namespace Go.Proofs.YticiipddilabfaaDoor
open Go.RowKit
set_option linter.unusedVariables false

set_option maxRecDepth 100000 in
set_option maxHeartbeats 4000000 in
theorem Write_few (H : List Wd) (hH : H.length = 8) (ad : Addr) (rest : List UInt8) (len c n : Nat) (hn : n < W64) (hlen : len = n % 64) (hpos : 0 < len) (hrl : rest.length = len) (hlc : len ≤ c) (hcm : c ≤ maxLen)
    (a0 : Option Addr) (t0 : List UInt8) (m0 c0 : Nat) (hm0 : t0.length = m0) (hc0 : m0 ≤ c0) (hc02 : m0 ≤ 140737488355328 ∧ c0 ≤ 9223372036854775807) (hno0 : a0 = none → m0 = 0 ∧ c0 = 0) (hfew : len + m0 < 64) (w : World) (hrr : RdS w (some ad) rest) (hr : RdS w a0 t0) (hL : Laid w) :
    Calls Tryd.prog 44 #[.agg (stC H (.slice (some ad) len c) n), .slice a0 m0 c0] w (WrPost w H (rest ++ t0) ((n + m0) % W64)) := by
  have hlen64 : len < 64 := by rw [hlen]; exact Nat.mod_lt _ (by omega)
  have iS := isSt10 (stC H (.slice (some ad) len c) n) (stC_size _ _ _ hH)
  have cS := fun w => Sane_any H hH (some ad) len c n hn (by omega) true (by simpa using hlen) w
  obtain ⟨S, hS⟩ : ∃ S, S = stC H (.slice (some ad) len c) n := ⟨_, rfl⟩
  rw [← hS] at iS cS ⊢
  obtain ⟨x0, x1, x2, x3, x4, x5, x6, x7, h8⟩ := eight H hH
  obtain ⟨N, hN⟩ : ∃ N, N = (n + m0) % W64 := ⟨_, rfl⟩
  have hNi := add_num n m0 hn
  rw [← hN] at hNi
  have CS := Lib.hid cS
  clear cS
  have F := Lib.hid (And.intro hS (And.intro h8 (And.intro hN (And.intro hrr (And.intro hr (And.intro hL (And.intro hH (And.intro hrl hm0)))))))); clear hS h8 hN hrr hr hL hH hrl hm0 hn hlen
  go_enter Tryd.func44, Tryd.ntmps44
  go_wp2_with (with_reducible refine wl_st ((Blk.newAt w _ S rfl).alloc _) _ _ rfl rfl rfl _ Tryd.underlying87 iS ?_)
  refine (CS.out _).mono ?_
  rintro e w1 ⟨rfl, hb1⟩
  have A0 : Blk w1 w.heap.size 87 S := ((Blk.newAt w _ S rfl).alloc _).calls hb1
  have A1 : Blk w1 (w.heap.size + 1) 87 (startC 0) := by rw [startC_zero]; exact (Blk.second w _ _ _).calls hb1
  have AB : Below w.heap.size w w1 := bt (ba (ba (Below.refl _ _) _) _) hb1
  have z0 := A0.lt
  have z1 := A1.lt
  clear hb1 iS CS
  have A0' := A0
  rw [F.out.1, F.out.2.1, stC_lit] at A0'
  have cc := A0'.cell
  clear A0'
  have hmk : ∀ w : World, (Instr.makeSlice 23 (.int .i64 0) (.int .i64 64)).run Tryd.prog w = .ok (.slice (some ⟨w.heap.size, 0, none⟩) 0 64) (w.alloc (.cells (Array.replicate 64 (.int .u8 0)) 5)) := fun w => make_bytesC 0 64 (by omega) (by omega) w
  have own : ((w1.alloc (.cells (stC H (.slice none 0 0) N) 87)).alloc (.cells (Array.replicate 64 (.int .u8 0)) 5)).ownsRow (w1.heap.size + 1) 5 1 (.slice (some ⟨w1.heap.size + 1, 0, none⟩) 0 64) 0 (([] : List UInt8).map fun c => Value.int .u8 (c.toNat : Int)) := by
    have h := World.ownsRow_made (w1.alloc (.cells (stC H (.slice none 0 0) N) 87)) (base := w1.heap.size + 1) (e := 5) (size := 1) (Array.replicate 64 (.int .u8 0)) 64 (by simp) (by unfold maxLen; omega) (by simp)
    simpa using h
  have hmi : (m0 : Int) ≤ 140737488355328 := by omega
  obtain ⟨k, hk⟩ : ∃ k, k = min (64 - len) m0 := ⟨_, rfl⟩
  have d1 : (64 : Int) - (len : Int) = ((64 - len : Nat) : Int) := by omega
  have hmin : min ((64 - len : Nat) : Int) (m0 : Int) = (k : Int) := by omega
  have lp : 0 < (len : Int) := by omega
  obtain ⟨i0, hi, hz0, hz1, hz2⟩ := info_parts (show (Tryd.prog.info? 5).map (fun i => (i.zero, i.size, i.bytes)) = some (some (.int .u8 0), 1, 1) by kernel_rfl)
  have A5 : Blk _ w1.heap.size 87 (stC H (.slice none 0 0) N) := (Blk.new w1 87 (stC H (.slice none 0 0) N)).alloc (.cells (Array.replicate 64 (.int .u8 0)) 5)
  have A1' := (A1.alloc (.cells (stC H (.slice none 0 0) N) 87)).alloc (.cells (Array.replicate 64 (.int .u8 0)) 5)
  have A0'' := (A0.alloc (.cells (stC H (.slice none 0 0) N) 87)).alloc (.cells (Array.replicate 64 (.int .u8 0)) 5)
  have AB' := ba (ba AB (.cells (stC H (.slice none 0 0) N) 87)) (.cells (Array.replicate 64 (.int .u8 0)) 5)
  have I := Lib.hid (And.intro hi (And.intro hz0 (And.intro hz1 (And.intro hz2 (And.intro own (And.intro A5 (And.intro A1' (And.intro AB' (And.intro hk A0''))))))))); clear hi hz0 hz1 hz2 own A0 A1 AB A5 A1' A0'' AB' hk
  rw [F.out.2.1, stC_lit] at I
  go_wp2_with (at_builtin; refine wl_app I.out.2.2.2.2.1 rfl _ _ 23 rfl Tryd.underlying23 i0 I.out.1 I.out.2.1 I.out.2.2.1 I.out.2.2.2.1 rfl (some ad) len c rest rfl ((F.out.2.2.2.1.below I.out.2.2.2.2.2.2.2.1 (Nat.le_refl _))) F.out.2.2.2.2.2.2.2.1 (by simp) (by omega) (by simp) ?_)
  intro v' w2 ho hg hnil
  obtain ⟨a2, hs2, hr2, hno2, _⟩ := slice_to a0 t0 m0 c0 k F.out.2.2.2.2.2.2.2.2 (by have := I.out.2.2.2.2.2.2.2.2.1; omega) hc0
  obtain ⟨g1, cap1, cur1, rfl, hgb, hbg, hpc1, hcm1, _, _⟩ := own_blk ho hnil
  have B5 := I.out.2.2.2.2.2.1.grown hg (by simp [Value.ownBlock])
  have B0 := I.out.2.2.2.2.2.2.2.2.2.grown hg (by simp [Value.ownBlock]; omega)
  have B1 := I.out.2.2.2.2.2.2.1.grown hg (by simp [Value.ownBlock]; omega)
  have BB := below_grown I.out.2.2.2.2.2.2.2.1 hg (by simp; omega) (by intro k hk; simp [Value.ownBlock] at hk; omega)
  have zz : w1.heap.size + 1 < w2.heap.size := Nat.lt_of_le_of_lt hgb hbg.lt
  have hkb : len + k ≤ 64 := by have := I.out.2.2.2.2.2.2.2.2.1; omega
  have hk2 : k ≤ m0 := by have := I.out.2.2.2.2.2.2.2.2.1; omega
  have hno3 : a2 = none → k = 0 ∧ c0 = 0 := fun h => by
    have := hno0 (hno2.2 h)
    exact ⟨by omega, this.2⟩
  have L2 := Lib.hid (And.intro ho (And.intro B5 (And.intro B0 (And.intro B1 (And.intro BB hr2))))); clear ho B5 B0 B1 BB hr2 hbg hg hnil hmk cc
  go_wp2_with (at_builtin; refine wl_app L2.out.1 rfl _ _ 23 rfl Tryd.underlying23 i0 I.out.1 I.out.2.1 I.out.2.2.1 I.out.2.2.2.1 rfl a2 k c0 (t0.take k) rfl (L2.out.2.2.2.2.2 _ (F.out.2.2.2.2.1.below L2.out.2.2.2.2.1 (Nat.le_refl _))) (by rw [List.length_take, F.out.2.2.2.2.2.2.2.2]; omega) hno3 (by omega) (by omega) ?_)
  intro v3 w3 ho' hg hnil
  have ho : w3.ownsRow (w1.heap.size + 1) 5 1 v3 (len + k) ((rest ++ t0.take k).map fun c => Value.int .u8 (c.toNat : Int)) := by rw [List.map_append, List.map_take]; exact ho'
  clear ho'
  obtain ⟨L, hL⟩ : ∃ L, L = len + k := ⟨_, rfl⟩
  rw [← hL] at ho
  have HL := Lib.hid hL; clear hL
  obtain ⟨g, cap, cur, rfl, hgb, hbg, hpc2, hcm2, hRp, hrd⟩ := own_blk ho hnil
  clear ho hnil
  have B5 := L2.out.2.1.grown hg (by simp [Value.ownBlock]; omega)
  have B1 := L2.out.2.2.2.1.grown hg (by simp [Value.ownBlock]; omega)
  have BB := below_grown L2.out.2.2.2.2.1 hg (by omega) (by intro k hk; simp [Value.ownBlock] at hk; omega)
  clear hg
  have hLl : L < 64 := by have := HL.out; omega
  have hLi : (L : Int) < 64 := by omega
  have hkm : t0.take k = t0 := List.take_of_length_le (by have := I.out.2.2.2.2.2.2.2.2.1; have := F.out.2.2.2.2.2.2.2.2; omega)
  rw [hkm] at hrd hRp
  obtain ⟨C, hC⟩ : ∃ C, C = stC H (.slice (some ⟨g, 0, none⟩) L cap) N := ⟨_, rfl⟩
  have sC : C.size = 10 := by rw [hC]; exact stC_size _ _ _ F.out.2.2.2.2.2.2.1
  have iC := isSt10 C sC
  have s1 : (startC 0).size = C.size := by rw [sC]; rfl
  have aC : C.all (·.oneCell') = true := by rw [hC]; exact stC_one _ _ _ _ _
  rw [← stC_lit, ← F.out.2.1] at B5
  have c8 := blk_get B5 8 _ (stC_rest _ _ _ F.out.2.2.2.2.2.2.1)
  have f8 := B5.frozen 8
  have M5 : Blk _ w1.heap.size 87 C := (B5.set_ 8 (.slice (some ⟨g, 0, none⟩) L cap)).to (show _ = C by rw [hC]; exact stC_setRest _ _ _ _ F.out.2.2.2.2.2.2.1)
  have M1 := B1.far (show w.heap.size + 1 ≠ w1.heap.size by omega) (i := 8) (.slice (some ⟨g, 0, none⟩) L cap)
  have MG := hbg.far (show g ≠ w1.heap.size by omega) (i := 8) (.slice (some ⟨g, 0, none⟩) L cap)
  have MB := BB.setCell (show w.heap.size ≤ (⟨w1.heap.size, 8, none⟩ : Addr).block by show w.heap.size ≤ w1.heap.size; omega) (.slice (some ⟨g, 0, none⟩) L cap)
  have M := Lib.hid (And.intro M5 (And.intro M1 (And.intro MB (And.intro hC (And.intro MG (And.intro hrd hRp)))))); clear M5 M1 MB B5 B1 BB hbg hC sC MG hrd hRp
  go_wp2_with (first | with_reducible refine wl_st M.out.1 _ _ rfl rfl rfl _ Tryd.underlying87 iC ?_ | with_reducible refine ws_row M.out.2.1 _ _ _ _ rfl rfl rfl rfl iC s1 aC ?_)
  obtain ⟨M5, M1, MB, hC, MG, hrd, hRp⟩ := M.out
  have hq : (rest ++ t0).length < 64 := by omega
  refine bodyPost_ret (v := .agg C) ?_ rfl ⟨some ⟨g, 0, none⟩, cap, by rw [hC, absH_few _ _ hq, absR_few _ hq, hRp, ← F.out.2.2.1], ?_, by rw [absR_few _ hq, hRp]; exact hpc2, hcm2, setRow_below MB (by omega) _⟩
  · exact results_cell_row rfl _ _ _ _ _ (0, 0) _ rfl (M1.row _) Tryd.underlying87 rfl iC
  · rw [absR_few _ hq]
    refine .inr ⟨g, 0, rfl, (MG.rowFar (show g ≠ w.heap.size + 1 by omega) _).lt, ?_⟩
    intro i hi
    exact ((MG.rowFar (show g ≠ w.heap.size + 1 by omega) _).cell (0 + i)).trans (by rw [Nat.zero_add]; exact hrd i hi)

set_option maxRecDepth 100000 in
set_option maxHeartbeats 4000000 in
theorem Write_many (H : List Wd) (hH : H.length = 8) (ad : Addr) (rest : List UInt8) (len c n : Nat) (hn : n < W64) (hlen : len = n % 64) (hpos : 0 < len) (hrl : rest.length = len) (hlc : len ≤ c) (hcm : c ≤ maxLen)
    (a0 : Option Addr) (t0 : List UInt8) (m0 c0 : Nat) (hm0 : t0.length = m0) (hc0 : m0 ≤ c0) (hc02 : m0 ≤ 140737488355328 ∧ c0 ≤ 9223372036854775807) (hno0 : a0 = none → m0 = 0 ∧ c0 = 0) (hmany : 64 ≤ len + m0) (w : World) (hrr : RdS w (some ad) rest) (hr : RdS w a0 t0) (hL : Laid w) :
    Calls Tryd.prog 44 #[.agg (stC H (.slice (some ad) len c) n), .slice a0 m0 c0] w (WrPost w H (rest ++ t0) ((n + m0) % W64)) := by
  have hlen64 : len < 64 := by rw [hlen]; exact Nat.mod_lt _ (by omega)
  have iS := isSt10 (stC H (.slice (some ad) len c) n) (stC_size _ _ _ hH)
  have cS := fun w => Sane_any H hH (some ad) len c n hn (by omega) true (by simpa using hlen) w
  obtain ⟨S, hS⟩ : ∃ S, S = stC H (.slice (some ad) len c) n := ⟨_, rfl⟩
  rw [← hS] at iS cS ⊢
  obtain ⟨x0, x1, x2, x3, x4, x5, x6, x7, h8⟩ := eight H hH
  obtain ⟨N, hN⟩ : ∃ N, N = (n + m0) % W64 := ⟨_, rfl⟩
  have hNi := add_num n m0 hn
  rw [← hN] at hNi
  have CS := Lib.hid cS
  clear cS
  have F := Lib.hid (And.intro hS (And.intro h8 (And.intro hN (And.intro hrr (And.intro hr (And.intro hL (And.intro hH (And.intro hrl hm0)))))))); clear hS h8 hN hrr hr hL hH hrl hm0 hn hlen
  go_enter Tryd.func44, Tryd.ntmps44
  go_wp2_with (with_reducible refine wl_st ((Blk.newAt w _ S rfl).alloc _) _ _ rfl rfl rfl _ Tryd.underlying87 iS ?_)
  refine (CS.out _).mono ?_
  rintro e w1 ⟨rfl, hb1⟩
  have A0 : Blk w1 w.heap.size 87 S := ((Blk.newAt w _ S rfl).alloc _).calls hb1
  have A1 : Blk w1 (w.heap.size + 1) 87 (startC 0) := by rw [startC_zero]; exact (Blk.second w _ _ _).calls hb1
  have AB : Below w.heap.size w w1 := bt (ba (ba (Below.refl _ _) _) _) hb1
  have z0 := A0.lt
  have z1 := A1.lt
  clear hb1 iS CS
  have A0' := A0
  rw [F.out.1, F.out.2.1, stC_lit] at A0'
  have cc := A0'.cell
  clear A0'
  have hmk : ∀ w : World, (Instr.makeSlice 23 (.int .i64 0) (.int .i64 64)).run Tryd.prog w = .ok (.slice (some ⟨w.heap.size, 0, none⟩) 0 64) (w.alloc (.cells (Array.replicate 64 (.int .u8 0)) 5)) := fun w => make_bytesC 0 64 (by omega) (by omega) w
  have own : ((w1.alloc (.cells (stC H (.slice none 0 0) N) 87)).alloc (.cells (Array.replicate 64 (.int .u8 0)) 5)).ownsRow (w1.heap.size + 1) 5 1 (.slice (some ⟨w1.heap.size + 1, 0, none⟩) 0 64) 0 (([] : List UInt8).map fun c => Value.int .u8 (c.toNat : Int)) := by
    have h := World.ownsRow_made (w1.alloc (.cells (stC H (.slice none 0 0) N) 87)) (base := w1.heap.size + 1) (e := 5) (size := 1) (Array.replicate 64 (.int .u8 0)) 64 (by simp) (by unfold maxLen; omega) (by simp)
    simpa using h
  have hmi : (m0 : Int) ≤ 140737488355328 := by omega
  obtain ⟨k, hk⟩ : ∃ k, k = min (64 - len) m0 := ⟨_, rfl⟩
  have d1 : (64 : Int) - (len : Int) = ((64 - len : Nat) : Int) := by omega
  have hmin : min ((64 - len : Nat) : Int) (m0 : Int) = (k : Int) := by omega
  have lp : 0 < (len : Int) := by omega
  obtain ⟨i0, hi, hz0, hz1, hz2⟩ := info_parts (show (Tryd.prog.info? 5).map (fun i => (i.zero, i.size, i.bytes)) = some (some (.int .u8 0), 1, 1) by kernel_rfl)
  have A5 : Blk _ w1.heap.size 87 (stC H (.slice none 0 0) N) := (Blk.new w1 87 (stC H (.slice none 0 0) N)).alloc (.cells (Array.replicate 64 (.int .u8 0)) 5)
  have A1' := (A1.alloc (.cells (stC H (.slice none 0 0) N) 87)).alloc (.cells (Array.replicate 64 (.int .u8 0)) 5)
  have A0'' := (A0.alloc (.cells (stC H (.slice none 0 0) N) 87)).alloc (.cells (Array.replicate 64 (.int .u8 0)) 5)
  have AB' := ba (ba AB (.cells (stC H (.slice none 0 0) N) 87)) (.cells (Array.replicate 64 (.int .u8 0)) 5)
  have I := Lib.hid (And.intro hi (And.intro hz0 (And.intro hz1 (And.intro hz2 (And.intro own (And.intro A5 (And.intro A1' (And.intro AB' (And.intro hk A0''))))))))); clear hi hz0 hz1 hz2 own A0 A1 AB A5 A1' A0'' AB' hk
  rw [F.out.2.1, stC_lit] at I
  go_wp2_with (at_builtin; refine wl_app I.out.2.2.2.2.1 rfl _ _ 23 rfl Tryd.underlying23 i0 I.out.1 I.out.2.1 I.out.2.2.1 I.out.2.2.2.1 rfl (some ad) len c rest rfl ((F.out.2.2.2.1.below I.out.2.2.2.2.2.2.2.1 (Nat.le_refl _))) F.out.2.2.2.2.2.2.2.1 (by simp) (by omega) (by simp) ?_)
  intro v' w2 ho hg hnil
  obtain ⟨a2, hs2, hr2, hno2, _⟩ := slice_to a0 t0 m0 c0 k F.out.2.2.2.2.2.2.2.2 (by have := I.out.2.2.2.2.2.2.2.2.1; omega) hc0
  obtain ⟨g1, cap1, cur1, rfl, hgb, hbg, hpc1, hcm1, _, _⟩ := own_blk ho hnil
  have B5 := I.out.2.2.2.2.2.1.grown hg (by simp [Value.ownBlock])
  have B0 := I.out.2.2.2.2.2.2.2.2.2.grown hg (by simp [Value.ownBlock]; omega)
  have B1 := I.out.2.2.2.2.2.2.1.grown hg (by simp [Value.ownBlock]; omega)
  have BB := below_grown I.out.2.2.2.2.2.2.2.1 hg (by simp; omega) (by intro k hk; simp [Value.ownBlock] at hk; omega)
  have zz : w1.heap.size + 1 < w2.heap.size := Nat.lt_of_le_of_lt hgb hbg.lt
  have hkb : len + k ≤ 64 := by have := I.out.2.2.2.2.2.2.2.2.1; omega
  have hk2 : k ≤ m0 := by have := I.out.2.2.2.2.2.2.2.2.1; omega
  have hno3 : a2 = none → k = 0 ∧ c0 = 0 := fun h => by
    have := hno0 (hno2.2 h)
    exact ⟨by omega, this.2⟩
  have L2 := Lib.hid (And.intro ho (And.intro B5 (And.intro B0 (And.intro B1 (And.intro BB hr2))))); clear ho B5 B0 B1 BB hr2 hbg hg hnil hmk cc
  go_wp2_with (at_builtin; refine wl_app L2.out.1 rfl _ _ 23 rfl Tryd.underlying23 i0 I.out.1 I.out.2.1 I.out.2.2.1 I.out.2.2.2.1 rfl a2 k c0 (t0.take k) rfl (L2.out.2.2.2.2.2 _ (F.out.2.2.2.2.1.below L2.out.2.2.2.2.1 (Nat.le_refl _))) (by rw [List.length_take, F.out.2.2.2.2.2.2.2.2]; omega) hno3 (by omega) (by omega) ?_)
  intro v3 w3 ho' hg hnil
  have ho : w3.ownsRow (w1.heap.size + 1) 5 1 v3 (len + k) ((rest ++ t0.take k).map fun c => Value.int .u8 (c.toNat : Int)) := by rw [List.map_append, List.map_take]; exact ho'
  clear ho'
  obtain ⟨L, hL⟩ : ∃ L, L = len + k := ⟨_, rfl⟩
  rw [← hL] at ho
  have HL := Lib.hid hL; clear hL
  obtain ⟨g, cap, cur, rfl, hgb, hbg, hpc2, hcm2, hRp, hrd⟩ := own_blk ho hnil
  clear ho hnil
  have B5 := L2.out.2.1.grown hg (by simp [Value.ownBlock]; omega)
  have B1 := L2.out.2.2.2.1.grown hg (by simp [Value.ownBlock]; omega)
  have BB := below_grown L2.out.2.2.2.2.1 hg (by omega) (by intro k hk; simp [Value.ownBlock] at hk; omega)
  clear hg
  obtain rfl : L = 64 := by have := HL.out; have := I.out.2.2.2.2.2.2.2.2.1; omega
  have hkl : len + k = 64 := HL.out.symm
  have hk3 : k = 64 - len := by omega
  obtain ⟨He, hHe⟩ : ∃ He, He = blk H (rest ++ t0.take k) := ⟨_, rfl⟩
  obtain ⟨t, ht⟩ : ∃ t, t = t0.drop k := ⟨_, rfl⟩
  obtain ⟨m, hm⟩ : ∃ m, m = m0 - k := ⟨_, rfl⟩
  obtain ⟨c', hc'⟩ : ∃ c', c' = c0 - k := ⟨_, rfl⟩
  have hHel : He.length = 8 := by rw [hHe]; exact blk_length _ _ F.out.2.2.2.2.2.2.1
  have htm : t.length = m := by rw [ht, hm, List.length_drop, F.out.2.2.2.2.2.2.2.2]
  have hc : m ≤ c' := by omega
  have hc2 : m ≤ 140737488355328 ∧ c' ≤ 9223372036854775807 := by omega
  obtain ⟨a', hs3, hr3, hno4⟩ := slice_from a0 t0 m0 c0 k F.out.2.2.2.2.2.2.2.2 hk2 hc0
  rw [← hm, ← hc'] at hs3
  have hno : a' = none → m = 0 ∧ c' = 0 := fun h => by
    have := hno0 (hno4 h)
    exact ⟨by omega, by omega⟩
  have e1 : (rest ++ t0).take 64 = rest ++ t0.take k := by rw [List.take_append, List.take_of_length_le (by have := F.out.2.2.2.2.2.2.2.1; omega), F.out.2.2.2.2.2.2.2.1, ← hk3]
  have e2 : (rest ++ t0).drop 64 = t := by rw [List.drop_append, List.drop_of_length_le (by have := F.out.2.2.2.2.2.2.2.1; omega), F.out.2.2.2.2.2.2.2.1, ← hk3, ht]; rfl
  have e3 : 64 ≤ (rest ++ t0).length := by rw [List.length_append, F.out.2.2.2.2.2.2.2.1, F.out.2.2.2.2.2.2.2.2]; omega
  have FIN := Lib.hid (fun (a : Option Addr) (c : Nat) (w2 : World) (h1 : RdS w2 a (absR t)) (h2 : (absR t).length ≤ c) (h3 : c ≤ maxLen) (h4 : Below w.heap.size w w2) => show WrPost w H (rest ++ t0) ((n + m0) % W64) (.returned (.agg (stC (absH He t) (.slice a (absR t).length c) N))) w2 from ⟨a, c, by rw [absH_cons _ _ e3, absR_cons _ e3, e1, e2, ← hHe, F.out.2.2.1], by rw [absR_cons _ e3, e2]; exact h1, by rw [absR_cons _ e3, e2]; exact h2, h3, h4⟩)
  clear e1 e2 e3
  have hrd2 : Rd w3 g 0 (rest ++ t0.take k) := fun i hi => (hbg.cell (0 + i)).trans (by rw [Nat.zero_add]; exact hrd i hi)
  have hLw := F.out.2.2.2.2.2.1.below BB (Nat.le_refl _)
  have cB := Lib.hid (fun (_ : Unit) => Block_any H F.out.2.2.2.2.2.2.1 g 0 cap _ w3 hrd2 hbg.lt hRp hLw)
  rw [← hHe] at cB
  have hr4 := hr3 w F.out.2.2.2.2.1
  rw [← ht] at hr4
  have F5 := Lib.hid (And.intro trivial (And.intro trivial (And.intro trivial (And.intro hr4 (And.intro F.out.2.2.2.2.2.1 (And.intro hHel (And.intro htm trivial)))))))
  rw [← stC_lit, ← F.out.2.1] at B5
  have l5 := B5.lt
  have l1 := B1.lt
  have i8H := is8 (u32c H) (by rw [u32c_size, F.out.2.2.2.2.2.2.1])
  have s8r : (u32c He).size = 8 := by rw [u32c_size, hHel]
  have i8r := is8 (u32c He) s8r
  have a8r := u32c_one He
  have W := Lib.hid (And.intro B5 (And.intro B1 (And.intro BB (And.intro F.out.2.2.2.2.2.2.1 (And.intro s8r hHel))))); clear B5 B1 BB hbg hrd hRp hLw hrd2 hr3 hr4 hno4 ht hHe hHel htm s8r hno0 HL
  clear F L2 I
  have F := F5; clear F5
  have hcN : (64 : Int) < 64 ↔ False := by decide
  have hmI : m = m0 - k := hm
  have KM := Lib.hid (And.intro hm (And.intro hc' (And.intro hkl hk3))); clear hm hc' hkl hk3 hmI d1 hmin hcN
  go_wp2_with (refine wpList_load_mid rfl _ _ rfl w1.heap.size 0 rfl (u32c H).toList _ (words_range W.out.1 W.out.2.2.2.1) Tryd.underlying85 rfl (by simpa using i8H) ?_)
  refine (cB.out ()).mono ?_
  rintro e w4 ⟨rfl, hb4⟩
  have D1 := (W.out.2.1.calls hb4).setsFar (b := w1.heap.size) (by omega) (u32c He).toList 0
  have D5 := (W.out.1.calls hb4).setWords W.out.2.2.2.1 W.out.2.2.2.2.2
  have DB := below_sets (b := w1.heap.size) (show w.heap.size ≤ w1.heap.size by omega) (u32c He).toList 0 (bt W.out.2.2.1 hb4)
  have D := Lib.hid (And.intro D1 (And.intro D5 (And.intro DB (And.intro (W.out.1.calls hb4) trivial)))); clear D1 D5 DB hb4
  go_wp2_with (refine wpList_store_mid rfl _ _ _ rfl w1.heap.size 0 (u32c He) rfl rfl (by rw [W.out.2.2.2.2.1]; exact words_there D.out.2.2.2.1 W.out.2.2.2.1) i8r a8r ?_)
  have HA := Lib.hid (And.intro D.out.2.1 (And.intro D.out.1 D.out.2.2.1)); clear D W cB
  generalize w4.setCells _ _ _ = w5 at *
  have hm0 : 0 ≤ (m : Int) := by omega
  have hmb : m ≤ 140737488355328 := by omega
  go_loopw [1] (fun s wr => ∃ (j : Nat) (a1 : Option Addr) (c1 p : Nat), p = m - 64 * j ∧ 64 * j ≤ m ∧ s = .slice a1 p c1 ∧ p ≤ c1 ∧ (p ≤ 140737488355328 ∧ c1 ≤ 9223372036854775807) ∧ RdS w a1 (t.drop (64 * j)) ∧ (a1 = none → p = 0 ∧ c1 = 0) ∧ Blk wr (w.heap.size + 1) 87 (startC 0) ∧ Blk wr w1.heap.size 87 (stC (blks t j He) (.slice none 0 0) N) ∧ Below w.heap.size w wr) (fun s _ => lenS s)
  case atStart =>
    obtain ⟨A5, A1, AB⟩ := HA.out
    refine ⟨0, a', c', m, by omega, by omega, rfl, hc, hc2, F.out.2.2.2.1, hno, A1, ?_, AB⟩
    rw [blks]
    exact A5
  case round =>
    clear HA
    obtain ⟨j, a1, c1, p, hp, hj, rfl, hpc, hc1, hr1, hno1, h1, h5, hb⟩ := hrel
    have hpi : (p : Int) ≤ 140737488355328 := by omega
    by_cases h64 : 64 ≤ p
    · obtain ⟨a2, hs2, hr2, _, _⟩ := slice_to a1 (t.drop (64 * j)) p c1 64 (by rw [drop_length_eq, F.out.2.2.2.2.2.2.1, hp]) h64 hpc
      obtain ⟨Hj, hHj⟩ : ∃ Hj, Hj = blks t j He := ⟨_, rfl⟩
      have hHl : Hj.length = 8 := by rw [hHj]; exact blks_length t j He F.out.2.2.2.2.2.1
      obtain ⟨r, hrr⟩ : ∃ r, r = blk Hj ((t.drop (64 * j)).take 64) := ⟨_, rfl⟩
      have hnext : blks t (j + 1) He = r := by rw [blks, ← hHj, hrr]
      have hrl : r.length = 8 := by rw [hrr]; exact blk_length _ _ hHl
      have htl : ((t.drop (64 * j)).take 64).length = 64 := by rw [List.length_take, drop_length_eq, F.out.2.2.2.2.2.2.1, ← hp]; omega
      obtain ⟨g2, o2, ha2, hg2, hrd2⟩ : ∃ g off, a2 = some ⟨g, off, none⟩ ∧ g < w.heap.size ∧ Rd w g off ((t.drop (64 * j)).take 64) := by
        rcases hr2 w hr1 with hh | hh
        · rw [hh] at htl; cases htl
        · exact hh
      subst ha2
      have hcall : ∀ w', Below w.heap.size w w' → Calls Tryd.prog 54 #[.agg (u32c Hj), .slice (some ⟨g2, o2, none⟩) 64 c1] w' fun e w'' => e = .returned (.agg (u32c r)) ∧ Below w'.heap.size w' w'' := fun w' hw' => by
        rw [hrr]
        exact Block_any Hj hHl g2 o2 c1 _ w' (fun i hi => hrd2.at hw' hg2 i hi) (Nat.lt_of_lt_of_le hg2 hw'.size) htl (F.out.2.2.2.2.1.below hw' (Nat.le_refl _))
      rw [← hHj] at h5
      have l5 := h5.lt
      have l1 := h1.lt
      have i8H := is8 (u32c Hj) (by rw [u32c_size, hHl])
      have s8r : (u32c r).size = 8 := by rw [u32c_size, hrl]
      have i8r := is8 (u32c r) s8r
      have a8r := u32c_one r
      have hpm : (p : Int) - 64 = ((p - 64 : Nat) : Int) := by omega
      have K := Lib.hid (And.intro h1 (And.intro h5 (And.intro hb (And.intro hp (And.intro hHj (And.intro hHl (And.intro hrr (And.intro hnext (And.intro hrl (And.intro htl (And.intro hr1 (And.intro hr1 s8r))))))))))))
      clear h1 h5 hb hp hHj hHl hrr hnext hrl htl hr1 hr2 s8r
      have KC := Lib.hid hcall; clear hcall
      have KS := Lib.hid hs2; clear hs2
      go_wp2_with fail
      refine wp_region_tail [some 61, some 62, some 63, some 64, some 65, some 66, none] (fun i => ([.pointer (some ⟨w1.heap.size, 0, none⟩), .agg (u32c Hj), .slice a1 p c1, .slice (some ⟨g2, o2, none⟩) 64 c1, .agg (u32c r), .pointer (some ⟨w1.heap.size, 0, none⟩), undef] : List Value).getD i undef) 6 (fun w' => ∃ wq, Below wr.heap.size wr wq ∧ w' = wq.setCells w1.heap.size 0 (u32c r).toList) (by kernel_rfl) rfl rfl rfl rfl rfl rfl ⟨
        .inr ⟨rfl, fun A w' hb hs => op_field0 (.tmp 5) rfl w1.heap.size ((hs.2 5 rfl).trans rfl)⟩,
        .inr ⟨rfl, fun A w' hb hs => op_load_mid _ (.tmp 61) rfl w1.heap.size 0 (hs.1 0 rfl 61 rfl) (u32c Hj).toList _ (words_range (K.out.2.1.below hb K.out.2.1.lt) K.out.2.2.2.2.2.1) Tryd.underlying85 rfl (by simpa using i8H)⟩,
        .inr ⟨rfl, fun A w' hb hs => op_move (.tmp 1) (.inl rfl) ((hs.2 1 rfl).trans rfl)⟩,
        .inr ⟨rfl, fun A w' hb hs => op_slice_s _ (.tmp 63) none (some (.const (.int .i64 64))) rfl (hs.1 2 rfl 63 rfl) rfl rfl (by kernel_rfl) (KS.out w')⟩,
        .inr ⟨rfl, fun A w' hb hs => op_call 54 _ (exec_call _ 54 _ rfl rfl (margs2 (hs.1 1 rfl 62 rfl) (hs.1 3 rfl 64 rfl)) Tryd.func54 rfl rfl) (KC.out w' (bt K.out.2.2.1 hb))⟩,
        .inr ⟨rfl, fun A w' hb hs => op_field0 (.tmp 5) rfl w1.heap.size ((hs.2 5 rfl).trans rfl)⟩,
        .inl ⟨rfl, rfl, fun A w' hb hs => wp_store_mid _ (.tmp 66) (.tmp 65) rfl w1.heap.size 0 (u32c r) (hs.1 5 rfl 66 rfl) (hs.1 4 rfl 65 rfl) (by rw [K.out.2.2.2.2.2.2.2.2.2.2.2.2]; exact words_there (K.out.2.1.below hb K.out.2.1.lt) K.out.2.2.2.2.2.1) i8r a8r ⟨rfl, w', hb, rfl⟩⟩, trivial⟩ ?_
      rintro _ ⟨wq, hbq, rfl⟩
      simp only [Fr, if_true, Act.put, List.setIfInBounds_toArray, List.set_cons_zero, List.set_cons_succ, List.getD_cons_zero, List.getD_cons_succ]
      have D1 := (K.out.1.below hbq l1).setsFar (b := w1.heap.size) (by omega) (u32c r).toList 0
      have D5 := (K.out.2.1.below hbq l5).setWords K.out.2.2.2.2.2.1 K.out.2.2.2.2.2.2.2.2.1
      have DB := below_sets (b := w1.heap.size) (show w.heap.size ≤ w1.heap.size by omega) (u32c r).toList 0 (bt K.out.2.2.1 hbq)
      have D := Lib.hid (And.intro D1 (And.intro D5 DB)); clear D1 D5 DB hbq
      generalize wq.setCells _ _ _ = w6 at *
      go_wp2
      obtain ⟨D1, D5, DB⟩ := D.out
      obtain ⟨_, _, _, hp, hHj, _, _, hnext, _, _, hr1, _, _⟩ := K.out
      go_roundw
      case rel =>
        refine ⟨j + 1, _, c1 - 64, p - 64, by omega, by omega, rfl, by omega, by omega, ?_, ?_, D1, by rw [hnext]; exact D5, DB⟩
        · have := hr1.from (n := p) (c := c1) (k := 64) (by rw [drop_length_eq, F.out.2.2.2.2.2.2.1, hp]) h64 hpc
          rw [List.drop_drop, show 64 * j + 64 = 64 * (j + 1) by omega] at this
          exact this
        · intro hnone
          exfalso
          have hsome := hno1
          cases a1 with
          | none => have := (hno1 rfl).1; omega
          | some ad => split at hnone <;> cases hnone
      case measure => simp [lenS]; omega
    · have hjj : t.length / 64 = j := by rw [F.out.2.2.2.2.2.2.1]; omega
      have hpl : p = (absR t).length := by rw [absR_length, F.out.2.2.2.2.2.2.1]; omega
      have hdr : t.drop (64 * j) = absR t := by unfold absR; rw [hjj]
      have hHH : blks t j He = absH He t := by unfold absH; rw [hjj]
      rw [hdr] at hr1
      rw [hHH] at h5
      clear hjj hdr hHH
      have hRl : (absR t).length = p := hpl.symm
      have hmx : (absR t).length ≤ maxLen := by rw [hRl]; unfold maxLen; omega
      obtain ⟨i0, hi, hz0, hz1, hz2⟩ := info_parts (show (Tryd.prog.info? 5).map (fun i => (i.zero, i.size, i.bytes)) = some (some (.int .u8 0), 1, 1) by kernel_rfl)
      have l5 := h5.lt
      have l1 := h1.lt
      have hHl : (absH He t).length = 8 := blks_length _ _ _ F.out.2.2.2.2.2.1
      obtain ⟨HH, hHH⟩ : ∃ HH, HH = absH He t := ⟨_, rfl⟩
      obtain ⟨R, hR⟩ : ∃ R, R = absR t := ⟨_, rfl⟩
      rw [← hHH] at h5 hHl
      rw [← hR] at hr1 hRl hmx
      have K := Lib.hid (And.intro h1 (And.intro h5 (And.intro hb (And.intro hp (And.intro hHH (And.intro hHl (And.intro hR (And.intro hRl (And.intro hr1 hmx)))))))))
      clear h1 h5 hb hp hHH hHl hR hRl hr1 hpl hmx
      have HI0 := Lib.hid (And.intro hi (And.intro hz0 (And.intro hz1 hz2))); clear hi hz0 hz1 hz2
      cases a1 with
      | none =>
        obtain ⟨hp0, hc0⟩ := hno1 rfl
        subst hp0 hc0
        have R0 : R = [] := List.length_eq_zero_iff.1 K.out.2.2.2.2.2.2.2.1
        obtain ⟨C, hC⟩ : ∃ C, C = stC HH (.slice (some ⟨wr.heap.size, 0, none⟩) 0 0) N := ⟨_, rfl⟩
        have sC : C.size = 10 := by rw [hC]; exact stC_size _ _ _ K.out.2.2.2.2.2.1
        have iC := isSt10 C sC
        have s1 : (startC 0).size = C.size := by rw [sC]; rfl
        have aC : C.all (·.oneCell') = true := by rw [hC]; exact stC_one _ _ _ _ _
        have B5 := K.out.2.1.alloc (.cells #[] 5)
        have c8 := blk_get B5 8 _ (stC_rest _ _ _ K.out.2.2.2.2.2.1)
        have f8 := B5.frozen 8
        have M5 : Blk _ w1.heap.size 87 C := ((K.out.2.1.set_ 8 (.slice (some ⟨wr.heap.size, 0, none⟩) 0 0)).to (show _ = C by rw [hC]; exact stC_setRest _ _ _ _ K.out.2.2.2.2.2.1)).alloc (.cells #[] 5)
        have M1 := (K.out.1.far (show w.heap.size + 1 ≠ w1.heap.size by omega) (i := 8) (.slice (some ⟨wr.heap.size, 0, none⟩) 0 0)).alloc (.cells #[] 5)
        have MB := ba (K.out.2.2.1.setCell (show w.heap.size ≤ (⟨w1.heap.size, 8, none⟩ : Addr).block by show w.heap.size ≤ w1.heap.size; omega) (.slice (some ⟨wr.heap.size, 0, none⟩) 0 0)) (.cells #[] 5)
        have M := Lib.hid (And.intro M5 (And.intro M1 (And.intro MB (And.intro hC R0)))); clear M5 M1 MB B5 hC sC R0
        go_wp2_with (first | (at_builtin; refine wpList_append_own_none rfl _ _ 23 rfl wr.heap.size 5 i0 1 Tryd.underlying23 HI0.out.1 _ 0 [] rfl (World.ownsRow_made wr #[] 0 (Nat.le_refl _) (by omega) rfl) rfl ?_) | with_reducible refine wl_st M.out.1 _ _ rfl rfl rfl _ Tryd.underlying87 iC ?_ | with_reducible refine ws_row M.out.2.1 _ _ _ _ rfl rfl rfl rfl iC s1 aC ?_)
        obtain ⟨M5, M1, MB, hC, R0⟩ := M.out
        have hRR := K.out.2.2.2.2.2.2.1
        have hHH := K.out.2.2.2.2.1
        rw [R0] at hRR
        have hCC : C = stC (absH He t) (.slice (some ⟨wr.heap.size, 0, none⟩) (absR t).length 0) N := by rw [hC, hHH, ← hRR]; rfl
        refine bodyPost_ret (v := .agg C) ?_ rfl (by rw [hCC]; exact FIN.out _ _ _ (.inl hRR.symm) (by rw [← hRR]; exact Nat.le_refl _) (by unfold maxLen; omega) (setRow_below MB (by omega) _))
        exact results_cell_row rfl _ _ _ _ _ (0, 0) _ rfl (M1.row _) Tryd.underlying87 rfl iC
      | some ad =>
        clear hno1
        have hmb2 : p ≤ maxLen := by unfold maxLen; omega
        have hmb3 : (0 + p) * 1 ≤ 140737488355328 := by omega
        go_wp2_with (at_builtin; go_loud (refine wpList_append_own _ rfl _ _ 23 rfl wr.heap.size 5 i0 (.int .u8 0) 1 1 Tryd.underlying23 HI0.out.1 HI0.out.2.1 HI0.out.2.2.1 HI0.out.2.2.2 rfl (by omega) _ 0 [] rfl (World.ownsRow_made wr #[] 0 (Nat.le_refl _) (by omega) rfl) ad p c1 (R.map fun c => Value.int .u8 (c.toNat : Int)) rfl (by rw [List.length_map, K.out.2.2.2.2.2.2.2.1, Nat.mul_one]) (fun j u hu => rd_news ((K.out.2.2.2.2.2.2.2.2.1.below K.out.2.2.1 (Nat.le_refl _)).below ((Below.refl _ _).alloc (Nat.le_refl _) _) (Nat.le_refl _)) j u hu) (one_news R) (by omega) hmb3 (by simp) ?_))
        intro v' w' ho hg hnil
        obtain ⟨g, cap, cur, rfl, hgb, hbg, hpc2, hcm3, hRp, hrd⟩ := own_blk ho hnil
        clear ho hnil
        have B5 := (K.out.2.1.alloc (.cells #[] 5)).grown hg (by simp [Value.ownBlock]; omega)
        have B1 := (K.out.1.alloc (.cells #[] 5)).grown hg (by simp [Value.ownBlock]; omega)
        have BB := below_grown (ba K.out.2.2.1 (.cells #[] 5)) hg (by simp; omega) (by intro k hk; simp [Value.ownBlock] at hk; omega)
        clear hg
        obtain ⟨C, hC⟩ : ∃ C, C = stC HH (.slice (some ⟨g, 0, none⟩) p cap) N := ⟨_, rfl⟩
        have sC : C.size = 10 := by rw [hC]; exact stC_size _ _ _ K.out.2.2.2.2.2.1
        have iC := isSt10 C sC
        have s1 : (startC 0).size = C.size := by rw [sC]; rfl
        have aC : C.all (·.oneCell') = true := by rw [hC]; exact stC_one _ _ _ _ _
        have c8 := blk_get B5 8 _ (stC_rest _ _ _ K.out.2.2.2.2.2.1)
        have f8 := B5.frozen 8
        have M5 : Blk _ w1.heap.size 87 C := (B5.set_ 8 (.slice (some ⟨g, 0, none⟩) p cap)).to (show _ = C by rw [hC]; exact stC_setRest _ _ _ _ K.out.2.2.2.2.2.1)
        have M1 := B1.far (show w.heap.size + 1 ≠ w1.heap.size by omega) (i := 8) (.slice (some ⟨g, 0, none⟩) p cap)
        have MG := hbg.far (show g ≠ w1.heap.size by omega) (i := 8) (.slice (some ⟨g, 0, none⟩) p cap)
        have MB := BB.setCell (show w.heap.size ≤ (⟨w1.heap.size, 8, none⟩ : Addr).block by show w.heap.size ≤ w1.heap.size; omega) (.slice (some ⟨g, 0, none⟩) p cap)
        have M := Lib.hid (And.intro M5 (And.intro M1 (And.intro MB (And.intro hC (And.intro MG hrd))))); clear M5 M1 MB B5 B1 BB hbg hC sC MG hrd
        go_wp2_with (first | with_reducible refine wl_st M.out.1 _ _ rfl rfl rfl _ Tryd.underlying87 iC ?_ | with_reducible refine ws_row M.out.2.1 _ _ _ _ rfl rfl rfl rfl iC s1 aC ?_)
        obtain ⟨M5, M1, MB, hC, MG, hrd⟩ := M.out
        have hRR := K.out.2.2.2.2.2.2.1
        have hHH := K.out.2.2.2.2.1
        have hRl := K.out.2.2.2.2.2.2.2.1
        have hCC : C = stC (absH He t) (.slice (some ⟨g, 0, none⟩) (absR t).length cap) N := by rw [hC, hHH, ← hRR, hRl]
        refine bodyPost_ret (v := .agg C) ?_ rfl (by
          rw [hCC]
          refine FIN.out _ _ _ (.inr ⟨g, 0, rfl, (MG.rowFar (show g ≠ w.heap.size + 1 by omega) _).lt, ?_⟩) (by rw [← hRR, hRl]; exact hpc2) hcm3 (setRow_below MB (by omega) _)
          intro i hi
          rw [← hRR] at hi ⊢
          exact ((MG.rowFar (show g ≠ w.heap.size + 1 by omega) _).cell (0 + i)).trans (by rw [Nat.zero_add]; exact hrd i hi))
        exact results_cell_row rfl _ _ _ _ _ (0, 0) _ rfl (M1.row _) Tryd.underlying87 rfl iC
end Go.Proofs.YticiipddilabfaaDoor

namespace Go.Proofs.YticiipddilabfaaDoor
open Go.RowKit
set_option linter.unusedVariables false

/-- The state that Write goes on from. -/
def effH (H : List Wd) (len n : Nat) : List Wd := if len = n % 64 then H else HI
def effR (r : List UInt8) (len n : Nat) : List UInt8 := if len = n % 64 then r else []
def effN (len n : Nat) : Nat := if len = n % 64 then n else 0
theorem Write_any (H : List Wd) (hH : H.length = 8) (a : Option Addr) (rest : List UInt8) (len c n : Nat) (hn : n < W64) (hrl : rest.length = len) (hlc : len ≤ c) (hcm : c ≤ maxLen)
    (a' : Option Addr) (t : List UInt8) (m c' : Nat) (hm : t.length = m) (hc : m ≤ c') (hc2 : m ≤ 140737488355328 ∧ c' ≤ 9223372036854775807) (hno : a' = none → m = 0 ∧ c' = 0) (w : World) (hrr : RdS w a rest) (hr : RdS w a' t) (hL : Laid w) :
    Calls Tryd.prog 44 #[.agg (stC H (.slice a len c) n), .slice a' m c'] w (WrPost w (effH H len n) (effR rest len n ++ t) ((effN len n + m) % W64)) := by
  have hl9 : len ≤ 9223372036854775807 := by unfold maxLen at hcm; omega
  unfold effH effR effN
  by_cases h : len = n % 64
  · rw [if_pos h, if_pos h, if_pos h]
    by_cases h0 : len = 0
    · have hr0 : rest = [] := List.length_eq_zero_iff.1 (by omega)
      rw [hr0, List.nil_append]
      exact Write_empty H hH a len c n hn hl9 H hH a c n hn hcm (.inl ⟨h, rfl, rfl, rfl, rfl, h0⟩) a' t m c' hm hc hc2 hno w hr hL
    · rcases hrr with hrr | ⟨g, off, ha, hg, hrd⟩
      · rw [hrr] at hrl; exact absurd hrl.symm h0
      · subst ha
        by_cases hf : len + m < 64
        · exact Write_few H hH _ rest len c n hn h (by omega) hrl hlc hcm a' t m c' hm hc hc2 hno hf w (.inr ⟨g, off, rfl, hg, hrd⟩) hr hL
        · exact Write_many H hH _ rest len c n hn h (by omega) hrl hlc hcm a' t m c' hm hc hc2 hno (by omega) w (.inr ⟨g, off, rfl, hg, hrd⟩) hr hL
  · rw [if_neg h, if_neg h, if_neg h, List.nil_append]
    exact Write_empty H hH a len c n hn hl9 HI HI_length none 0 0 (by unfold W64; omega) (by omega) (.inr ⟨h, rfl, rfl, rfl, rfl⟩) a' t m c' hm hc hc2 hno w hr hL

/-! ## Taking up in parts is taking up at once -/
theorem abs_app (H : List Wd) (t : List UInt8) : ∀ (k : Nat) (l : List UInt8), l.length ≤ k → ∀ H, absH H (l ++ t) = absH (absH H l) (absR l ++ t) ∧ absR (l ++ t) = absR (absR l ++ t)
  | 0, l, h, H => by
    have : l = [] := List.length_eq_zero_iff.1 (by omega)
    subst this
    exact ⟨rfl, rfl⟩
  | k + 1, l, h, H => by
    by_cases h64 : l.length < 64
    · rw [absH_few H l h64, absR_few l h64]
      exact ⟨rfl, rfl⟩
    · have hlt : 64 ≤ (l ++ t).length := by rw [List.length_append]; omega
      have e1 : (l ++ t).take 64 = l.take 64 := List.take_append_of_le_length (by omega)
      have e2 : (l ++ t).drop 64 = l.drop 64 ++ t := List.drop_append_of_le_length (by omega)
      have ih := abs_app H t k (l.drop 64) (by rw [List.length_drop]; omega) (blk H (l.take 64))
      rw [absH_cons H (l ++ t) hlt, absR_cons (l ++ t) hlt, e1, e2, absH_cons H l (by omega), absR_cons l (by omega)]
      exact ih
theorem absH_app (H : List Wd) (l t : List UInt8) : absH H (l ++ t) = absH (absH H l) (absR l ++ t) := (abs_app H t l.length l (Nat.le_refl _) H).1
theorem absR_app (l t : List UInt8) : absR (l ++ t) = absR (absR l ++ t) := (abs_app [] t l.length l (Nat.le_refl _) []).2
theorem absH_length (H : List Wd) (l : List UInt8) (h : H.length = 8) : (absH H l).length = 8 := blks_length _ _ _ h

/-- v is the state that has taken up txt, from the beginning on. -/
def StAt (w : World) (v : Value) (txt : List UInt8) : Prop :=
  ∃ (a : Option Addr) (c : Nat), v = .agg (stC (absH HI txt) (.slice a (absR txt).length c) (txt.length % W64)) ∧ RdS w a (absR txt) ∧ (absR txt).length ≤ c ∧ c ≤ maxLen
theorem StAt.below {w w' : World} {v : Value} {txt : List UInt8} (h : StAt w v txt) (hb : Below w.heap.size w w') : StAt w' v txt := by
  obtain ⟨a, c, e, hr, h1, h2⟩ := h
  exact ⟨a, c, e, hr.calls hb, h1, h2⟩
theorem StAt.start (w : World) : StAt w (.agg (stC HI (.slice none 0 0) 0)) [] := ⟨none, 0, rfl, .inl rfl, Nat.le_refl _, Nat.zero_le _⟩
/-- Write goes on with a text. -/
theorem Write_at (v : Value) (txt : List UInt8) (a' : Option Addr) (t : List UInt8) (m c' : Nat) (hm : t.length = m) (hc : m ≤ c') (hc2 : m ≤ 140737488355328 ∧ c' ≤ 9223372036854775807) (hno : a' = none → m = 0 ∧ c' = 0) (w : World) (hv : StAt w v txt) (hr : RdS w a' t) (hL : Laid w) :
    Calls Tryd.prog 44 #[v, .slice a' m c'] w fun e w' => ∃ v', e = .returned v' ∧ StAt w' v' (txt ++ t) ∧ Below w.heap.size w w' := by
  obtain ⟨a, c, rfl, hra, h1, h2⟩ := hv
  have hW : txt.length % W64 < W64 := Nat.mod_lt _ W64_pos
  have hs : (absR txt).length = txt.length % W64 % 64 := by rw [absR_length]; unfold W64; omega
  refine (Write_any (absH HI txt) (absH_length _ _ HI_length) a (absR txt) _ c _ hW rfl h1 h2 a' t m c' hm hc hc2 hno w hra hr hL).mono ?_
  rintro e w' ⟨a2, c2, rfl, hr2, h3, h4, hb⟩
  refine ⟨_, rfl, ?_, hb⟩
  simp only [effH, effR, effN, if_pos hs] at hr2 h3 ⊢
  refine ⟨a2, c2, ?_, by rw [absR_app]; exact hr2, by rw [absR_app]; exact h3, h4⟩
  rw [absH_app HI txt t, absR_app txt t, List.length_append, hm]
  have e : (txt.length % W64 + m) % W64 = (txt.length + m) % W64 := by unfold W64; omega
  rw [e]
end Go.Proofs.YticiipddilabfaaDoor
