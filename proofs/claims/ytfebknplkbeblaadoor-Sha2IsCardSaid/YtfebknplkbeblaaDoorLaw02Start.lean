/- The document's Start, Constant, Initial; Sha2Start: its walk. -/
import Derived.Test.YtfebknplkbeblaaDoorSame
namespace Go.Proofs.YtfebknplkbeblaaDoor
open Go.RowKit
set_option linter.unusedVariables false
def cV (i : Int) : Nat := if 0 ≤ i ∧ i ≤ 63 then wn (KC.getD i.toNat 0) else 0
def iV (i : Int) : Nat := if 0 ≤ i ∧ i ≤ 7 then wn (HI.getD i.toNat 0) else 0
theorem Constant_all (i : Int) (w : World) (hL : Laid w) : Calls Tryd.prog 18 #[.int .i64 i] w fun e w' => e = .returned (.int .u32 (cV i)) ∧ Below w.heap.size w w' := by
  by_cases h : 0 ≤ i ∧ i ≤ 63
  · obtain ⟨k, rfl⟩ : ∃ k : Nat, i = k := ⟨i.toNat, by omega⟩
    have e : cV (k : Int) = wn (KC.getD k 0) := by unfold cV; rw [if_pos h, Int.toNat_natCast]
    rw [e]
    exact (Constant_any k (by omega) _ rfl w hL).mono fun _ _ ⟨h1, h2⟩ => ⟨h1, h2 ▸ Below.refl _ _⟩
  · have e : cV i = 0 := by unfold cV; rw [if_neg h]
    rw [e]
    exact (Constant_no i (by omega) w).mono fun _ _ ⟨h1, h2⟩ => ⟨h1, h2 ▸ Below.refl _ _⟩
theorem Initial_all (i : Int) (w : World) (hL : Laid w) : Calls Tryd.prog 20 #[.int .i64 i] w fun e w' => e = .returned (.int .u32 (iV i)) ∧ Below w.heap.size w w' := by
  by_cases h : 0 ≤ i ∧ i ≤ 7
  · obtain ⟨k, rfl⟩ : ∃ k : Nat, i = k := ⟨i.toNat, by omega⟩
    have e : iV (k : Int) = wn (HI.getD k 0) := by unfold iV; rw [if_pos h, Int.toNat_natCast]
    rw [e]
    exact (Initial_any k (by omega) _ rfl w hL).mono fun _ _ ⟨h1, h2⟩ => ⟨h1, h2 ▸ Below.refl _ _⟩
  · have e : iV i = 0 := by unfold iV; rw [if_neg h]
    rw [e]
    exact (Initial_no i (by omega) w).mono fun _ _ ⟨h1, h2⟩ => ⟨h1, h2 ▸ Below.refl _ _⟩
set_option maxRecDepth 100000 in
theorem RInitial_in (k : Nat) (hk : k < 8) (w : World) : Calls Tryd.prog 21 #[.int .i64 k] w fun e w' => e = .returned (.int .u32 (wn (HI.getD k 0))) ∧ Below w.heap.size w w' := by
  rcases (show k = 0 ∨ k = 1 ∨ k = 2 ∨ k = 3 ∨ k = 4 ∨ k = 5 ∨ k = 6 ∨ k = 7 from by omega) with rfl | rfl | rfl | rfl | rfl | rfl | rfl | rfl
  all_goals
    go_enter Tryd.func21, Tryd.ntmps21
    go_wp2
    go_ret
    exact ⟨rfl, ba (Below.refl _ _) _⟩
set_option maxRecDepth 100000 in
theorem RInitial_no (i : Int) (h : i < 0 ∨ 7 < i) (w : World) : Calls Tryd.prog 21 #[.int .i64 i] w fun e w' => e = .returned (.int .u32 0) ∧ Below w.heap.size w w' := by
  by_cases h0 : i < 0
  · go_enter Tryd.func21, Tryd.ntmps21
    go_wp2
    go_ret
    exact ⟨rfl, ba (Below.refl _ _) _⟩
  · have h7 : 7 < i := by omega
    go_enter Tryd.func21, Tryd.ntmps21
    go_wp2
    go_ret
    exact ⟨rfl, ba (Below.refl _ _) _⟩
theorem RInitial_all (i : Int) (w : World) : Calls Tryd.prog 21 #[.int .i64 i] w fun e w' => e = .returned (.int .u32 (iV i)) ∧ Below w.heap.size w w' := by
  by_cases h : 0 ≤ i ∧ i ≤ 7
  · obtain ⟨k, rfl⟩ : ∃ k : Nat, i = k := ⟨i.toNat, by omega⟩
    have e : iV (k : Int) = wn (HI.getD k 0) := by unfold iV; rw [if_pos h, Int.toNat_natCast]
    rw [e]
    exact RInitial_in k (by omega) w
  · have e : iV i = 0 := by unfold iV; rw [if_neg h]
    rw [e]
    exact RInitial_no i (by omega) w
theorem wl_run {P : Program} {w : World} {ops : Array Oper} {rest : List Oper} {o : Oper} {a : Act} {Q : Exit → Act → World → Prop} {u : Value} (hgd : o.guard = none) (hrun : (execOp a.eval o).run P w = .ok (.value u) w) (k : wpList P ops Q rest (a.put o.dst u) w) : wpList P ops Q (o :: rest) a w :=
  wpList_plain hgd fun _ hK => by
    unfold Oper.wp
    rw [hrun]
    exact hK _ _ k
theorem KC_length : KC.length = 64 := by kernel_rfl
set_option maxRecDepth 100000 in
set_option maxHeartbeats 4000000 in
theorem Constants_any (w : World) : Calls Tryd.prog 61 #[] w fun e w' => e = .returned (.agg (u32c KC)) ∧ Below w.heap.size w w' := by
  obtain ⟨K, hK⟩ : ∃ K, K = u32c KC := ⟨_, rfl⟩
  have sK : K.size = 64 := by rw [hK, u32c_size]; exact KC_length
  have aK : K.all (·.oneCell') = true := by rw [hK]; exact u32c_one _
  have iK := is64 K sK
  have sZ : (#[.int .u32 0, .int .u32 0, .int .u32 0, .int .u32 0, .int .u32 0, .int .u32 0, .int .u32 0, .int .u32 0, .int .u32 0, .int .u32 0, .int .u32 0, .int .u32 0, .int .u32 0, .int .u32 0, .int .u32 0, .int .u32 0, .int .u32 0, .int .u32 0, .int .u32 0, .int .u32 0, .int .u32 0, .int .u32 0, .int .u32 0, .int .u32 0, .int .u32 0, .int .u32 0, .int .u32 0, .int .u32 0, .int .u32 0, .int .u32 0, .int .u32 0, .int .u32 0, .int .u32 0, .int .u32 0, .int .u32 0, .int .u32 0, .int .u32 0, .int .u32 0, .int .u32 0, .int .u32 0, .int .u32 0, .int .u32 0, .int .u32 0, .int .u32 0, .int .u32 0, .int .u32 0, .int .u32 0, .int .u32 0, .int .u32 0, .int .u32 0, .int .u32 0, .int .u32 0, .int .u32 0, .int .u32 0, .int .u32 0, .int .u32 0, .int .u32 0, .int .u32 0, .int .u32 0, .int .u32 0, .int .u32 0, .int .u32 0, .int .u32 0, .int .u32 0] : Array Value).size = K.size := by rw [sK]; rfl
  have HK := Lib.hid hK; clear hK sK
  have N : Blk _ w.heap.size 79 #[.int .u32 0, .int .u32 0, .int .u32 0, .int .u32 0, .int .u32 0, .int .u32 0, .int .u32 0, .int .u32 0, .int .u32 0, .int .u32 0, .int .u32 0, .int .u32 0, .int .u32 0, .int .u32 0, .int .u32 0, .int .u32 0, .int .u32 0, .int .u32 0, .int .u32 0, .int .u32 0, .int .u32 0, .int .u32 0, .int .u32 0, .int .u32 0, .int .u32 0, .int .u32 0, .int .u32 0, .int .u32 0, .int .u32 0, .int .u32 0, .int .u32 0, .int .u32 0, .int .u32 0, .int .u32 0, .int .u32 0, .int .u32 0, .int .u32 0, .int .u32 0, .int .u32 0, .int .u32 0, .int .u32 0, .int .u32 0, .int .u32 0, .int .u32 0, .int .u32 0, .int .u32 0, .int .u32 0, .int .u32 0, .int .u32 0, .int .u32 0, .int .u32 0, .int .u32 0, .int .u32 0, .int .u32 0, .int .u32 0, .int .u32 0, .int .u32 0, .int .u32 0, .int .u32 0, .int .u32 0, .int .u32 0, .int .u32 0, .int .u32 0, .int .u32 0] := Blk.new w 79 #[.int .u32 0, .int .u32 0, .int .u32 0, .int .u32 0, .int .u32 0, .int .u32 0, .int .u32 0, .int .u32 0, .int .u32 0, .int .u32 0, .int .u32 0, .int .u32 0, .int .u32 0, .int .u32 0, .int .u32 0, .int .u32 0, .int .u32 0, .int .u32 0, .int .u32 0, .int .u32 0, .int .u32 0, .int .u32 0, .int .u32 0, .int .u32 0, .int .u32 0, .int .u32 0, .int .u32 0, .int .u32 0, .int .u32 0, .int .u32 0, .int .u32 0, .int .u32 0, .int .u32 0, .int .u32 0, .int .u32 0, .int .u32 0, .int .u32 0, .int .u32 0, .int .u32 0, .int .u32 0, .int .u32 0, .int .u32 0, .int .u32 0, .int .u32 0, .int .u32 0, .int .u32 0, .int .u32 0, .int .u32 0, .int .u32 0, .int .u32 0, .int .u32 0, .int .u32 0, .int .u32 0, .int .u32 0, .int .u32 0, .int .u32 0, .int .u32 0, .int .u32 0, .int .u32 0, .int .u32 0, .int .u32 0, .int .u32 0, .int .u32 0, .int .u32 0]
  go_enter Tryd.func61, Tryd.ntmps61
  go_wp2_with (first | with_reducible refine ws_row N _ _ _ _ rfl rfl rfl rfl iK sZ aK ?_ | (with_reducible refine wl_run (o := ⟨some 1, _, _, _, _, _⟩) (u := .agg K) rfl (by rw [HK.out]; kernel_rfl) ?_))
  refine bodyPost_ret (v := .agg K) ?_ rfl ⟨by rw [HK.out], setRow_below ((Below.refl _ _).alloc (Nat.le_refl _) _) (Nat.le_refl _) _⟩
  exact results_cell_row rfl _ _ _ _ _ (0, 0) _ rfl (N.row _) Tryd.underlying79 rfl iK
set_option maxRecDepth 100000 in
theorem RConstant_in (k : Nat) (hk : k < 64) (w : World) : Calls Tryd.prog 19 #[.int .i64 k] w fun e w' => e = .returned (.int .u32 (wn (KC.getD k 0))) ∧ Below w.heap.size w w' := by
  obtain ⟨K, hK⟩ : ∃ K, K = u32c KC := ⟨_, rfl⟩
  have sK : K.size = 64 := by rw [hK, u32c_size]; exact KC_length
  have aK : K.all (·.oneCell') = true := by rw [hK]; exact u32c_one _
  have ik := u32c_at KC k (by rw [KC_length]; exact hk)
  rw [← hK] at ik
  obtain ⟨x, hx⟩ : ∃ x, x = wn (KC.getD k 0) := ⟨_, rfl⟩
  rw [← hx] at ik ⊢
  have cK := fun w => Constants_any w
  rw [← hK] at cK
  have iK := is64 K sK
  have sZ : (#[.int .u32 0, .int .u32 0, .int .u32 0, .int .u32 0, .int .u32 0, .int .u32 0, .int .u32 0, .int .u32 0, .int .u32 0, .int .u32 0, .int .u32 0, .int .u32 0, .int .u32 0, .int .u32 0, .int .u32 0, .int .u32 0, .int .u32 0, .int .u32 0, .int .u32 0, .int .u32 0, .int .u32 0, .int .u32 0, .int .u32 0, .int .u32 0, .int .u32 0, .int .u32 0, .int .u32 0, .int .u32 0, .int .u32 0, .int .u32 0, .int .u32 0, .int .u32 0, .int .u32 0, .int .u32 0, .int .u32 0, .int .u32 0, .int .u32 0, .int .u32 0, .int .u32 0, .int .u32 0, .int .u32 0, .int .u32 0, .int .u32 0, .int .u32 0, .int .u32 0, .int .u32 0, .int .u32 0, .int .u32 0, .int .u32 0, .int .u32 0, .int .u32 0, .int .u32 0, .int .u32 0, .int .u32 0, .int .u32 0, .int .u32 0, .int .u32 0, .int .u32 0, .int .u32 0, .int .u32 0, .int .u32 0, .int .u32 0, .int .u32 0, .int .u32 0] : Array Value).size = K.size := by rw [sK]; rfl
  have CK := Lib.hid (And.intro cK (And.intro hK hx)); clear cK hK hx sK
  have k0 : ¬ (k : Int) < 0 := by omega
  have k1 : ¬ (63 : Int) < (k : Int) := by omega
  go_enter Tryd.func19, Tryd.ntmps19
  go_wp2_with fail
  refine (CK.out.1 w).mono ?_
  rintro e w1 ⟨rfl, hb⟩
  have B := Lib.hid hb; clear hb
  have N : Blk _ w1.heap.size 79 #[.int .u32 0, .int .u32 0, .int .u32 0, .int .u32 0, .int .u32 0, .int .u32 0, .int .u32 0, .int .u32 0, .int .u32 0, .int .u32 0, .int .u32 0, .int .u32 0, .int .u32 0, .int .u32 0, .int .u32 0, .int .u32 0, .int .u32 0, .int .u32 0, .int .u32 0, .int .u32 0, .int .u32 0, .int .u32 0, .int .u32 0, .int .u32 0, .int .u32 0, .int .u32 0, .int .u32 0, .int .u32 0, .int .u32 0, .int .u32 0, .int .u32 0, .int .u32 0, .int .u32 0, .int .u32 0, .int .u32 0, .int .u32 0, .int .u32 0, .int .u32 0, .int .u32 0, .int .u32 0, .int .u32 0, .int .u32 0, .int .u32 0, .int .u32 0, .int .u32 0, .int .u32 0, .int .u32 0, .int .u32 0, .int .u32 0, .int .u32 0, .int .u32 0, .int .u32 0, .int .u32 0, .int .u32 0, .int .u32 0, .int .u32 0, .int .u32 0, .int .u32 0, .int .u32 0, .int .u32 0, .int .u32 0, .int .u32 0, .int .u32 0, .int .u32 0] := Blk.new w1 79 #[.int .u32 0, .int .u32 0, .int .u32 0, .int .u32 0, .int .u32 0, .int .u32 0, .int .u32 0, .int .u32 0, .int .u32 0, .int .u32 0, .int .u32 0, .int .u32 0, .int .u32 0, .int .u32 0, .int .u32 0, .int .u32 0, .int .u32 0, .int .u32 0, .int .u32 0, .int .u32 0, .int .u32 0, .int .u32 0, .int .u32 0, .int .u32 0, .int .u32 0, .int .u32 0, .int .u32 0, .int .u32 0, .int .u32 0, .int .u32 0, .int .u32 0, .int .u32 0, .int .u32 0, .int .u32 0, .int .u32 0, .int .u32 0, .int .u32 0, .int .u32 0, .int .u32 0, .int .u32 0, .int .u32 0, .int .u32 0, .int .u32 0, .int .u32 0, .int .u32 0, .int .u32 0, .int .u32 0, .int .u32 0, .int .u32 0, .int .u32 0, .int .u32 0, .int .u32 0, .int .u32 0, .int .u32 0, .int .u32 0, .int .u32 0, .int .u32 0, .int .u32 0, .int .u32 0, .int .u32 0, .int .u32 0, .int .u32 0, .int .u32 0, .int .u32 0]
  have D := N.row K
  have ck := blk_get D k _ ik
  have k64 : (k : Int) < 64 := by omega
  have k0' : 0 ≤ (k : Int) := by omega
  go_wp2_with (with_reducible refine ws_row N _ _ _ _ rfl rfl rfl rfl iK sZ aK ?_)
  have bz : Below w.heap.size w _ := setRow_below (ba B.out (.cells #[.int .u32 0, .int .u32 0, .int .u32 0, .int .u32 0, .int .u32 0, .int .u32 0, .int .u32 0, .int .u32 0, .int .u32 0, .int .u32 0, .int .u32 0, .int .u32 0, .int .u32 0, .int .u32 0, .int .u32 0, .int .u32 0, .int .u32 0, .int .u32 0, .int .u32 0, .int .u32 0, .int .u32 0, .int .u32 0, .int .u32 0, .int .u32 0, .int .u32 0, .int .u32 0, .int .u32 0, .int .u32 0, .int .u32 0, .int .u32 0, .int .u32 0, .int .u32 0, .int .u32 0, .int .u32 0, .int .u32 0, .int .u32 0, .int .u32 0, .int .u32 0, .int .u32 0, .int .u32 0, .int .u32 0, .int .u32 0, .int .u32 0, .int .u32 0, .int .u32 0, .int .u32 0, .int .u32 0, .int .u32 0, .int .u32 0, .int .u32 0, .int .u32 0, .int .u32 0, .int .u32 0, .int .u32 0, .int .u32 0, .int .u32 0, .int .u32 0, .int .u32 0, .int .u32 0, .int .u32 0, .int .u32 0, .int .u32 0, .int .u32 0, .int .u32 0] 79)) B.out.size K
  go_ret
  exact ⟨by rw [CK.out.2.2]; rfl, bz⟩
set_option maxRecDepth 100000 in
theorem RConstant_no (i : Int) (h : i < 0 ∨ 63 < i) (w : World) : Calls Tryd.prog 19 #[.int .i64 i] w fun e w' => e = .returned (.int .u32 0) ∧ Below w.heap.size w w' := by
  by_cases h0 : i < 0
  · go_enter Tryd.func19, Tryd.ntmps19
    go_wp2
    go_ret
    exact ⟨rfl, Below.refl _ _⟩
  · have h7 : 63 < i := by omega
    go_enter Tryd.func19, Tryd.ntmps19
    go_wp2
    go_ret
    exact ⟨rfl, Below.refl _ _⟩
theorem RConstant_all (i : Int) (w : World) : Calls Tryd.prog 19 #[.int .i64 i] w fun e w' => e = .returned (.int .u32 (cV i)) ∧ Below w.heap.size w w' := by
  by_cases h : 0 ≤ i ∧ i ≤ 63
  · obtain ⟨k, rfl⟩ : ∃ k : Nat, i = k := ⟨i.toNat, by omega⟩
    have e : cV (k : Int) = wn (KC.getD k 0) := by unfold cV; rw [if_pos h, Int.toNat_natCast]
    rw [e]
    exact RConstant_in k (by omega) w
  · have e : cV i = 0 := by unfold cV; rw [if_neg h]
    rw [e]
    exact RConstant_no i (by omega) w
set_option maxRecDepth 100000 in
set_option maxHeartbeats 400000 in
theorem RStart_any (w : World) :
    Calls Tryd.prog 17 #[] w fun e w' => e = .returned (.agg (stC HI (.slice none 0 0) 0)) ∧ Below w.heap.size w w' := by
  go_enter Tryd.func17, Tryd.ntmps17
  go_wp2
  go_loopw [2] (fun i wr => ∃ k : Nat, k ≤ 8 ∧ i = .int .i64 k ∧ Blk wr w.heap.size 29 (startC 0) ∧ Blk wr (w.heap.size + 1) 29 (startC k) ∧ Below w.heap.size w wr) (fun i _ => 8 - (intOf i).toNat)
  case atStart =>
    refine ⟨0, by omega, rfl, ?_, ?_, ?_⟩
    · rw [startC_zero]; exact (Blk.newAt _ _ _ rfl).alloc _
    · rw [startC_zero]; exact Blk.second w _ _ _
    · exact ba (ba (Below.refl _ _) _) _
  case round =>
    obtain ⟨k, hk, rfl, h0, h1, hb⟩ := hrel
    by_cases hlt : k < 8
    · obtain ⟨x, hx⟩ : ∃ x, HI.getD k 0 = x := ⟨_, rfl⟩
      have cI := RInitial_in k hlt wr
      rw [hx] at cI
      have kl : (k : Int) < 8 := by omega
      have k0 : 0 ≤ (k : Int) := by omega
      have J := Lib.hid (And.intro h0 (And.intro h1 (And.intro hb (And.intro cI hx)))); clear h0 h1 hb cI hx
      go_wp2_with fail
      refine J.out.2.2.2.1.mono ?_
      rintro e w2 ⟨rfl, hb2⟩
      obtain ⟨v, hv⟩ := startC_at k k hlt
      have D1 := J.out.2.1.calls hb2
      have c1 := blk_get D1 k _ hv
      have f1 := D1.frozen k
      have D := Lib.hid (And.intro (J.out.1.calls hb2) (And.intro D1 (bt J.out.2.2.1 hb2))); clear D1 hb2
      go_wp2
      go_roundw
      case rel =>
        refine ⟨k + 1, by omega, by go_num, D.out.1.far (by omega) _, ?_, D.out.2.2.setCell (by simp) _⟩
        rw [← startC_set k hlt, J.out.2.2.2.2]
        exact D.out.2.1.set_ k _
      case measure => simp [intOf]; omega
    · obtain rfl : k = 8 := by omega
      have kl : ¬ ((8 : Nat) : Int) < 8 := by omega
      rw [startC_full] at h1
      obtain ⟨S, hS⟩ : ∃ S, S = stC HI (.slice none 0 0) 0 := ⟨_, rfl⟩
      have sS : S.size = 10 := by rw [hS]; exact stC_size _ _ _ HI_length
      have aS : S.all (·.oneCell') = true := by rw [hS]; exact stC_one _ _ _ _ _
      have s0 : (startC 0).size = S.size := by rw [sS]; rfl
      rw [← hS] at h1
      have iS := isRS S sS
      have J := Lib.hid (And.intro h0 (And.intro h1 (And.intro hb hS))); clear h0 h1 hb hS
      go_wp2_with (first | with_reducible refine wl_st J.out.2.1 _ _ rfl rfl rfl _ Tryd.underlying29 iS ?_ | with_reducible refine ws_row J.out.1 _ _ _ _ rfl rfl rfl rfl iS s0 aS ?_)
      refine bodyPost_ret (v := .agg S) ?_ rfl ⟨by rw [J.out.2.2.2], setRow_below J.out.2.2.1 (Nat.le_refl _) _⟩
      exact results_cell_row rfl _ _ _ _ _ (0, 0) _ rfl (J.out.1.row _) Tryd.underlying29 rfl iS
set_option maxRecDepth 100000 in
set_option maxHeartbeats 1000000 in
theorem SStart_walk (w : World) (hL : Laid w) (i : Int) (hi : (Lit.int .i64 i).wf = true) :
    Calls Tryd.prog 3 #[.int .i64 i] w fun e w' => e = .returned (.bool true) ∧ Below w.heap.size w w' := by
  have HL := Lib.hid hL; clear hL hi
  go_enter Tryd.func3, Tryd.ntmps3
  go_wp2_with fail
  refine (Awake02 w HL.out).mono ?_
  rintro e w1 ⟨rfl, bb⟩
  have S0 : Value := .agg (stC HI (.slice none 0 0) 0)
  have B1 := Lib.hid bb; clear bb S0
  go_wp2_with fail
  refine (Start_any _ (HL.out.below B1.out (Nat.le_refl _))).mono ?_
  rintro e w2 ⟨rfl, bb⟩
  obtain ⟨S, hS⟩ : ∃ S, S = stC HI (.slice none 0 0) 0 := ⟨_, rfl⟩
  rw [← hS]
  have HS := Lib.hid hS; clear hS
  have B2 := Lib.hid (bt B1.out bb); clear bb B1
  go_wp2_with fail
  refine ((show Calls _ _ _ _ _ from HS.out ▸ Theirs_any HI HI_length none 0 0 0 w2) : Calls Tryd.prog 15 #[.agg S] w2 fun e w' => e = .returned (.agg S) ∧ Below w2.heap.size w2 w').mono ?_
  rintro e w3 ⟨rfl, bb⟩
  have B3 := Lib.hid (bt B2.out bb); clear bb B2
  go_wp2_with fail
  refine (RStart_any w3).mono ?_
  rintro e w4 ⟨rfl, bb⟩
  rw [← HS.out]
  have B4 := Lib.hid (bt B3.out bb); clear bb B3
  go_wp2_with fail
  refine ((show Calls _ _ _ _ _ from HS.out ▸ Same_true HI HI_length none none [] 0 0 0 w4 (.inl rfl) (.inl rfl)) : Calls Tryd.prog 14 #[.agg S, .agg S] w4 fun e w' => e = .returned (.bool true) ∧ Below w4.heap.size w4 w').mono ?_
  rintro e w5 ⟨rfl, bb⟩
  have B5 := Lib.hid (bt B4.out bb); clear bb B4
  go_wp2_with fail
  refine (Constant_all i w5 (HL.out.below B5.out (Nat.le_refl _))).mono ?_
  rintro e w6 ⟨rfl, bb⟩
  have B6 := Lib.hid (bt B5.out bb); clear bb B5
  go_wp2_with fail
  refine (RConstant_all i w6).mono ?_
  rintro e w7 ⟨rfl, bb⟩
  have B7 := Lib.hid (bt B6.out bb); clear bb B6
  generalize cV i = y1 at *
  go_wp2_with fail
  refine (Initial_all i w7 (HL.out.below B7.out (Nat.le_refl _))).mono ?_
  rintro e w8 ⟨rfl, bb⟩
  have B8 := Lib.hid (bt B7.out bb); clear bb B7
  go_wp2_with fail
  refine (RInitial_all i w8).mono ?_
  rintro e w9 ⟨rfl, bb⟩
  have B9 := Lib.hid (bt B8.out bb); clear bb B8
  go_wp2
  go_ret
  exact ⟨rfl, B9.out⟩
end Go.Proofs.YtfebknplkbeblaaDoor
