/- What hash's Zero, Number and FromNumber come to. -/
import Derived.Test.YtfebknplkbeblaaDoorHashA
namespace Go.Proofs.YtfebknplkbeblaaDoor
open Go.RowKit
set_option linter.unusedVariables false

theorem u8cells_at (l : List UInt8) (i : Nat) (h : i < l.length) : (u8cells l)[i]? = some (.int .u8 (l.getD i 0).toNat) := by
  simp [u8cells, h]
theorem u8cells_size (l : List UInt8) : (u8cells l).size = l.length := by simp [u8cells]
theorem u8cells_one (l : List UInt8) : (u8cells l).all (·.oneCell') = true := by simp [u8cells, Value.oneCell']
theorem u8cells_inj (l k : List UInt8) (h : l.length = k.length) : u8cells l = u8cells k ↔ l = k := by
  constructor
  · intro e
    apply List.ext_getElem h
    intro i h1 h2
    have e1 := u8cells_at l i h1
    rw [e, u8cells_at k i h2] at e1
    injection e1 with e2
    injection e2 with _ e3
    have e4 : k.getD i 0 = l.getD i 0 := UInt8.toNat_inj.1 (by omega)
    simpa [List.getD, h1, h2] using e4.symm
  · rintro rfl; rfl
/-- == on hashes. -/
theorem eqH (l k : List UInt8) (b : Bool) (hl : l.length = 32) (hk : k.length = 32) (hb : (decide (l = k)) = b) (w : World) :
    (Op.equalIn 10000 38 (.agg (u8cells l)) (.agg (u8cells k))).run Tryd.prog w = .ok b w := by
  obtain ⟨i, hi⟩ := Option.isSome_iff_exists.1 (show (Tryd.prog.info? 5).isSome = true by kernel_rfl)
  refine run_eqInts (P := Tryd.prog) w .u8 .u8 (by kernel_rfl) Tryd.underlying5 Tryd.underlying38 hi (by kernel_rfl) (fun i => ((l.getD i 0).toNat : Int)) (fun i => ((k.getD i 0).toNat : Int)) _ _ (fun i h => ⟨u8cells_at l i (by omega), u8cells_at k i (by omega)⟩) b ?_
  rw [← hb]
  rw [Bool.eq_iff_iff]
  simp only [List.all_eq_true, List.mem_range, beq_iff_eq, decide_eq_true_eq]
  constructor
  · intro h
    apply List.ext_getElem (by omega)
    intro i h1 h2
    have e := h i (by omega)
    have e4 : l.getD i 0 = k.getD i 0 := UInt8.toNat_inj.1 (by omega)
    simpa [List.getD, h1, h2] using e4
  · rintro rfl i _; rfl
theorem isH (l : List UInt8) (hl : l.length = 32) : (Tryd.prog.info? 38).map (·.size) = some (u8cells l).size := by rw [u8cells_size, hl]; kernel_rfl
theorem u8size {i : TypeInfo} (hi : Tryd.prog.info? 5 = some i) : i.size = 1 := by
  have h : (Tryd.prog.info? 5).map (·.size) = some 1 := by kernel_rfl
  rw [hi] at h
  simpa using h
theorem index_H (l : List UInt8) (k : Nat) (hl : l.length = 32) (hk : k < 32) (w : World) :
    (Instr.index 38 (.agg (u8cells l)) (.int .i64 k)).run Tryd.prog w = .ok (.int .u8 (l.getD k 0).toNat) w := by
  obtain ⟨i, hi⟩ := Option.isSome_iff_exists.1 (show (Tryd.prog.info? 5).isSome = true by kernel_rfl)
  exact index_arr (by kernel_rfl) Tryd.underlying38 hi (u8size hi) hk (u8cells_at l k (by omega)) w
theorem index_B (l : List UInt8) (k : Nat) (hl : l.length = 32) (hk : k < 32) (w : World) :
    (Instr.index 37 (.agg (u8cells l)) (.int .i64 k)).run Tryd.prog w = .ok (.int .u8 (l.getD k 0).toNat) w := by
  obtain ⟨i, hi⟩ := Option.isSome_iff_exists.1 (show (Tryd.prog.info? 5).isSome = true by kernel_rfl)
  exact index_arr (by kernel_rfl) Tryd.underlying37 hi (u8size hi) hk (u8cells_at l k (by omega)) w
abbrev zeroH : List UInt8 := List.replicate 32 0

theorem zeroH_cells : u8cells zeroH = #[.int .u8 0, .int .u8 0, .int .u8 0, .int .u8 0, .int .u8 0, .int .u8 0, .int .u8 0, .int .u8 0, .int .u8 0, .int .u8 0, .int .u8 0, .int .u8 0, .int .u8 0, .int .u8 0, .int .u8 0, .int .u8 0, .int .u8 0, .int .u8 0, .int .u8 0, .int .u8 0, .int .u8 0, .int .u8 0, .int .u8 0, .int .u8 0, .int .u8 0, .int .u8 0, .int .u8 0, .int .u8 0, .int .u8 0, .int .u8 0, .int .u8 0, .int .u8 0] := by kernel_rfl
theorem ucells_set (a b j : Nat) (h : j < 4) (ho : ∀ i, i < 4 → i ≠ j → lim b i = lim a i) : (ucells a).setIfInBounds j (.int .u64 (lim b j)) = ucells b := by
  have h0 := ho 0
  have h1 := ho 1
  have h2 := ho 2
  have h3 := ho 3
  rcases (show j = 0 ∨ j = 1 ∨ j = 2 ∨ j = 3 from by omega) with rfl | rfl | rfl | rfl <;> simp_all [ucells]
theorem ucells_zero : ucells 0 = #[.int .u64 0, .int .u64 0, .int .u64 0, .int .u64 0] := by simp [ucells, lim]

set_option maxRecDepth 100000 in
set_option maxHeartbeats 400000 in
theorem Zero_any (l : List UInt8) (hl : l.length = 32) (b : Bool) (hb : decide (l = zeroH) = b) (w : World) :
    Calls Tryd.prog 52 #[.agg (u8cells l)] w fun e w' => e = .returned (.bool b) ∧ Below w.heap.size w w' := by
  have q : ∀ w, (Op.equalIn 10000 38 (.agg (u8cells l)) (.agg (u8cells zeroH))).run Tryd.prog w = .ok b w := eqH l zeroH b hl rfl hb
  simp only [zeroH_cells] at q
  have i1 := isH l hl
  go_enter Tryd.func52, Tryd.ntmps52
  go_wp2_with (with_reducible refine wl_row (Blk.new _ _ _) _ _ rfl rfl rfl _ _ Tryd.underlying38 i1 ?_)
  go_ret
  exact ⟨rfl, (Below.refl _ _).alloc (Nat.le_refl _) _⟩

theorem or_shift (a x s : Nat) (ha : a < 2 ^ s) (hx : x < 256) (hs : s ≤ 56) : bits .or .u64 (a : Int) (IntKind.u64.wrap (IntKind.u64.wrap (x : Int) * 2 ^ s)) = ((a + x * 2 ^ s : Nat) : Int) := by
  have h56 : (2 : Nat) ^ s ≤ 2 ^ 56 := Nat.pow_le_pow_right (by decide) hs
  have hx2 : x * 2 ^ s ≤ 255 * 2 ^ 56 := Nat.mul_le_mul (by omega) h56
  have w1 : IntKind.u64.wrap (x : Int) = (x : Int) := by simp [IntKind.wrap, IntKind.signed, IntKind.bits]; omega
  have w2 : IntKind.u64.wrap ((x : Int) * 2 ^ s) = ((x * 2 ^ s : Nat) : Int) := by
    have e : (x : Int) * 2 ^ s = ((x * 2 ^ s : Nat) : Int) := by push_cast; rfl
    rw [e]
    generalize x * 2 ^ s = y at *
    simp [IntKind.wrap, IntKind.signed, IntKind.bits]; omega
  rw [w1, w2]
  have e2 := u64_or_nat a (x * 2 ^ s) (by omega) (by omega)
  rw [e2]
  congr 1
  rw [Nat.or_comm, ← Nat.shiftLeft_eq, ← Nat.shiftLeft_add_eq_or_of_lt ha]
  omega
set_option maxRecDepth 100000 in
set_option maxHeartbeats 400000 in
theorem Number_any (l : List UInt8) (hl : l.length = 32) (w : World) :
    Calls Tryd.prog 44 #[.agg (u8cells l)] w fun e w' => e = .returned (uval (leN l 32)) ∧ Below w.heap.size w w' := by
  have i1 := isH l hl
  go_enter Tryd.func44, Tryd.ntmps44
  go_wp2_with (with_reducible refine wl_row (((Blk.new _ _ _).alloc _).alloc _) _ _ rfl rfl rfl _ _ Tryd.underlying38 i1 ?_)
  go_loopw [7] (fun i wr => ∃ k : Nat, k ≤ 32 ∧ i = .int .i64 k ∧ Blk wr (w.heap.size + 1) 62 (ucells 0) ∧ Blk wr (w.heap.size + 1 + 1) 62 (ucells (leN l k)) ∧ Below w.heap.size w wr) (fun i _ => 32 - (intOf i).toNat)
  case atStart =>
    refine ⟨0, by omega, rfl, ?_, ?_, ?_⟩
    · rw [ucells_zero]; exact (Blk.newAt _ _ _ (by simp)).alloc _
    · rw [leN_0, ucells_zero]; exact Blk.newAt _ _ _ (by simp)
    · exact (((Below.refl _ _).alloc (Nat.le_refl _) _).alloc (by simp) _).alloc (by simp; omega) _
  case round =>
    obtain ⟨k, hk, rfl, h1, h2, hb⟩ := hrel
    by_cases hlt : k < 32
    · obtain ⟨x, hx⟩ : ∃ x, x = (l.getD k 0).toNat := ⟨_, rfl⟩
      have x1 := index_H l k hl hlt
      rw [← hx] at x1
      obtain ⟨e1, e2⟩ := lim_leN_at l k hlt
      obtain ⟨j, hj⟩ : ∃ j, j = k / 8 := ⟨_, rfl⟩
      obtain ⟨s, hs⟩ : ∃ s, s = 8 * (k % 8) := ⟨_, rfl⟩
      have hj' : (k : Int) / 8 = (j : Int) := by omega
      have hj'' : Int.tdiv (k : Int) 8 = (j : Int) := by rw [Int.tdiv_eq_ediv_of_nonneg (by omega)]; omega
      have hs' : 8 * ((k : Int) % 8) = (s : Int) := by omega
      have hs'' : 8 * (Int.tmod (k : Int) 8) = (s : Int) := by rw [Int.tmod_eq_emod_of_nonneg (by omega)]; omega
      have hj4 : j < 4 := by omega
      have hs6 : s < 64 := by omega
      rw [← hj, ← hs, ← hx] at e1
      rw [← hj, ← hs] at e2
      have H := Lib.hid (And.intro h1 (And.intro h2 hb))
      have c2 := blk_get h2 j _ (ucells_at (leN l k) j (by omega))
      have f2 := h2.frozen j
      have HJ := Lib.hid (And.intro hj (And.intro hs (And.intro hx (And.intro e1 e2)))); clear hj hs hx e1 e2
      clear h1 h2 hb
      go_wp2
      go_region
      go_wp2
      obtain ⟨h1, h2, hb⟩ := H.out
      obtain ⟨hj, hs, hx, e1, e2⟩ := HJ.out
      have hx8 : x < 256 := by rw [hx]; exact (l.getD k 0).toNat_lt
      have ev := or_shift (lim (leN l k) j) x s e2 hx8 (by omega)
      have hset : ∀ i, i < 4 → i ≠ j → lim (leN l (k + 1)) i = lim (leN l k) i := fun i _ hi => lim_leN_other l k i (by omega) hlt
      go_roundw
      case rel =>
        rw [ev, ← e1]
        exact ⟨k + 1, by omega, by go_num, (h1.far (by omega) _).drew, ((h2.set_ j _).to (ucells_set _ _ j hj4 hset)).drew, (hb.setCell (by simp; omega) _).drew⟩
      case measure => simp [intOf]; omega
    · obtain rfl : k = 32 := by omega
      have HO := Lib.hid hb
      have HK := Lib.hid h1
      have HZ := Lib.hid h2
      have q3 := h1.cell
      have f3 := h1.frozen
      have q4 := h2.cell
      simp only [ucells] at q3 q4
      clear h1 h2 hb
      go_wp2
      refine bodyPost_ret (v := uval (leN l 32)) ?_ rfl ⟨rfl, ?_⟩
      · simp [results, Tryd.results44, go_sem, uval, q3, q4, f3]
      · exact (((HO.out.setCell (by simp) _).setCell (by simp) _).setCell (by simp) _).setCell (by simp) _

set_option maxRecDepth 100000 in
set_option maxHeartbeats 400000 in
theorem FromNumber_any (m : Nat) (hm : m < T) (w : World) :
    Calls Tryd.prog 47 #[uval m] w fun e w' => e = .returned (.agg (u8cells (leB m))) ∧ Below w.heap.size w w' := by
  unfold uval
  go_enter Tryd.func47, Tryd.ntmps47
  go_wp2_with (go_at_call 70; refine (Bytes_any m _ hm).mono ?_; rintro e w1 ⟨rfl, hb1⟩)
  have hw : Below w.heap.size w _ := (((Below.refl w.heap.size w).alloc (Nat.le_refl _) (.cells (ucells m) 62)).alloc (by simp) (.cells (u8cells zeroH) 38)).alloc (by simp; omega) (.cells (u8cells zeroH) 38)
  have g0 : Blk _ (w.heap.size + 1) 38 (u8cells zeroH) := (Blk.newAt (w.alloc (.cells (ucells m) 62)) 38 (u8cells zeroH) (by simp)).alloc (.cells (u8cells zeroH) 38)
  have g1 : Blk _ (w.heap.size + 1 + 1) 38 (u8cells zeroH) := Blk.newAt ((w.alloc (.cells (ucells m) 62)).alloc (.cells (u8cells zeroH) 38)) 38 (u8cells zeroH) (by simp)
  simp only [zeroH_cells, ucells] at hw g0 g1
  have k0 := g0.calls hb1
  have k1 := g1.calls hb1
  have kb := hw.trans (hb1.mono (by simp; omega))
  clear hb1 hw g0 g1
  rw [← zeroH_cells] at k0 k1
  have hbl := byB_length m 32
  have hll := leB_length m
  have k1' : Blk w1 (w.heap.size + 1 + 1) 38 (lastB (leB m) 0) := k1.to (by rw [lastB_zero, hll]; kernel_rfl)
  clear k1
  generalize hl : leB m = l at *
  generalize hbb : byB m 32 = lb at *
  have HL := Lib.hid (And.intro hl (And.intro hbb (And.intro hll hbl))); clear hl hbb hll hbl
  go_loopw [8] (fun i wr => ∃ k : Nat, k ≤ 32 ∧ i = .int .i64 k ∧ Blk wr (w.heap.size + 1) 38 (u8cells zeroH) ∧ Blk wr (w.heap.size + 1 + 1) 38 (lastB l k) ∧ Below w.heap.size w wr) (fun i _ => 32 - (intOf i).toNat)
  case atStart => exact ⟨0, by omega, rfl, k0, k1', kb⟩
  case round =>
    clear k0 k1' kb
    obtain ⟨k, hk, rfl, h0, h2, hb⟩ := hrel
    by_cases hlt : k < 32
    · obtain ⟨p, hp⟩ : ∃ p, p = 31 - k := ⟨_, rfl⟩
      have hp' : (31 : Int) - (k : Int) = (p : Int) := by omega
      have hp4 : p < 32 := by omega
      obtain ⟨x, hx⟩ : ∃ x, x = (lb.getD k 0).toNat := ⟨_, rfl⟩
      have x1 := index_B lb k HL.out.2.2.2 hlt
      rw [← hx] at x1
      have f2 := h2.frozen p
      obtain ⟨v2, hv2⟩ := lastB_at l k p (by have := HL.out.2.2.1; omega)
      have c2 := blk_get h2 p _ hv2
      have H := Lib.hid (And.intro h0 (And.intro h2 (And.intro hb (And.intro hp hx)))); clear h0 h2 hb hp hv2 hx
      go_wp2
      obtain ⟨h0, h2, hb, hp, hx⟩ := H.out
      have hl := HL.out
      go_roundw
      case rel =>
        refine ⟨k + 1, by omega, by go_num, h0.far (by omega) _, (h2.set_ p _).to ?_, hb.setCell (by simp; omega) _⟩
        have e : (x : Int) = ((l.getD p 0).toNat : Int) := by
          rw [hx, ← hl.1, ← hl.2.1, byB_at m 32 k hlt, hp]
          have e3 : (leB m).getD (31 - k) 0 = UInt8.ofNat (m / 256 ^ (31 - k) % 256) := by
            have : 31 - k < 32 := by omega
            simp [leB, this]
          rw [e3]
        rw [e]
        exact lastB_set l k p (by omega)
      case measure => simp [intOf]; omega
    · obtain rfl : k = 32 := by omega
      have hl := HL.out
      rw [lastB_full l 32 hl.2.2.1] at h2
      have s0 : (u8cells zeroH).size = (u8cells l).size := by rw [u8cells_size, u8cells_size, hl.2.2.1]; rfl
      have a2 := u8cells_one l
      have i2 := isH l hl.2.2.1
      have H := Lib.hid (And.intro hb (And.intro h2 h0)); clear h0 h2 hb hl
      go_wp2_with (first | with_reducible refine wl_row H.out.2.1 _ _ rfl rfl rfl _ _ Tryd.underlying38 i2 ?_ | with_reducible refine ws_row H.out.2.2 _ _ _ _ rfl rfl rfl rfl i2 s0 a2 ?_)
      obtain ⟨hb, h2, h0⟩ := H.out
      refine bodyPost_ret (v := .agg (u8cells l)) ?_ rfl ⟨by rw [HL.out.1], below_setRow hb (by omega) _⟩
      exact results_cell_row rfl _ _ _ _ _ _ _ rfl (h0.row _) Tryd.underlying38 rfl i2
end Go.Proofs.YtfebknplkbeblaaDoor
