/- What hash's Zero, Number and FromNumber come to. A string is ranged over while the world turns; hexadecimal digits. A hash as a text, and that text read again. A text of 64 digits is read as a hash. -/
import Derived.Test.YtfebknplkbeblaaDoorHiE
import Derived.Test.YtfebknplkbeblaaDoorHiA
import Derived.Laws.RangeString
import Derived.Laws.RangeAny
import Derived.Test.YtfebknplkbeblaaDoorProg
import Derived.StillTailTactics
namespace Go.Proofs.YtfebknplkbeblaaDoor
open Go.RowKit
set_option linter.unusedVariables false

theorem u8cells_at (l : List UInt8) (i : Nat) (h : i < l.length) : (u8cells l)[i]? = some (.int .u8 (l.getD i 0).toNat) := by
  simp [u8cells, h]
theorem u8cells_size (l : List UInt8) : (u8cells l).size = l.length := by simp [u8cells]
theorem u8cells_one (l : List UInt8) : (u8cells l).all (·.oneCell') = true := by simp [u8cells, Value.oneCell']
theorem u8cells_inj (l k : List UInt8) (h : l.length = k.length) : u8cells l = u8cells k ↔ l = k := by
  constructor
  · intro e
    apply List.ext_getElem h
    intro i h1 h2
    have e1 := u8cells_at l i h1
    rw [e, u8cells_at k i h2] at e1
    injection e1 with e2
    injection e2 with _ e3
    have e4 : k.getD i 0 = l.getD i 0 := UInt8.toNat_inj.1 (by omega)
    simpa [List.getD, h1, h2] using e4.symm
  · rintro rfl; rfl
/-- == on hashes. -/
theorem eqH (l k : List UInt8) (b : Bool) (hl : l.length = 32) (hk : k.length = 32) (hb : (decide (l = k)) = b) (w : World) :
    (Op.equalIn 10000 38 (.agg (u8cells l)) (.agg (u8cells k))).run Tryd.prog w = .ok b w := by
  obtain ⟨i, hi⟩ := Option.isSome_iff_exists.1 (show (Tryd.prog.info? 5).isSome = true by kernel_rfl)
  refine run_eqInts (P := Tryd.prog) w .u8 .u8 (by kernel_rfl) Tryd.underlying5 Tryd.underlying38 hi (by kernel_rfl) (fun i => ((l.getD i 0).toNat : Int)) (fun i => ((k.getD i 0).toNat : Int)) _ _ (fun i h => ⟨u8cells_at l i (by omega), u8cells_at k i (by omega)⟩) b ?_
  rw [← hb]
  rw [Bool.eq_iff_iff]
  simp only [List.all_eq_true, List.mem_range, beq_iff_eq, decide_eq_true_eq]
  constructor
  · intro h
    apply List.ext_getElem (by omega)
    intro i h1 h2
    have e := h i (by omega)
    have e4 : l.getD i 0 = k.getD i 0 := UInt8.toNat_inj.1 (by omega)
    simpa [List.getD, h1, h2] using e4
  · rintro rfl i _; rfl
theorem isH (l : List UInt8) (hl : l.length = 32) : (Tryd.prog.info? 38).map (·.size) = some (u8cells l).size := by rw [u8cells_size, hl]; kernel_rfl
theorem u8size {i : TypeInfo} (hi : Tryd.prog.info? 5 = some i) : i.size = 1 := by
  have h : (Tryd.prog.info? 5).map (·.size) = some 1 := by kernel_rfl
  rw [hi] at h
  simpa using h
theorem index_H (l : List UInt8) (k : Nat) (hl : l.length = 32) (hk : k < 32) (w : World) :
    (Instr.index 38 (.agg (u8cells l)) (.int .i64 k)).run Tryd.prog w = .ok (.int .u8 (l.getD k 0).toNat) w := by
  obtain ⟨i, hi⟩ := Option.isSome_iff_exists.1 (show (Tryd.prog.info? 5).isSome = true by kernel_rfl)
  exact index_arr (by kernel_rfl) Tryd.underlying38 hi (u8size hi) hk (u8cells_at l k (by omega)) w
theorem index_B (l : List UInt8) (k : Nat) (hl : l.length = 32) (hk : k < 32) (w : World) :
    (Instr.index 37 (.agg (u8cells l)) (.int .i64 k)).run Tryd.prog w = .ok (.int .u8 (l.getD k 0).toNat) w := by
  obtain ⟨i, hi⟩ := Option.isSome_iff_exists.1 (show (Tryd.prog.info? 5).isSome = true by kernel_rfl)
  exact index_arr (by kernel_rfl) Tryd.underlying37 hi (u8size hi) hk (u8cells_at l k (by omega)) w
abbrev zeroH : List UInt8 := List.replicate 32 0

theorem zeroH_cells : u8cells zeroH = #[.int .u8 0, .int .u8 0, .int .u8 0, .int .u8 0, .int .u8 0, .int .u8 0, .int .u8 0, .int .u8 0, .int .u8 0, .int .u8 0, .int .u8 0, .int .u8 0, .int .u8 0, .int .u8 0, .int .u8 0, .int .u8 0, .int .u8 0, .int .u8 0, .int .u8 0, .int .u8 0, .int .u8 0, .int .u8 0, .int .u8 0, .int .u8 0, .int .u8 0, .int .u8 0, .int .u8 0, .int .u8 0, .int .u8 0, .int .u8 0, .int .u8 0, .int .u8 0] := by kernel_rfl
theorem ucells_set (a b j : Nat) (h : j < 4) (ho : ∀ i, i < 4 → i ≠ j → lim b i = lim a i) : (ucells a).setIfInBounds j (.int .u64 (lim b j)) = ucells b := by
  have h0 := ho 0
  have h1 := ho 1
  have h2 := ho 2
  have h3 := ho 3
  rcases (show j = 0 ∨ j = 1 ∨ j = 2 ∨ j = 3 from by omega) with rfl | rfl | rfl | rfl <;> simp_all [ucells]
theorem ucells_zero : ucells 0 = #[.int .u64 0, .int .u64 0, .int .u64 0, .int .u64 0] := by simp [ucells, lim]

set_option maxRecDepth 100000 in
set_option maxHeartbeats 400000 in
theorem Zero_any (l : List UInt8) (hl : l.length = 32) (b : Bool) (hb : decide (l = zeroH) = b) (w : World) :
    Calls Tryd.prog 52 #[.agg (u8cells l)] w fun e w' => e = .returned (.bool b) ∧ Below w.heap.size w w' := by
  have q : ∀ w, (Op.equalIn 10000 38 (.agg (u8cells l)) (.agg (u8cells zeroH))).run Tryd.prog w = .ok b w := eqH l zeroH b hl rfl hb
  simp only [zeroH_cells] at q
  have i1 := isH l hl
  go_enter Tryd.func52, Tryd.ntmps52
  go_wp2_with (with_reducible refine wl_row (Blk.new _ _ _) _ _ rfl rfl rfl _ _ Tryd.underlying38 i1 ?_)
  go_ret
  exact ⟨rfl, (Below.refl _ _).alloc (Nat.le_refl _) _⟩

theorem or_shift (a x s : Nat) (ha : a < 2 ^ s) (hx : x < 256) (hs : s ≤ 56) : bits .or .u64 (a : Int) (IntKind.u64.wrap (IntKind.u64.wrap (x : Int) * 2 ^ s)) = ((a + x * 2 ^ s : Nat) : Int) := by
  have h56 : (2 : Nat) ^ s ≤ 2 ^ 56 := Nat.pow_le_pow_right (by decide) hs
  have hx2 : x * 2 ^ s ≤ 255 * 2 ^ 56 := Nat.mul_le_mul (by omega) h56
  have w1 : IntKind.u64.wrap (x : Int) = (x : Int) := by simp [IntKind.wrap, IntKind.signed, IntKind.bits]; omega
  have w2 : IntKind.u64.wrap ((x : Int) * 2 ^ s) = ((x * 2 ^ s : Nat) : Int) := by
    have e : (x : Int) * 2 ^ s = ((x * 2 ^ s : Nat) : Int) := by push_cast; rfl
    rw [e]
    generalize x * 2 ^ s = y at *
    simp [IntKind.wrap, IntKind.signed, IntKind.bits]; omega
  rw [w1, w2]
  have e2 := u64_or_nat a (x * 2 ^ s) (by omega) (by omega)
  rw [e2]
  congr 1
  rw [Nat.or_comm, ← Nat.shiftLeft_eq, ← Nat.shiftLeft_add_eq_or_of_lt ha]
  omega
set_option maxRecDepth 100000 in
set_option maxHeartbeats 400000 in
theorem Number_any (l : List UInt8) (hl : l.length = 32) (w : World) :
    Calls Tryd.prog 44 #[.agg (u8cells l)] w fun e w' => e = .returned (uval (leN l 32)) ∧ Below w.heap.size w w' := by
  have i1 := isH l hl
  go_enter Tryd.func44, Tryd.ntmps44
  go_wp2_with (with_reducible refine wl_row (((Blk.new _ _ _).alloc _).alloc _) _ _ rfl rfl rfl _ _ Tryd.underlying38 i1 ?_)
  go_loopw [7] (fun i wr => ∃ k : Nat, k ≤ 32 ∧ i = .int .i64 k ∧ Blk wr (w.heap.size + 1) 62 (ucells 0) ∧ Blk wr (w.heap.size + 1 + 1) 62 (ucells (leN l k)) ∧ Below w.heap.size w wr) (fun i _ => 32 - (intOf i).toNat)
  case atStart =>
    refine ⟨0, by omega, rfl, ?_, ?_, ?_⟩
    · rw [ucells_zero]; exact (Blk.newAt _ _ _ (by simp)).alloc _
    · rw [leN_0, ucells_zero]; exact Blk.newAt _ _ _ (by simp)
    · exact (((Below.refl _ _).alloc (Nat.le_refl _) _).alloc (by simp) _).alloc (by simp; omega) _
  case round =>
    obtain ⟨k, hk, rfl, h1, h2, hb⟩ := hrel
    by_cases hlt : k < 32
    · obtain ⟨x, hx⟩ : ∃ x, x = (l.getD k 0).toNat := ⟨_, rfl⟩
      have x1 := index_H l k hl hlt
      rw [← hx] at x1
      obtain ⟨e1, e2⟩ := lim_leN_at l k hlt
      obtain ⟨j, hj⟩ : ∃ j, j = k / 8 := ⟨_, rfl⟩
      obtain ⟨s, hs⟩ : ∃ s, s = 8 * (k % 8) := ⟨_, rfl⟩
      have hj' : (k : Int) / 8 = (j : Int) := by omega
      have hj'' : Int.tdiv (k : Int) 8 = (j : Int) := by rw [Int.tdiv_eq_ediv_of_nonneg (by omega)]; omega
      have hs' : 8 * ((k : Int) % 8) = (s : Int) := by omega
      have hs'' : 8 * (Int.tmod (k : Int) 8) = (s : Int) := by rw [Int.tmod_eq_emod_of_nonneg (by omega)]; omega
      have hj4 : j < 4 := by omega
      have hs6 : s < 64 := by omega
      rw [← hj, ← hs, ← hx] at e1
      rw [← hj, ← hs] at e2
      have H := Lib.hid (And.intro h1 (And.intro h2 hb))
      have c2 := blk_get h2 j _ (ucells_at (leN l k) j (by omega))
      have f2 := h2.frozen j
      have HJ := Lib.hid (And.intro hj (And.intro hs (And.intro hx (And.intro e1 e2)))); clear hj hs hx e1 e2
      clear h1 h2 hb
      go_wp2
      go_region
      go_wp2
      obtain ⟨h1, h2, hb⟩ := H.out
      obtain ⟨hj, hs, hx, e1, e2⟩ := HJ.out
      have hx8 : x < 256 := by rw [hx]; exact (l.getD k 0).toNat_lt
      have ev := or_shift (lim (leN l k) j) x s e2 hx8 (by omega)
      have hset : ∀ i, i < 4 → i ≠ j → lim (leN l (k + 1)) i = lim (leN l k) i := fun i _ hi => lim_leN_other l k i (by omega) hlt
      go_roundw
      case rel =>
        rw [ev, ← e1]
        exact ⟨k + 1, by omega, by go_num, (h1.far (by omega) _).drew, ((h2.set_ j _).to (ucells_set _ _ j hj4 hset)).drew, (hb.setCell (by simp; omega) _).drew⟩
      case measure => simp [intOf]; omega
    · obtain rfl : k = 32 := by omega
      have HO := Lib.hid hb
      have HK := Lib.hid h1
      have HZ := Lib.hid h2
      have q3 := h1.cell
      have f3 := h1.frozen
      have q4 := h2.cell
      simp only [ucells] at q3 q4
      clear h1 h2 hb
      go_wp2
      refine bodyPost_ret (v := uval (leN l 32)) ?_ rfl ⟨rfl, ?_⟩
      · simp [results, Tryd.results44, go_sem, uval, q3, q4, f3]
      · exact (((HO.out.setCell (by simp) _).setCell (by simp) _).setCell (by simp) _).setCell (by simp) _

set_option maxRecDepth 100000 in
set_option maxHeartbeats 400000 in
theorem FromNumber_any (m : Nat) (hm : m < T) (w : World) :
    Calls Tryd.prog 47 #[uval m] w fun e w' => e = .returned (.agg (u8cells (leB m))) ∧ Below w.heap.size w w' := by
  unfold uval
  go_enter Tryd.func47, Tryd.ntmps47
  go_wp2_with (go_at_call 70; refine (Bytes_any m _ hm).mono ?_; rintro e w1 ⟨rfl, hb1⟩)
  have hw : Below w.heap.size w _ := (((Below.refl w.heap.size w).alloc (Nat.le_refl _) (.cells (ucells m) 62)).alloc (by simp) (.cells (u8cells zeroH) 38)).alloc (by simp; omega) (.cells (u8cells zeroH) 38)
  have g0 : Blk _ (w.heap.size + 1) 38 (u8cells zeroH) := (Blk.newAt (w.alloc (.cells (ucells m) 62)) 38 (u8cells zeroH) (by simp)).alloc (.cells (u8cells zeroH) 38)
  have g1 : Blk _ (w.heap.size + 1 + 1) 38 (u8cells zeroH) := Blk.newAt ((w.alloc (.cells (ucells m) 62)).alloc (.cells (u8cells zeroH) 38)) 38 (u8cells zeroH) (by simp)
  simp only [zeroH_cells, ucells] at hw g0 g1
  have k0 := g0.calls hb1
  have k1 := g1.calls hb1
  have kb := hw.trans (hb1.mono (by simp; omega))
  clear hb1 hw g0 g1
  rw [← zeroH_cells] at k0 k1
  have hbl := byB_length m 32
  have hll := leB_length m
  have k1' : Blk w1 (w.heap.size + 1 + 1) 38 (lastB (leB m) 0) := k1.to (by rw [lastB_zero, hll]; kernel_rfl)
  clear k1
  generalize hl : leB m = l at *
  generalize hbb : byB m 32 = lb at *
  have HL := Lib.hid (And.intro hl (And.intro hbb (And.intro hll hbl))); clear hl hbb hll hbl
  go_loopw [8] (fun i wr => ∃ k : Nat, k ≤ 32 ∧ i = .int .i64 k ∧ Blk wr (w.heap.size + 1) 38 (u8cells zeroH) ∧ Blk wr (w.heap.size + 1 + 1) 38 (lastB l k) ∧ Below w.heap.size w wr) (fun i _ => 32 - (intOf i).toNat)
  case atStart => exact ⟨0, by omega, rfl, k0, k1', kb⟩
  case round =>
    clear k0 k1' kb
    obtain ⟨k, hk, rfl, h0, h2, hb⟩ := hrel
    by_cases hlt : k < 32
    · obtain ⟨p, hp⟩ : ∃ p, p = 31 - k := ⟨_, rfl⟩
      have hp' : (31 : Int) - (k : Int) = (p : Int) := by omega
      have hp4 : p < 32 := by omega
      obtain ⟨x, hx⟩ : ∃ x, x = (lb.getD k 0).toNat := ⟨_, rfl⟩
      have x1 := index_B lb k HL.out.2.2.2 hlt
      rw [← hx] at x1
      have f2 := h2.frozen p
      obtain ⟨v2, hv2⟩ := lastB_at l k p (by have := HL.out.2.2.1; omega)
      have c2 := blk_get h2 p _ hv2
      have H := Lib.hid (And.intro h0 (And.intro h2 (And.intro hb (And.intro hp hx)))); clear h0 h2 hb hp hv2 hx
      go_wp2
      obtain ⟨h0, h2, hb, hp, hx⟩ := H.out
      have hl := HL.out
      go_roundw
      case rel =>
        refine ⟨k + 1, by omega, by go_num, h0.far (by omega) _, (h2.set_ p _).to ?_, hb.setCell (by simp; omega) _⟩
        have e : (x : Int) = ((l.getD p 0).toNat : Int) := by
          rw [hx, ← hl.1, ← hl.2.1, byB_at m 32 k hlt, hp]
          have e3 : (leB m).getD (31 - k) 0 = UInt8.ofNat (m / 256 ^ (31 - k) % 256) := by
            have : 31 - k < 32 := by omega
            simp [leB, this]
          rw [e3]
        rw [e]
        exact lastB_set l k p (by omega)
      case measure => simp [intOf]; omega
    · obtain rfl : k = 32 := by omega
      have hl := HL.out
      rw [lastB_full l 32 hl.2.2.1] at h2
      have s0 : (u8cells zeroH).size = (u8cells l).size := by rw [u8cells_size, u8cells_size, hl.2.2.1]; rfl
      have a2 := u8cells_one l
      have i2 := isH l hl.2.2.1
      have H := Lib.hid (And.intro hb (And.intro h2 h0)); clear h0 h2 hb hl
      go_wp2_with (first | with_reducible refine wl_row H.out.2.1 _ _ rfl rfl rfl _ _ Tryd.underlying38 i2 ?_ | with_reducible refine ws_row H.out.2.2 _ _ _ _ rfl rfl rfl rfl i2 s0 a2 ?_)
      obtain ⟨hb, h2, h0⟩ := H.out
      refine bodyPost_ret (v := .agg (u8cells l)) ?_ rfl ⟨by rw [HL.out.1], below_setRow hb (by omega) _⟩
      exact results_cell_row rfl _ _ _ _ _ _ _ rfl (h0.row _) Tryd.underlying38 rfl i2
end Go.Proofs.YtfebknplkbeblaaDoor

namespace Go.Proofs.YtfebknplkbeblaaDoor
open Go.RowKit
set_option linter.unusedVariables false

/-- Block g is an iterator over s that stands at p. -/
def It (w : World) (g : Nat) (s : ByteArray) (p : Nat) : Prop := w.heap[g]? = some (.stringIter s p)
def setIt (w : World) (g : Nat) (s : ByteArray) (p : Nat) : World := { w with heap := w.heap.setIfInBounds g (.stringIter s p) }
section
variable {P : Program} {w w' : World} {g : Nat} {s : ByteArray} {p : Nat} {t : TypeId} {cs : Array Value}
theorem It.lt (h : It w g s p) : g < w.heap.size := by
  rcases Nat.lt_or_ge g w.heap.size with hlt | hge
  · exact hlt
  · unfold It at h; rw [Array.getElem?_eq_none hge] at h; cases h
theorem It.calls (h : It w g s p) (hb : Below w.heap.size w w') : It w' g s p := (hb.block g h.lt).trans h
theorem It.below {B : Nat} (h : It w g s p) (hb : Below B w w') (hg : g < B) : It w' g s p := (hb.block g hg).trans h
theorem It.alloc (h : It w g s p) (o : Obj) : It (w.alloc o) g s p := (Below.heap_alloc w o g h.lt).trans h
theorem It.far (h : It w g s p) {b i : Nat} (hp : g ≠ b) (u : Value) : It (w.setCell ⟨b, i, none⟩ u) g s p := (Below.heap_setCell w ⟨b, i, none⟩ u g hp).trans h
theorem It.drewN (h : It w g s p) (n : Nat) : It (w.drewN n) g s p := h
theorem It.set (h : It w g s p) (q : Nat) : It (setIt w g s q) g s q := by
  have := h.lt
  unfold It setIt
  simp [this]
theorem It.new (w : World) (s : ByteArray) (p : Nat) : It (w.iter s p) w.heap.size s p := World.iter_heap w s p
theorem It.newAt (w : World) (s : ByteArray) (p : Nat) {n : Nat} (h : n = w.heap.size) : It (w.iter s p) n s p := h ▸ It.new w s p
theorem setIt_size : (setIt w g s p).heap.size = w.heap.size := by simp [setIt]
theorem Blk.setIt (h : Blk w g t cs) {b : Nat} (hne : g ≠ b) : Blk (setIt w b s p) g t cs := by
  unfold Blk at h ⊢
  simp [Go.Proofs.YtfebknplkbeblaaDoor.setIt, Array.getElem?_setIfInBounds, Ne.symm hne, h]
theorem below_setIt {B : Nat} {w0 : World} (h : Below B w0 w) (hb : B ≤ g) : Below B w0 (setIt w g s p) :=
  h.trans ⟨rfl, rfl, rfl, by simp [setIt], fun k hk => by simp [setIt, Array.getElem?_setIfInBounds, show g ≠ k by omega]⟩
theorem next_at (h : It w g s p) (ty : TypeId) (hp : p < s.size) :
    (Instr.next (.pointer (some ⟨g, 0, none⟩)) true ty).run P w = .ok (.tuple #[.bool true, .int .i64 p, .int .i32 (Utf8.decode s p).1]) (setIt w g s (p + (Utf8.decode s p).2)) := by
  unfold It at h
  simp only [Instr.next, getObj, setObj, Sem.run_bind, Sem.run, h, Result.andThen, hp, if_true]
  simp [goInt, setIt]
theorem next_one (h : It w g s p) (ty : TypeId) (hp : p < s.size) (ha : (s[p]'hp).toNat < 128) :
    (Instr.next (.pointer (some ⟨g, 0, none⟩)) true ty).run P w = .ok (.tuple #[.bool true, .int .i64 p, .int .i32 (s[p]'hp).toNat]) (setIt w g s (p + 1)) := by
  rw [next_at h ty hp, decode_ascii s p hp ha]
theorem next_end (h : It w g s p) (ty : TypeId) (hp : ¬ p < s.size) :
    (Instr.next (.pointer (some ⟨g, 0, none⟩)) true ty).run P w = .ok (.tuple #[.bool false]) w := by
  unfold It at h
  simp [Instr.next, getObj, Sem.run, h, hp]
end

/-- What a hexadecimal digit is worth. -/
def dg (r : Nat) : Option Nat := if 48 ≤ r ∧ r ≤ 57 then some (r - 48) else if 97 ≤ r ∧ r ≤ 102 then some (r - 87) else if 65 ≤ r ∧ r ≤ 70 then some (r - 55) else none
theorem dg_lt {r d : Nat} (h : dg r = some d) : d < 16 := by
  unfold dg at h
  repeat' split at h
  all_goals first | (injection h; omega) | cases h
theorem dg_ascii {r d : Nat} (h : dg r = some d) : r < 128 := by
  unfold dg at h
  repeat' split at h
  all_goals first | omega | cases h

set_option maxHeartbeats 400000 in
theorem hashDigit_any (r : Nat) (hr : r ≤ 2147483647) (w : World) :
    Calls Tryd.prog 67 #[.int .i32 r] w fun e w' => e = .returned (.tuple #[.int .u8 ((dg r).getD 0 : Nat), .bool (dg r).isSome]) ∧ w' = w := by
  go_enter Tryd.func67, Tryd.ntmps67
  rcases (show r < 48 ∨ (48 ≤ r ∧ r ≤ 57) ∨ (57 < r ∧ r < 65) ∨ (65 ≤ r ∧ r ≤ 70) ∨ (70 < r ∧ r < 97) ∨ (97 ≤ r ∧ r ≤ 102) ∨ 102 < r from by omega) with h1 | h1 | h1 | h1 | h1 | h1 | h1
  · have e : dg r = none := by unfold dg; rw [if_neg (by omega), if_neg (by omega), if_neg (by omega)]
    have E := Lib.hid e; clear e
    go_wp2
    exact bodyPost_ret (v := .tuple #[.int .u8 0, .bool false]) (by simp [results, Tryd.results67, go_sem]) rfl ⟨by rw [E.out]; rfl, rfl⟩
  · have e : dg r = some (r - 48) := by unfold dg; rw [if_pos (by omega)]
    have E := Lib.hid e; clear e
    go_wp2
    exact bodyPost_ret (v := .tuple #[.int .u8 ((r - 48 : Nat) : Int), .bool true]) (by simp [results, Tryd.results67, go_sem]; omega) rfl ⟨by rw [E.out]; rfl, rfl⟩
  · have e : dg r = none := by unfold dg; rw [if_neg (by omega), if_neg (by omega), if_neg (by omega)]
    have E := Lib.hid e; clear e
    go_wp2
    exact bodyPost_ret (v := .tuple #[.int .u8 0, .bool false]) (by simp [results, Tryd.results67, go_sem]) rfl ⟨by rw [E.out]; rfl, rfl⟩
  · have e : dg r = some (r - 55) := by unfold dg; rw [if_neg (by omega), if_neg (by omega), if_pos (by omega)]
    have E := Lib.hid e; clear e
    go_wp2
    exact bodyPost_ret (v := .tuple #[.int .u8 ((r - 55 : Nat) : Int), .bool true]) (by simp [results, Tryd.results67, go_sem]; omega) rfl ⟨by rw [E.out]; rfl, rfl⟩
  · have e : dg r = none := by unfold dg; rw [if_neg (by omega), if_neg (by omega), if_neg (by omega)]
    have E := Lib.hid e; clear e
    go_wp2
    exact bodyPost_ret (v := .tuple #[.int .u8 0, .bool false]) (by simp [results, Tryd.results67, go_sem]) rfl ⟨by rw [E.out]; rfl, rfl⟩
  · have e : dg r = some (r - 87) := by unfold dg; rw [if_neg (by omega), if_pos (by omega)]
    have E := Lib.hid e; clear e
    go_wp2
    exact bodyPost_ret (v := .tuple #[.int .u8 ((r - 87 : Nat) : Int), .bool true]) (by simp [results, Tryd.results67, go_sem]; omega) rfl ⟨by rw [E.out]; rfl, rfl⟩
  · have e : dg r = none := by unfold dg; rw [if_neg (by omega), if_neg (by omega), if_neg (by omega)]
    have E := Lib.hid e; clear e
    go_wp2
    exact bodyPost_ret (v := .tuple #[.int .u8 0, .bool false]) (by simp [results, Tryd.results67, go_sem]) rfl ⟨by rw [E.out]; rfl, rfl⟩
end Go.Proofs.YtfebknplkbeblaaDoor

namespace Go.Proofs.YtfebknplkbeblaaDoor
open Go.RowKit
set_option linter.unusedVariables false

/-- The 64 digits of a hash, the highest byte first. -/
def hexT (l : List UInt8) : List UInt8 := (List.range 64).map fun i => if i % 2 = 0 then hx ((l.getD (31 - i / 2) 0).toNat / 16) else hx ((l.getD (31 - i / 2) 0).toNat % 16)
theorem hexT_length (l : List UInt8) : (hexT l).length = 64 := by simp [hexT]
theorem hexT_even (l : List UInt8) (k : Nat) (h : k < 32) : (hexT l).getD (2 * k) 0 = hx ((l.getD (31 - k) 0).toNat / 16) := by
  have h2 : 2 * k < 64 := by omega
  simp [hexT, h2]
theorem hexT_odd (l : List UInt8) (k : Nat) (h : k < 32) : (hexT l).getD (2 * k + 1) 0 = hx ((l.getD (31 - k) 0).toNat % 16) := by
  have h2 : 2 * k + 1 < 64 := by omega
  have h3 : (2 * k + 1) / 2 = k := by omega
  have h4 : (2 * k + 1) % 2 = 1 := by omega
  simp [hexT, h2, h3, h4]
theorem and15 (x : Nat) (h : x < 256) : bits .and .u8 (x : Int) 15 = ((x % 16 : Nat) : Int) := by
  have e := u8_and_nat x 15 h (by decide)
  rw [show ((15 : Nat) : Int) = 15 from rfl] at e
  rw [e, nat_mask4]

theorem make_bytes2 (n c : Nat) (hnc : n ≤ c) (hn : c ≤ 140737488355328) (w : World) :
    (Instr.makeSlice 26 (.int .i64 n) (.int .i64 c)).run Tryd.prog w = .ok (.slice (some ⟨w.heap.size, 0, none⟩) n c) (w.alloc (.cells (Array.replicate c (.int .u8 0)) 5)) := by
  obtain ⟨i0, hi, hz0, hz1, hz2⟩ := info_parts (show (Tryd.prog.info? 5).map (fun i => (i.zero, i.size, i.bytes)) = some (some (.int .u8 0), 1, 1) by kernel_rfl)
  rw [run_make w 26 5 i0 (.int .u8 0) Tryd.underlying26 hi hz0 .i64 .i64 n c (by omega) (by omega) (by rw [hz2]; omega) (by omega), hz1, Int.toNat_natCast, Int.toNat_natCast, Nat.mul_one]
  exact congrArg (fun cs => Result.ok _ (w.alloc (.cells cs 5))) (madeCells_one _ c)

set_option maxHeartbeats 400000 in
theorem Text_any (l : List UInt8) (hl : l.length = 32) (w : World) :
    Calls Tryd.prog 41 #[.agg (u8cells l)] w fun e w' => e = .returned (.string (bstr (hexT l))) ∧ Below w.heap.size w w' := by
  have hx0 : ∀ d (hd : d < 16), ∀ h, (⟨#[48, 49, 50, 51, 52, 53, 54, 55, 56, 57, 97, 98, 99, 100, 101, 102]⟩ : ByteArray)[d]'h = hx d := fun d hd => hx_at d hd
  have HX := Lib.hid hx0; clear hx0
  have hmk : ∀ w : World, (Instr.makeSlice 26 (.int .i64 0) (.int .i64 64)).run Tryd.prog w = .ok (.slice (some ⟨w.heap.size, 0, none⟩) 0 64) (w.alloc (.cells (partB (hexT l) 0) 5)) := by
    intro w
    rw [partB_zero, hexT_length]
    exact make_bytes2 0 64 (by omega) (by omega) w
  go_enter Tryd.func41, Tryd.ntmps41
  go_wp2
  have HM := Lib.hid hmk; clear hmk
  have hll := hexT_length l
  generalize ht : hexT l = t
  rw [ht] at hll
  have HL := Lib.hid (And.intro ht (And.intro hll hl)); clear ht hll hl
  go_loopw [3, 4] (fun s i wr => ∃ k : Nat, k ≤ 32 ∧ i = .int .i64 (31 - (k : Int)) ∧ s = .slice (some ⟨w.heap.size + 1, 0, none⟩) (2 * k) 64 ∧ Blk wr w.heap.size 38 (u8cells l) ∧ Blk wr (w.heap.size + 1) 5 (partB t (2 * k)) ∧ Below w.heap.size w wr) (fun s i _ => (intOf i + 1).toNat)
  case atStart =>
    exact ⟨0, Nat.zero_le _, rfl, by simp, (Blk.newAt _ _ _ rfl).alloc _, (Blk.newAt _ _ _ (by simp)).to rfl, ((Below.refl _ _).alloc (Nat.le_refl _) _).alloc (by simp) _⟩
  case round =>
    obtain ⟨k, hk, rfl, rfl, h1, h2, hb⟩ := hrel
    by_cases hlt : k < 32
    · obtain ⟨p, hp⟩ : ∃ p, p = 31 - k := ⟨_, rfl⟩
      have hp' : (31 : Int) - (k : Int) = (p : Int) := by omega
      have hp4 : p < 32 := by omega
      obtain ⟨x, hx⟩ : ∃ x, x = (l.getD p 0).toNat := ⟨_, rfl⟩
      have hx8 : x < 256 := by rw [hx]; exact (l.getD p 0).toNat_lt
      have c1 := blk_get h1 p _ (u8cells_at l p (by have := HL.out.2.2; omega))
      rw [← hx] at c1
      obtain ⟨v2, hv2⟩ := partB_at t (2 * k) (2 * k) (by have := HL.out.2.1; omega)
      obtain ⟨v3, hv3⟩ := partB_at t (2 * k) (2 * k + 1) (by have := HL.out.2.1; omega)
      have c2 := blk_get h2 (2 * k) _ hv2
      have c3 := blk_get h2 (2 * k + 1) _ hv3
      have f2 := h2.frozen (2 * k)
      have f3 := h2.frozen (2 * k + 1)
      obtain ⟨d1, hd1⟩ : ∃ d, d = x / 16 := ⟨_, rfl⟩
      obtain ⟨d2, hd2⟩ : ∃ d, d = x % 16 := ⟨_, rfl⟩
      have s1 : (x : Int) / 16 = (d1 : Int) := by omega
      have s2 := and15 x hx8
      rw [← hd2] at s2
      have b1 : d1 < 16 := by omega
      have b2 : d2 < 16 := by omega
      have i1 := HX.out d1 b1
      have i2 := HX.out d2 b2
      rw [hp']
      have c1d : wr.drew.cell? ⟨w.heap.size, p, none⟩ = some (.int .u8 x) := c1
      have hp5 : (p : Int) < 32 := by omega
      have b1' : (d1 : Int) < 16 := by omega
      have b2' : (d2 : Int) < 16 := by omega
      have H := Lib.hid (And.intro h1 (And.intro h2 (And.intro hb (And.intro hp (And.intro hx (And.intro hd1 hd2)))))); clear h1 h2 hb hp hv2 hv3 hx hd1 hd2
      go_wp2
      have hlt2 : w.heap.size + 1 < wr.heap.size := H.out.2.1.lt
      have hlt3 : w.heap.size < wr.heap.size := by omega
      go_region
      go_wp2
      obtain ⟨h1, h2, hb, hp, hxx, hd1, hd2⟩ := H.out
      have hl := HL.out
      have t1 : hx d1 = t.getD (2 * k) 0 := by rw [← hl.1, hexT_even l k hlt, hd1, hxx, hp]
      have t2 : hx d2 = t.getD (2 * k + 1) 0 := by rw [← hl.1, hexT_odd l k hlt, hd2, hxx, hp]
      go_roundw
      case rel =>
        refine ⟨k + 1, by omega, by rw [show ((p : Int) - 1) = 31 - ((k + 1 : Nat) : Int) by omega], rfl, (((h1.far (by omega) _).far (by omega) _).alloc _).drew, ((((h2.set_ _ _).set_ _ _).alloc _).to ?_).drew, (((hb.setCell (by simp) _).setCell (by simp) _).alloc (by simp; try omega) _).drew⟩
        rw [t1, t2, partB_set t (2 * k) (by omega), partB_set t (2 * k + 1) (by omega)]
        rfl
      case measure => simp [intOf]
    · obtain rfl : k = 32 := by omega
      have hl := HL.out
      have hcv := run_convert_bytes_arg (P := Tryd.prog) wr 26 5 Tryd.underlying26 Tryd.underlying5 (w.heap.size + 1) 0 64 64 (t.map fun c => (c.toNat : Int)) (by simp [hl.2.1]) (fun i hi => by
        rw [Nat.zero_add]
        refine blk_get h2 i _ ?_
        rw [partB_full t (2 * 32) hl.2.1]
        have h3 : i < t.length := by rw [hl.2.1]; simpa using hi
        simp [u8cells, List.getD, h3]) 9 Tryd.underlying9
      rw [strOf_u8] at hcv
      have H := Lib.hid hb; clear h1 h2 hb hl
      go_wp2
      go_ret
      exact ⟨ret_str (by rw [HL.out.1]), H.out⟩
end Go.Proofs.YtfebknplkbeblaaDoor

namespace Go.Proofs.YtfebknplkbeblaaDoor
open Go.RowKit
set_option linter.unusedVariables false

theorem hx_dg (d : Nat) (h : d < 16) : dg (hx d).toNat = some d ∧ (hx d).toNat < 128 := by
  have all : ∀ d : Fin 16, dg (hx d.val).toNat = some d.val ∧ (hx d.val).toNat < 128 := by decide +kernel
  exact all ⟨d, h⟩
/-- What digit number i of a hash is worth. -/
def hdig (l : List UInt8) (i : Nat) : Nat := if i % 2 = 0 then (l.getD (31 - i / 2) 0).toNat / 16 else (l.getD (31 - i / 2) 0).toNat % 16
theorem hdig_lt (l : List UInt8) (i : Nat) : hdig l i < 16 := by
  have := (l.getD (31 - i / 2) 0).toNat_lt
  unfold hdig
  split <;> omega
theorem hexT_at (l : List UInt8) (i : Nat) (h : i < 64) : (hexT l).getD i 0 = hx (hdig l i) := by
  unfold hdig
  simp only [hexT, List.getD, List.getElem?_map, List.getElem?_range h, Option.map_some, Option.getD_some]
  split <;> rfl
/-- What has been read of a hash behind k digits. -/
def readV (l : List UInt8) (k j : Nat) : Nat := if 32 ≤ j + k / 2 then (l.getD j 0).toNat else if j + k / 2 = 31 ∧ k % 2 = 1 then (l.getD j 0).toNat / 16 else 0
def readC (l : List UInt8) (k : Nat) : Array Value := ((List.range 32).map fun j => Value.int .u8 (readV l k j)).toArray
theorem readC_at (l : List UInt8) (k j : Nat) (h : j < 32) : (readC l k)[j]? = some (.int .u8 (readV l k j)) := by
  simp [readC, h]
theorem readC_full (l : List UInt8) (hl : l.length = 32) : readC l 64 = u8cells l := by
  unfold readC u8cells
  apply Array.ext
  · simp [hl]
  · intro i h1 h2
    have h3 : i < l.length := by simpa using h2
    have h4 : 32 ≤ i + 64 / 2 := by omega
    simp [readV, h3, h4]
theorem readC_zero (l : List UInt8) : readC l 0 = u8cells zeroH := by
  have e : readC l 0 = Array.replicate 32 (.int .u8 0) := by
    unfold readC
    apply Array.ext
    · simp
    · intro i h1 h2
      have h3 : i < 32 := by simpa using h2
      have n2 : ¬ 32 ≤ i := by omega
      simp [readV, n2]
  have e2 : u8cells zeroH = Array.replicate 32 (.int .u8 0) := by kernel_rfl
  rw [e, e2]
theorem readV_step (l : List UInt8) (k : Nat) (h : k < 64) : readV l (k + 1) (31 - k / 2) = readV l k (31 - k / 2) * 16 + hdig l k ∧ readV l k (31 - k / 2) < 16 := by
  have h0 := (l.getD (31 - k / 2) 0).toNat_lt
  unfold readV hdig
  by_cases e : k % 2 = 0
  · have a1 : ¬ 32 ≤ 31 - k / 2 + (k + 1) / 2 := by omega
    have a2 : 31 - k / 2 + (k + 1) / 2 = 31 ∧ (k + 1) % 2 = 1 := by omega
    have a3 : ¬ 32 ≤ 31 - k / 2 + k / 2 := by omega
    have a4 : ¬ (31 - k / 2 + k / 2 = 31 ∧ k % 2 = 1) := by omega
    rw [if_neg a1, if_pos a2, if_neg a3, if_neg a4, if_pos e]
    omega
  · have a1 : 32 ≤ 31 - k / 2 + (k + 1) / 2 := by omega
    have a3 : ¬ 32 ≤ 31 - k / 2 + k / 2 := by omega
    have a4 : (31 - k / 2 + k / 2 = 31 ∧ k % 2 = 1) := by omega
    rw [if_pos a1, if_neg a3, if_pos a4, if_neg e]
    omega
theorem readV_other (l : List UInt8) (k j : Nat) (h : k < 64) (hj : j < 32) (hne : j ≠ 31 - k / 2) : readV l (k + 1) j = readV l k j := by
  unfold readV
  by_cases a : 32 ≤ j + k / 2
  · rw [if_pos a, if_pos (by omega)]
  · rw [if_neg a, if_neg (by omega), if_neg (by omega), if_neg (by omega)]
theorem readC_set (l : List UInt8) (k v : Nat) (h : k < 64) (hv : v = readV l (k + 1) (31 - k / 2)) : (readC l k).setIfInBounds (31 - k / 2) (.int .u8 v) = readC l (k + 1) := by
  subst hv
  unfold readC
  apply Array.ext
  · simp
  · intro i h1 h2
    have h3 : i < 32 := by simpa using h2
    simp only [List.setIfInBounds_toArray, List.getElem_toArray, List.getElem_set, List.getElem_map, List.getElem_range]
    by_cases e : 31 - k / 2 = i
    · rw [if_pos e, e]
    · rw [if_neg e, readV_other l k i h h3 (Ne.symm e)]
theorem bstr_size (l : List UInt8) : (bstr l).size = l.length := by simp [bstr, ByteArray.size]
theorem bstr_at (l : List UInt8) (i : Nat) (h : i < (bstr l).size) : (bstr l)[i]'h = l.getD i 0 := by
  have h2 : i < l.length := by rw [← bstr_size]; exact h
  have e : (bstr l)[i]'h = l.toArray[i]'(by simpa using h2) := rfl
  rw [e]
  simp [h2]
theorem It.pos {w : World} {g : Nat} {s : ByteArray} {p : Nat} (h : It w g s p) : w.iterPos g = p := by
  unfold It at h
  simp [World.iterPos, h]
theorem put_digit (a d : Nat) (ha : a < 16) (hd : d < 16) : bits .or .u8 (IntKind.u8.wrap ((a : Int) * 2 ^ 4)) (d : Int) = ((a * 16 + d : Nat) : Int) := by
  have w1 : IntKind.u8.wrap ((a : Int) * 2 ^ 4) = ((a * 16 : Nat) : Int) := by simp [IntKind.wrap, IntKind.signed, IntKind.bits]; omega
  rw [w1, u8_or_nat _ _ (by omega) (by omega)]
  congr 1
  have e := Nat.shiftLeft_add_eq_or_of_lt (a := a) (b := d) (i := 4) (by omega)
  rw [Nat.shiftLeft_eq] at e
  rw [show a * 16 = a * 2 ^ 4 from rfl, ← e]

theorem put_digit2 (a d : Nat) (ha : a < 16) (hd : d < 16) : bits .or .u8 ((a : Int) * 16) (d : Int) = ((a * 16 + d : Nat) : Int) := by
  have e : (a : Int) * 16 = ((a * 16 : Nat) : Int) := by push_cast; rfl
  rw [e, u8_or_nat _ _ (by omega) (by omega)]
  congr 1
  have e := Nat.shiftLeft_add_eq_or_of_lt (a := a) (b := d) (i := 4) (by omega)
  rw [Nat.shiftLeft_eq] at e
  rw [show a * 16 = a * 2 ^ 4 from rfl, ← e]
theorem hashDigit_hx (d : Nat) (h : d < 16) (w : World) : Calls Tryd.prog 67 #[.int .i32 (hx d).toNat] w fun e w' => e = .returned (.tuple #[.int .u8 d, .bool true]) ∧ w' = w := by
  have h1 := hx_dg d h
  have h2 := hashDigit_any (hx d).toNat (by omega) w
  rw [h1.1] at h2
  exact h2
set_option maxHeartbeats 400000 in
theorem Parse_text (l : List UInt8) (hl : l.length = 32) (w : World) :
    Calls Tryd.prog 42 #[.string (bstr (hexT l))] w fun e w' => e = .returned (.tuple #[.agg (u8cells l), .int .i64 0]) ∧ Below w.heap.size w w' := by
  have hsz : (bstr (hexT l)).size = 64 := by rw [bstr_size, hexT_length]
  have hit : ∀ w' g k (ty : TypeId), k < 64 → It w' g (bstr (hexT l)) k → (Instr.next (.pointer (some ⟨g, 0, none⟩)) true ty).run Tryd.prog w' = .ok (.tuple #[.bool true, .int .i64 k, .int .i32 (hx (hdig l k)).toNat]) (setIt w' g (bstr (hexT l)) (k + 1)) := by
    intro w' g k ty hk hi
    have h1 : k < (bstr (hexT l)).size := by omega
    have h2 : (bstr (hexT l))[k]'h1 = hx (hdig l k) := by rw [bstr_at, hexT_at l k hk]
    have h3 := next_one (P := Tryd.prog) hi ty h1 (by rw [h2]; exact (hx_dg _ (hdig_lt l k)).2)
    rw [h2] at h3
    exact h3
  have hie : ∀ w' g (ty : TypeId), It w' g (bstr (hexT l)) 64 → (Instr.next (.pointer (some ⟨g, 0, none⟩)) true ty).run Tryd.prog w' = .ok (.tuple #[.bool false]) w' := fun w' g ty hi => next_end hi _ (by omega)
  generalize bstr (hexT l) = s at *
  have HI := Lib.hid (And.intro hit hie); clear hit hie
  go_enter Tryd.func42, Tryd.ntmps42
  go_wp2
  go_loopw [16] (fun _ wr => ∃ k : Nat, k ≤ 64 ∧ It wr (w.heap.size + 1 + 1) s k ∧ Blk wr w.heap.size 38 (u8cells zeroH) ∧ Blk wr (w.heap.size + 1) 38 (readC l k) ∧ Below w.heap.size w wr) (fun _ wr => 64 - wr.iterPos (w.heap.size + 1 + 1))
  case atStart =>
    refine ⟨0, by omega, It.newAt _ _ _ (by simp), ?_, ?_, ?_⟩
    · rw [zeroH_cells]; exact ((Blk.newAt _ _ _ rfl).alloc _).alloc _
    · rw [readC_zero, zeroH_cells]; exact (Blk.newAt _ _ _ (by simp)).alloc _
    · exact (((Below.refl _ _).alloc (Nat.le_refl _) _).alloc (by simp) _).alloc (by simp; omega) _
  case round =>
    obtain ⟨k, hk, hi, h0, h1, hb⟩ := hrel
    by_cases hlt : k < 64
    · have hn1 := fun ty => HI.out.1 wr (w.heap.size + 1 + 1) k ty hlt hi
      generalize hd : hdig l k = d at *
      have hd16 : d < 16 := by rw [← hd]; exact hdig_lt l k
      obtain ⟨p, hp⟩ : ∃ p, p = 31 - k / 2 := ⟨_, rfl⟩
      have hp' : (31 : Int) - (k : Int) / 2 = (p : Int) := by omega
      have hp32 : p < 32 := by omega
      obtain ⟨hv, hv16⟩ := readV_step l k hlt
      rw [← hp, hd] at hv
      rw [← hp] at hv16
      obtain ⟨a, ha⟩ : ∃ a, a = readV l k p := ⟨_, rfl⟩
      rw [← ha] at hv hv16
      have g1 : Blk (setIt wr (w.heap.size + 1 + 1) s (k + 1)) (w.heap.size + 1) 38 (readC l k) := h1.setIt (by omega)
      have g0 : Blk (setIt wr (w.heap.size + 1 + 1) s (k + 1)) w.heap.size 38 (u8cells zeroH) := h0.setIt (by omega)
      have gi : It (setIt wr (w.heap.size + 1 + 1) s (k + 1)) (w.heap.size + 1 + 1) s (k + 1) := hi.set (k + 1)
      have gb : Below w.heap.size w (setIt wr (w.heap.size + 1 + 1) s (k + 1)) := below_setIt hb (by omega)
      have c1 := blk_get g1 p _ (readC_at l k p hp32)
      rw [← ha] at c1
      have f1 := g1.frozen p
      have pd := put_digit2 a d hv16 hd16
      have pos0 := hi.pos
      have pos1 := gi.pos
      have H := Lib.hid (And.intro gi (And.intro g0 (And.intro g1 (And.intro gb (And.intro hp (And.intro ha hv)))))); clear hi h0 h1 hb gi g0 g1 gb hp ha hv
      generalize setIt wr (w.heap.size + 1 + 1) s (k + 1) = wi at *
      go_wp2_with (go_at_call 67; refine (hashDigit_hx d hd16 _).mono ?_; rintro e w' ⟨rfl, rfl⟩)
      obtain ⟨gi, g0, g1, gb, hp, ha, hv⟩ := H.out
      go_roundw
      case rel =>
        exact ⟨k + 1, by omega, gi.far (by omega) _, g0.far (by omega) _, (g1.set_ p _).to (by rw [hp]; exact readC_set l k _ hlt (by rw [← hp]; exact hv.symm)), gb.setCell (by simp) _⟩
      case measure =>
        rw [(gi.far (b := w.heap.size + 1) (i := p) (by omega) _).pos, pos0]
        omega
    · obtain rfl : k = 64 := by omega
      have hn1 := fun ty => HI.out.2 wr (w.heap.size + 1 + 1) ty hi
      rw [readC_full l hl] at h1
      have s0 : (u8cells zeroH).size = (u8cells l).size := by rw [u8cells_size, u8cells_size, hl]; rfl
      have a2 := u8cells_one l
      have i2 := isH l hl
      have hlv := run_loadVar_row (P := Tryd.prog) _ _ _ _ (u8cells l) (0, 0) _ (h0.row (u8cells l)) Tryd.underlying38 rfl i2
      have H := Lib.hid (And.intro hb (And.intro h1 h0)); clear hi h0 h1 hb
      go_wp2_with (first | with_reducible refine wl_row H.out.2.1 _ _ rfl rfl rfl _ _ Tryd.underlying38 i2 ?_ | with_reducible refine ws_row H.out.2.2 _ _ _ _ rfl rfl rfl rfl i2 s0 a2 ?_)
      obtain ⟨hb, h1, h0⟩ := H.out
      refine bodyPost_ret (v := .tuple #[.agg (u8cells l), .int .i64 0]) ?_ rfl ⟨rfl, below_setRow hb (by omega) _⟩
      simp [results, Tryd.results42, asAddr, hlv]
end Go.Proofs.YtfebknplkbeblaaDoor
