/- What u256's texts and bytes come to. -/
import Derived.Test.YtfebknplkbeblaaDoorU256b
import Derived.Laws.BytesArg
namespace Go.Proofs.YtfebknplkbeblaaDoor
open Go.RowKit
set_option linter.unusedVariables false

/-- The small hexadecimal digit of d. -/
def hx (d : Nat) : UInt8 := if d < 10 then UInt8.ofNat (48 + d) else UInt8.ofNat (87 + d)
/-- L hexadecimal digits of m, the highest first. -/
def hexB (m L : Nat) : List UInt8 := (List.range L).map fun i => hx (m / 16 ^ (L - 1 - i) % 16)
def hexLen (m : Nat) : Nat := if m = 0 then 1 else (bl m + 3) / 4
def bstr (l : List UInt8) : ByteArray := ⟨l.toArray⟩
def u8cells (l : List UInt8) : Array Value := (l.map fun c => Value.int .u8 c.toNat).toArray
/-- The first k of a row, zeros behind. -/
def partB (l : List UInt8) (k : Nat) : Array Value := ((List.range l.length).map fun j => if j < k then Value.int .u8 (l.getD j 0).toNat else Value.int .u8 0).toArray

theorem hx_at (d : Nat) (hd : d < 16) (h) : (⟨#[48, 49, 50, 51, 52, 53, 54, 55, 56, 57, 97, 98, 99, 100, 101, 102]⟩ : ByteArray)[d]'h = hx d := by
  have all : ∀ d : Fin 16, (⟨#[48, 49, 50, 51, 52, 53, 54, 55, 56, 57, 97, 98, 99, 100, 101, 102]⟩ : ByteArray)[d.val]'(by have := d.isLt; exact this) = hx d.val := by decide +kernel
  exact all ⟨d, hd⟩
theorem hexDigit (m p : Nat) (hm : m < T) (hp : p < 64) : ∃ d : Nat, bits .and .u64 ((lim m (p / 16) : Nat) / 2 ^ (4 * (p % 16)) : Int) 15 = (d : Int) ∧ (d : Int) < 16 ∧ d = m / 16 ^ p % 16 := by
  refine ⟨m / 16 ^ p % 16, ?_, by omega, rfl⟩
  have hl := lim_lt m (p / 16)
  have e1 : ((lim m (p / 16) : Nat) / 2 ^ (4 * (p % 16)) : Int) = ((lim m (p / 16) / 2 ^ (4 * (p % 16)) : Nat) : Int) := by push_cast; rfl
  have hle : lim m (p / 16) / 2 ^ (4 * (p % 16)) ≤ lim m (p / 16) := Nat.div_le_self _ _
  rw [e1]
  have e2 := u64_and_nat (lim m (p / 16) / 2 ^ (4 * (p % 16))) 15 (by unfold W64 at hl; omega) (by omega)
  rw [show ((15 : Nat) : Int) = 15 from rfl] at e2
  rw [e2, nat_mask4]
  congr 1
  have e3 : (16 : Nat) ^ p = W64 ^ (p / 16) * 2 ^ (4 * (p % 16)) := by
    have h16 : (16 : Nat) = 2 ^ 4 := rfl
    have hW : W64 = 2 ^ 64 := rfl
    rw [h16, hW, ← Nat.pow_mul, ← Nat.pow_mul, ← Nat.pow_add]
    congr 1
    omega
  rw [e3, ← Nat.div_div_eq_div_mul]
  unfold lim
  generalize m / W64 ^ (p / 16) = q
  have hW : W64 = 2 ^ (4 * (p % 16)) * (16 * 2 ^ (60 - 4 * (p % 16))) := by
    have h16 : (16 : Nat) = 2 ^ 4 := rfl
    rw [h16, ← Nat.pow_add, ← Nat.pow_add, show 4 * (p % 16) + (4 + (60 - 4 * (p % 16))) = 64 by omega]
    rfl
  rw [hW, Nat.mod_mul_right_div_self, Nat.mod_mul_right_mod]
theorem partB_at (l : List UInt8) (k j : Nat) (h : j < l.length) : ∃ v, (partB l k)[j]? = some v := by
  unfold partB
  simp [h]
theorem partB_set (l : List UInt8) (k : Nat) (h : k < l.length) : (partB l k).setIfInBounds k (.int .u8 (l.getD k 0).toNat) = partB l (k + 1) := by
  unfold partB
  apply Array.ext
  · simp
  · intro i h1 h2
    simp only [List.setIfInBounds_toArray, List.getElem_toArray, List.getElem_set, List.getElem_map, List.getElem_range]
    by_cases e : k = i
    · subst e; simp
    · rw [if_neg e]
      by_cases h3 : i < k
      · rw [if_pos h3, if_pos (by omega)]
      · rw [if_neg h3, if_neg (by omega)]
theorem partB_zero (l : List UInt8) : partB l 0 = Array.replicate l.length (.int .u8 0) := by
  unfold partB
  apply Array.ext
  · simp
  · intro i h1 h2
    simp
theorem madeCells_one (z : Value) (n : Nat) : madeCells #[z] n = Array.replicate n z := by
  apply Array.ext'
  rw [toList_madeCells_one, Array.toList_replicate]
theorem make_bytes (n : Nat) (c : Int) (hc : c = n) (hn : n ≤ 140737488355328) (w : World) :
    (Instr.makeSlice 26 (.int .i64 c) (.int .i64 c)).run Tryd.prog w = .ok (.slice (some ⟨w.heap.size, 0, none⟩) n n) (w.alloc (.cells (Array.replicate n (.int .u8 0)) 5)) := by
  obtain ⟨i0, hi, hz0, hz1, hz2⟩ := info_parts (show (Tryd.prog.info? 5).map (fun i => (i.zero, i.size, i.bytes)) = some (some (.int .u8 0), 1, 1) by kernel_rfl)
  subst hc
  rw [run_make w 26 5 i0 (.int .u8 0) Tryd.underlying26 hi hz0 .i64 .i64 n n (by omega) (by omega) (by rw [hz2]; omega) (by omega), hz1, Int.toNat_natCast, Nat.mul_one]
  exact congrArg (fun cs => Result.ok _ (w.alloc (.cells cs 5))) (madeCells_one _ n)
theorem partB_full (l : List UInt8) (k : Nat) (h : l.length = k) : partB l k = u8cells l := by
  unfold partB u8cells
  apply Array.ext
  · simp
  · intro i h1 h2
    have h3 : i < l.length := by simpa using h1
    simp [h3, ← h]
theorem strOf_u8 (l : List UInt8) : strOfNums (l.map fun c => (c.toNat : Int)) = bstr l := by
  unfold strOfNums bstr
  congr 1
  simp [Function.comp_def]

set_option maxHeartbeats 400000 in
theorem Hex_any (m : Nat) (w : World) (hm : m < T) :
    Calls Tryd.prog 59 #[uval m] w fun e w' => e = .returned (.string (bstr (hexB m (hexLen m)))) ∧ Below w.heap.size w w' := by
  by_cases h0 : m = 0
  · have q := eqU0 m true hm (by simp [h0])
    have H0 := Lib.hid h0; clear h0
    unfold uval
    go_enter Tryd.func59, Tryd.ntmps59
    go_wp2
    go_ret
    exact ⟨by rw [H0.out]; rfl, (Below.refl _ _).alloc (Nat.le_refl _) _⟩
  · have q := eqU0 m false hm (by simp [h0])
    have hb0 : bl m ≤ 256 := by rw [bl_lt]; exact hm
    obtain ⟨L, hL⟩ : ∃ L, L = (bl m + 3) / 4 := ⟨_, rfl⟩
    have hL1 : hexLen m = L := by unfold hexLen; rw [if_neg h0, hL]
    have hL0 : 1 ≤ L := by
      have : ¬ bl m ≤ 0 := by rw [bl_lt]; omega
      omega
    have hL2 : L ≤ 64 := by omega
    have hmk : ∀ w : World, (Instr.makeSlice 26 (.int .i64 (((bl m : Nat) + 3 : Int) / 4)) (.int .i64 (((bl m : Nat) + 3 : Int) / 4))).run Tryd.prog w = .ok (.slice (some ⟨w.heap.size, 0, none⟩) L L) (w.alloc (.cells (partB (hexB m L) 0) 5)) := by
      intro w
      rw [partB_zero, show (hexB m L).length = L by simp [hexB]]
      exact make_bytes L _ (by omega) (by omega) w
    have HH := Lib.hid (And.intro h0 (And.intro hL hL1)); clear h0 hL hL1
    unfold uval
    go_enter Tryd.func59, Tryd.ntmps59
    go_wp2_with (go_at_call 73; refine (Len_any m _ hm).mono ?_; rintro e w1 ⟨rfl, hb1⟩)
    have hbw : Below w.heap.size w w1 := ((Below.refl _ _).alloc (Nat.le_refl _) _).trans (hb1.mono (by simp))
    have hB1 : Blk w1 w.heap.size 62 (ucells m) := (Blk.newAt _ _ _ rfl).calls hb1
    have hlt1 := hB1.lt
    have hq0 := Lib.hid q; clear q
    have hmk0 := Lib.hid hmk; clear hmk
    generalize hl : hexB m L = l
    have hll : l.length = L := by rw [← hl]; simp [hexB]
    have HL := Lib.hid (And.intro hl hll); clear hl hll
    go_loopw [16] (fun i wr => ∃ k : Nat, k ≤ L ∧ i = .int .i64 k ∧ Blk wr w.heap.size 62 (ucells m) ∧ Blk wr w1.heap.size 5 (partB l k) ∧ Below w.heap.size w wr) (fun i _ => L - (intOf i).toNat)
    case atStart =>
      exact ⟨0, Nat.zero_le _, rfl, hB1.alloc _, Blk.new _ _ _, hbw.alloc (by omega) _⟩
    case round =>
      clear hb1 hB1 hbw
      obtain ⟨k, hk, rfl, h1, h2, hb⟩ := hrel
      by_cases hlt : k < L
      · obtain ⟨p, hp⟩ : ∃ p, p = L - 1 - k := ⟨_, rfl⟩
        have hp' : (L : Int) - 1 - (k : Int) = (p : Int) := by omega
        have hp64 : p < 64 := by omega
        have c1 := blk_get h1 (p / 16) _ (ucells_at m (p / 16) (by omega))
        have f2 := h2.frozen k
        obtain ⟨d, hd, hd16, hdl⟩ := hexDigit m p hm hp64
        have hix : ∀ h, (⟨#[48, 49, 50, 51, 52, 53, 54, 55, 56, 57, 97, 98, 99, 100, 101, 102]⟩ : ByteArray)[d]'h = hx d := hx_at d (by omega)
        obtain ⟨v2, hv2⟩ := partB_at l k k (by have := HL.out.2; omega)
        have c2 := blk_get h2 k _ hv2
        have H := Lib.hid (And.intro h1 (And.intro h2 (And.intro hb (And.intro hp hdl)))); clear h1 h2 hb hp hv2 hdl
        go_wp2
        obtain ⟨h1, h2, hb, hp, hdl⟩ := H.out
        have hl := HL.out
        go_roundw
        case rel =>
          refine ⟨k + 1, by omega, by go_num, h1.far (by omega) _, (h2.set_ k _).to ?_, hb.setCell (by simp; omega) _⟩
          have e : hx d = l.getD k 0 := by
            rw [← hl.1, hdl, hp]
            simp [hexB, hlt]
          rw [e]
          exact partB_set l k (by omega)
        case measure => simp [intOf]; omega
      · obtain rfl : k = L := by omega
        have hl := HL.out
        have hcv := run_convert_bytes_arg (P := Tryd.prog) wr 26 5 Tryd.underlying26 Tryd.underlying5 w1.heap.size 0 k k (l.map fun c => (c.toNat : Int)) (by simp [hl.2]) (fun i hi => by
          rw [Nat.zero_add]
          refine blk_get h2 i _ ?_
          rw [partB_full l k hl.2]
          simp [u8cells, List.getD, hl.2, hi]) 9 Tryd.underlying9
        rw [strOf_u8] at hcv
        have H := Lib.hid (And.intro hb hl); clear h1 h2 hb hl
        go_wp2
        obtain ⟨hb, hl⟩ := H.out
        go_ret
        exact ⟨ret_str (by rw [HH.out.2.2, hl.1]), hb⟩
end Go.Proofs.YtfebknplkbeblaaDoor
