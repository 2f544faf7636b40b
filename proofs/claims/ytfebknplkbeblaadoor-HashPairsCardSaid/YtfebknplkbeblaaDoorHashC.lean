/- A hash as a text, and that text read again. -/
import Derived.Test.YtfebknplkbeblaaDoorHashB
import Derived.Test.YtfebknplkbeblaaDoorStr
import Derived.StillTailTactics
namespace Go.Proofs.YtfebknplkbeblaaDoor
open Go.RowKit
set_option linter.unusedVariables false

/-- The 64 digits of a hash, the highest byte first. -/
def hexT (l : List UInt8) : List UInt8 := (List.range 64).map fun i => if i % 2 = 0 then hx ((l.getD (31 - i / 2) 0).toNat / 16) else hx ((l.getD (31 - i / 2) 0).toNat % 16)
theorem hexT_length (l : List UInt8) : (hexT l).length = 64 := by simp [hexT]
theorem hexT_even (l : List UInt8) (k : Nat) (h : k < 32) : (hexT l).getD (2 * k) 0 = hx ((l.getD (31 - k) 0).toNat / 16) := by
  have h2 : 2 * k < 64 := by omega
  simp [hexT, h2]
theorem hexT_odd (l : List UInt8) (k : Nat) (h : k < 32) : (hexT l).getD (2 * k + 1) 0 = hx ((l.getD (31 - k) 0).toNat % 16) := by
  have h2 : 2 * k + 1 < 64 := by omega
  have h3 : (2 * k + 1) / 2 = k := by omega
  have h4 : (2 * k + 1) % 2 = 1 := by omega
  simp [hexT, h2, h3, h4]
theorem and15 (x : Nat) (h : x < 256) : bits .and .u8 (x : Int) 15 = ((x % 16 : Nat) : Int) := by
  have e := u8_and_nat x 15 h (by decide)
  rw [show ((15 : Nat) : Int) = 15 from rfl] at e
  rw [e, nat_mask4]

theorem make_bytes2 (n c : Nat) (hnc : n ≤ c) (hn : c ≤ 140737488355328) (w : World) :
    (Instr.makeSlice 26 (.int .i64 n) (.int .i64 c)).run Tryd.prog w = .ok (.slice (some ⟨w.heap.size, 0, none⟩) n c) (w.alloc (.cells (Array.replicate c (.int .u8 0)) 5)) := by
  obtain ⟨i0, hi, hz0, hz1, hz2⟩ := info_parts (show (Tryd.prog.info? 5).map (fun i => (i.zero, i.size, i.bytes)) = some (some (.int .u8 0), 1, 1) by kernel_rfl)
  rw [run_make w 26 5 i0 (.int .u8 0) Tryd.underlying26 hi hz0 .i64 .i64 n c (by omega) (by omega) (by rw [hz2]; omega) (by omega), hz1, Int.toNat_natCast, Int.toNat_natCast, Nat.mul_one]
  exact congrArg (fun cs => Result.ok _ (w.alloc (.cells cs 5))) (madeCells_one _ c)

set_option maxHeartbeats 400000 in
theorem Text_any (l : List UInt8) (hl : l.length = 32) (w : World) :
    Calls Tryd.prog 41 #[.agg (u8cells l)] w fun e w' => e = .returned (.string (bstr (hexT l))) ∧ Below w.heap.size w w' := by
  have hx0 : ∀ d (hd : d < 16), ∀ h, (⟨#[48, 49, 50, 51, 52, 53, 54, 55, 56, 57, 97, 98, 99, 100, 101, 102]⟩ : ByteArray)[d]'h = hx d := fun d hd => hx_at d hd
  have HX := Lib.hid hx0; clear hx0
  have hmk : ∀ w : World, (Instr.makeSlice 26 (.int .i64 0) (.int .i64 64)).run Tryd.prog w = .ok (.slice (some ⟨w.heap.size, 0, none⟩) 0 64) (w.alloc (.cells (partB (hexT l) 0) 5)) := by
    intro w
    rw [partB_zero, hexT_length]
    exact make_bytes2 0 64 (by omega) (by omega) w
  go_enter Tryd.func41, Tryd.ntmps41
  go_wp2
  have HM := Lib.hid hmk; clear hmk
  have hll := hexT_length l
  generalize ht : hexT l = t
  rw [ht] at hll
  have HL := Lib.hid (And.intro ht (And.intro hll hl)); clear ht hll hl
  go_loopw [3, 4] (fun s i wr => ∃ k : Nat, k ≤ 32 ∧ i = .int .i64 (31 - (k : Int)) ∧ s = .slice (some ⟨w.heap.size + 1, 0, none⟩) (2 * k) 64 ∧ Blk wr w.heap.size 38 (u8cells l) ∧ Blk wr (w.heap.size + 1) 5 (partB t (2 * k)) ∧ Below w.heap.size w wr) (fun s i _ => (intOf i + 1).toNat)
  case atStart =>
    exact ⟨0, Nat.zero_le _, rfl, by simp, (Blk.newAt _ _ _ rfl).alloc _, (Blk.newAt _ _ _ (by simp)).to rfl, ((Below.refl _ _).alloc (Nat.le_refl _) _).alloc (by simp) _⟩
  case round =>
    obtain ⟨k, hk, rfl, rfl, h1, h2, hb⟩ := hrel
    by_cases hlt : k < 32
    · obtain ⟨p, hp⟩ : ∃ p, p = 31 - k := ⟨_, rfl⟩
      have hp' : (31 : Int) - (k : Int) = (p : Int) := by omega
      have hp4 : p < 32 := by omega
      obtain ⟨x, hx⟩ : ∃ x, x = (l.getD p 0).toNat := ⟨_, rfl⟩
      have hx8 : x < 256 := by rw [hx]; exact (l.getD p 0).toNat_lt
      have c1 := blk_get h1 p _ (u8cells_at l p (by have := HL.out.2.2; omega))
      rw [← hx] at c1
      obtain ⟨v2, hv2⟩ := partB_at t (2 * k) (2 * k) (by have := HL.out.2.1; omega)
      obtain ⟨v3, hv3⟩ := partB_at t (2 * k) (2 * k + 1) (by have := HL.out.2.1; omega)
      have c2 := blk_get h2 (2 * k) _ hv2
      have c3 := blk_get h2 (2 * k + 1) _ hv3
      have f2 := h2.frozen (2 * k)
      have f3 := h2.frozen (2 * k + 1)
      obtain ⟨d1, hd1⟩ : ∃ d, d = x / 16 := ⟨_, rfl⟩
      obtain ⟨d2, hd2⟩ : ∃ d, d = x % 16 := ⟨_, rfl⟩
      have s1 : (x : Int) / 16 = (d1 : Int) := by omega
      have s2 := and15 x hx8
      rw [← hd2] at s2
      have b1 : d1 < 16 := by omega
      have b2 : d2 < 16 := by omega
      have i1 := HX.out d1 b1
      have i2 := HX.out d2 b2
      rw [hp']
      have c1d : wr.drew.cell? ⟨w.heap.size, p, none⟩ = some (.int .u8 x) := c1
      have hp5 : (p : Int) < 32 := by omega
      have b1' : (d1 : Int) < 16 := by omega
      have b2' : (d2 : Int) < 16 := by omega
      have H := Lib.hid (And.intro h1 (And.intro h2 (And.intro hb (And.intro hp (And.intro hx (And.intro hd1 hd2)))))); clear h1 h2 hb hp hv2 hv3 hx hd1 hd2
      go_wp2
      have hlt2 : w.heap.size + 1 < wr.heap.size := H.out.2.1.lt
      have hlt3 : w.heap.size < wr.heap.size := by omega
      go_region
      go_wp2
      obtain ⟨h1, h2, hb, hp, hxx, hd1, hd2⟩ := H.out
      have hl := HL.out
      have t1 : hx d1 = t.getD (2 * k) 0 := by rw [← hl.1, hexT_even l k hlt, hd1, hxx, hp]
      have t2 : hx d2 = t.getD (2 * k + 1) 0 := by rw [← hl.1, hexT_odd l k hlt, hd2, hxx, hp]
      go_roundw
      case rel =>
        refine ⟨k + 1, by omega, by rw [show ((p : Int) - 1) = 31 - ((k + 1 : Nat) : Int) by omega], rfl, (((h1.far (by omega) _).far (by omega) _).alloc _).drew, ((((h2.set_ _ _).set_ _ _).alloc _).to ?_).drew, (((hb.setCell (by simp) _).setCell (by simp) _).alloc (by simp; try omega) _).drew⟩
        rw [t1, t2, partB_set t (2 * k) (by omega), partB_set t (2 * k + 1) (by omega)]
        rfl
      case measure => simp [intOf]
    · obtain rfl : k = 32 := by omega
      have hl := HL.out
      have hcv := run_convert_bytes_arg (P := Tryd.prog) wr 26 5 Tryd.underlying26 Tryd.underlying5 (w.heap.size + 1) 0 64 64 (t.map fun c => (c.toNat : Int)) (by simp [hl.2.1]) (fun i hi => by
        rw [Nat.zero_add]
        refine blk_get h2 i _ ?_
        rw [partB_full t (2 * 32) hl.2.1]
        have h3 : i < t.length := by rw [hl.2.1]; simpa using hi
        simp [u8cells, List.getD, h3]) 9 Tryd.underlying9
      rw [strOf_u8] at hcv
      have H := Lib.hid hb; clear h1 h2 hb hl
      go_wp2
      go_ret
      exact ⟨ret_str (by rw [HL.out.1]), H.out⟩
end Go.Proofs.YtfebknplkbeblaaDoor
