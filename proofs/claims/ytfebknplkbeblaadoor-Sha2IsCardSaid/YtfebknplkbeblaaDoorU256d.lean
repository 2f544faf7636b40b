/- A number as bytes. -/
import Derived.Test.YtfebknplkbeblaaDoorU256c
import Derived.Test.YtfebknplkbeblaaDoorRows8
namespace Go.Proofs.YtfebknplkbeblaaDoor
open Go.RowKit
set_option linter.unusedVariables false

/-- m as L bytes, the highest first. -/
def byB (m L : Nat) : List UInt8 := (List.range L).map fun i => UInt8.ofNat (m / 256 ^ (L - 1 - i) % 256)
/-- The last k of a row, zeros before. -/
def lastB (l : List UInt8) (k : Nat) : Array Value := ((List.range l.length).map fun j => if l.length ≤ j + k then Value.int .u8 (l.getD j 0).toNat else Value.int .u8 0).toArray
theorem lastB_at (l : List UInt8) (k j : Nat) (h : j < l.length) : ∃ v, (lastB l k)[j]? = some v := by
  unfold lastB
  simp [h]
theorem lastB_set (l : List UInt8) (k j : Nat) (h : j + k + 1 = l.length) : (lastB l k).setIfInBounds j (.int .u8 (l.getD j 0).toNat) = lastB l (k + 1) := by
  unfold lastB
  apply Array.ext
  · simp
  · intro i h1 h2
    simp only [List.setIfInBounds_toArray, List.getElem_toArray, List.getElem_set, List.getElem_map, List.getElem_range]
    by_cases e : j = i
    · subst e; rw [if_pos rfl, if_pos (by omega)]
    · rw [if_neg e]
      by_cases h3 : l.length ≤ i + k
      · rw [if_pos h3, if_pos (by omega)]
      · rw [if_neg h3, if_neg (by omega)]
theorem lastB_zero (l : List UInt8) : lastB l 0 = Array.replicate l.length (.int .u8 0) := by
  unfold lastB
  apply Array.ext
  · simp
  · intro i h1 h2
    have : i < l.length := by simpa using h1
    simp; omega
theorem lastB_full (l : List UInt8) (k : Nat) (h : l.length = k) : lastB l k = u8cells l := by
  unfold lastB u8cells
  apply Array.ext
  · simp
  · intro i h1 h2
    have h3 : i < l.length := by simpa using h1
    simp [h3, ← h]
theorem lastB_size (l : List UInt8) (k : Nat) : (lastB l k).size = l.length := by simp [lastB]
theorem lim_byte (m i : Nat) (hi : i < 32) : lim m (i / 8) / 2 ^ (8 * (i % 8)) % 256 = m / 256 ^ i % 256 := by
  have e3 : (256 : Nat) ^ i = W64 ^ (i / 8) * 2 ^ (8 * (i % 8)) := by
    have h16 : (256 : Nat) = 2 ^ 8 := rfl
    have hW : W64 = 2 ^ 64 := rfl
    rw [h16, hW, ← Nat.pow_mul, ← Nat.pow_mul, ← Nat.pow_add]
    congr 1
    omega
  rw [e3, ← Nat.div_div_eq_div_mul]
  unfold lim
  generalize m / W64 ^ (i / 8) = q
  have hW : W64 = 2 ^ (8 * (i % 8)) * (256 * 2 ^ (56 - 8 * (i % 8))) := by
    have h16 : (256 : Nat) = 2 ^ 8 := rfl
    rw [h16, ← Nat.pow_add, ← Nat.pow_add, show 8 * (i % 8) + (8 + (56 - 8 * (i % 8))) = 64 by omega]
    rfl
  rw [hW, Nat.mod_mul_right_div_self, Nat.mod_mul_right_mod]
theorem byB_length (m L : Nat) : (byB m L).length = L := by simp [byB]
theorem byB_at (m L j : Nat) (h : j < L) : (byB m L).getD j 0 = UInt8.ofNat (m / 256 ^ (L - 1 - j) % 256) := by simp [byB, h]

theorem byteOf (m i : Nat) (hm : m < T) (hi : i < 32) : ∃ d : Nat, ((lim m (i / 8) : Nat) / 2 ^ (8 * (i % 8)) % 256 : Int) = (d : Int) ∧ d < 256 ∧ d = m / 256 ^ i % 256 := by
  refine ⟨m / 256 ^ i % 256, ?_, by omega, rfl⟩
  have e1 : ((lim m (i / 8) : Nat) / 2 ^ (8 * (i % 8)) : Int) = ((lim m (i / 8) / 2 ^ (8 * (i % 8)) : Nat) : Int) := by push_cast; rfl
  rw [e1, ← lim_byte m i hi]
  generalize lim m (i / 8) / 2 ^ (8 * (i % 8)) = q
  omega

set_option maxHeartbeats 400000 in
theorem Bytes_any (m : Nat) (w : World) (hm : m < T) :
    Calls Tryd.prog 70 #[uval m] w fun e w' => e = .returned (.agg (u8cells (byB m 32))) ∧ Below w.heap.size w w' := by
  unfold uval
  go_enter Tryd.func70, Tryd.ntmps70
  go_wp2
  generalize hl : byB m 32 = l
  have hll : l.length = 32 := by rw [← hl]; simp [byB]
  have HL := Lib.hid (And.intro hl hll); clear hl hll
  go_loopw [5] (fun i wr => ∃ k : Nat, k ≤ 32 ∧ i = .int .i64 k ∧ Blk wr w.heap.size 62 (ucells m) ∧ Blk wr (w.heap.size + 1) 37 (lastB l 0) ∧ Blk wr (w.heap.size + 1 + 1) 37 (lastB l k) ∧ Below w.heap.size w wr) (fun i _ => 32 - (intOf i).toNat)
  case atStart =>
    have z : lastB l 0 = Array.replicate 32 (.int .u8 0) := by rw [lastB_zero, HL.out.2]
    rw [z]
    refine ⟨0, Nat.zero_le _, rfl, ((Blk.newAt _ _ _ rfl).alloc _).alloc _, ((Blk.newAt _ _ _ ?_).alloc _).to ?_, (Blk.newAt _ _ _ ?_).to ?_, (((Below.refl _ _).alloc (by omega) _).alloc (by simp) _).alloc (by simp; omega) _⟩ <;> first | (simp; done) | kernel_rfl
  case round =>
    obtain ⟨k, hk, rfl, h1, h0, h2, hb⟩ := hrel
    by_cases hlt : k < 32
    · obtain ⟨p, hp⟩ : ∃ p, p = 31 - k := ⟨_, rfl⟩
      have hp' : (31 : Int) - (k : Int) = (p : Int) := by omega
      have c1 := blk_get h1 (k / 8) _ (ucells_at m (k / 8) (by omega))
      have f2 := h2.frozen p
      obtain ⟨d, hd, hd16, hdl⟩ := byteOf m k hm (by omega)
      obtain ⟨v2, hv2⟩ := lastB_at l k p (by have := HL.out.2; omega)
      have c2 := blk_get h2 p _ hv2
      have H := Lib.hid (And.intro h1 (And.intro h0 (And.intro h2 (And.intro hb (And.intro hp hdl))))); clear h1 h0 h2 hb hp hv2 hdl
      go_wp2
      obtain ⟨h1, h0, h2, hb, hp, hdl⟩ := H.out
      have hl := HL.out
      go_roundw
      case rel =>
        refine ⟨k + 1, by omega, by go_num, h1.far (by omega) _, h0.far (by omega) _, (h2.set_ p _).to ?_, hb.setCell (by simp; omega) _⟩
        have e : (d : Int) = ((l.getD p 0).toNat : Int) := by
          rw [← hl.1, byB_at m 32 p (by omega), hdl, hp, show 32 - 1 - (31 - k) = k by omega]
          have : m / 256 ^ k % 256 < 256 := Nat.mod_lt _ (by decide)
          simp
        rw [e]
        exact lastB_set l k p (by omega)
      case measure => simp [intOf]; omega
    · obtain rfl : k = 32 := by omega
      have hl := HL.out
      rw [lastB_full l 32 hl.2] at h2
      have s0 : (lastB l 0).size = 32 := by rw [lastB_size, hl.2]
      have s2 : (u8cells l).size = 32 := by simp [u8cells, hl.2]
      have a2 : (u8cells l).all (·.oneCell') = true := by simp [u8cells, Value.oneCell']
      have i2 : (Tryd.prog.info? 37).map (·.size) = some (u8cells l).size := by rw [s2]; kernel_rfl
      have H := Lib.hid (And.intro hb (And.intro h2 h0)); clear h1 h0 h2 hb hl
      go_wp2_with (first | with_reducible refine wl_row H.out.2.1 _ _ rfl rfl rfl _ _ Tryd.underlying37 i2 ?_ | with_reducible refine ws_row H.out.2.2 _ _ _ _ rfl rfl rfl rfl i2 (s0.trans s2.symm) a2 ?_)
      obtain ⟨hb, h2, h0⟩ := H.out
      refine bodyPost_ret (v := .agg (u8cells l)) ?_ rfl ⟨by rw [HL.out.1], below_setRow hb (by omega) _⟩
      exact results_cell_row rfl _ _ _ _ _ _ _ rfl (h0.row _) Tryd.underlying37 rfl i2
end Go.Proofs.YtfebknplkbeblaaDoor
