/- A text of 64 digits is read as a hash. -/
import Derived.Test.YtfebknplkbeblaaDoorHashC
namespace Go.Proofs.YtfebknplkbeblaaDoor
open Go.RowKit
set_option linter.unusedVariables false

theorem hx_dg (d : Nat) (h : d < 16) : dg (hx d).toNat = some d ∧ (hx d).toNat < 128 := by
  have all : ∀ d : Fin 16, dg (hx d.val).toNat = some d.val ∧ (hx d.val).toNat < 128 := by decide +kernel
  exact all ⟨d, h⟩
/-- What digit number i of a hash is worth. -/
def hdig (l : List UInt8) (i : Nat) : Nat := if i % 2 = 0 then (l.getD (31 - i / 2) 0).toNat / 16 else (l.getD (31 - i / 2) 0).toNat % 16
theorem hdig_lt (l : List UInt8) (i : Nat) : hdig l i < 16 := by
  have := (l.getD (31 - i / 2) 0).toNat_lt
  unfold hdig
  split <;> omega
theorem hexT_at (l : List UInt8) (i : Nat) (h : i < 64) : (hexT l).getD i 0 = hx (hdig l i) := by
  unfold hdig
  simp only [hexT, List.getD, List.getElem?_map, List.getElem?_range h, Option.map_some, Option.getD_some]
  split <;> rfl
/-- What has been read of a hash behind k digits. -/
def readV (l : List UInt8) (k j : Nat) : Nat := if 32 ≤ j + k / 2 then (l.getD j 0).toNat else if j + k / 2 = 31 ∧ k % 2 = 1 then (l.getD j 0).toNat / 16 else 0
def readC (l : List UInt8) (k : Nat) : Array Value := ((List.range 32).map fun j => Value.int .u8 (readV l k j)).toArray
theorem readC_at (l : List UInt8) (k j : Nat) (h : j < 32) : (readC l k)[j]? = some (.int .u8 (readV l k j)) := by
  simp [readC, h]
theorem readC_full (l : List UInt8) (hl : l.length = 32) : readC l 64 = u8cells l := by
  unfold readC u8cells
  apply Array.ext
  · simp [hl]
  · intro i h1 h2
    have h3 : i < l.length := by simpa using h2
    have h4 : 32 ≤ i + 64 / 2 := by omega
    simp [readV, h3, h4]
theorem readC_zero (l : List UInt8) : readC l 0 = u8cells zeroH := by
  have e : readC l 0 = Array.replicate 32 (.int .u8 0) := by
    unfold readC
    apply Array.ext
    · simp
    · intro i h1 h2
      have h3 : i < 32 := by simpa using h2
      have n2 : ¬ 32 ≤ i := by omega
      simp [readV, n2]
  have e2 : u8cells zeroH = Array.replicate 32 (.int .u8 0) := by kernel_rfl
  rw [e, e2]
theorem readV_step (l : List UInt8) (k : Nat) (h : k < 64) : readV l (k + 1) (31 - k / 2) = readV l k (31 - k / 2) * 16 + hdig l k ∧ readV l k (31 - k / 2) < 16 := by
  have h0 := (l.getD (31 - k / 2) 0).toNat_lt
  unfold readV hdig
  by_cases e : k % 2 = 0
  · have a1 : ¬ 32 ≤ 31 - k / 2 + (k + 1) / 2 := by omega
    have a2 : 31 - k / 2 + (k + 1) / 2 = 31 ∧ (k + 1) % 2 = 1 := by omega
    have a3 : ¬ 32 ≤ 31 - k / 2 + k / 2 := by omega
    have a4 : ¬ (31 - k / 2 + k / 2 = 31 ∧ k % 2 = 1) := by omega
    rw [if_neg a1, if_pos a2, if_neg a3, if_neg a4, if_pos e]
    omega
  · have a1 : 32 ≤ 31 - k / 2 + (k + 1) / 2 := by omega
    have a3 : ¬ 32 ≤ 31 - k / 2 + k / 2 := by omega
    have a4 : (31 - k / 2 + k / 2 = 31 ∧ k % 2 = 1) := by omega
    rw [if_pos a1, if_neg a3, if_pos a4, if_neg e]
    omega
theorem readV_other (l : List UInt8) (k j : Nat) (h : k < 64) (hj : j < 32) (hne : j ≠ 31 - k / 2) : readV l (k + 1) j = readV l k j := by
  unfold readV
  by_cases a : 32 ≤ j + k / 2
  · rw [if_pos a, if_pos (by omega)]
  · rw [if_neg a, if_neg (by omega), if_neg (by omega), if_neg (by omega)]
theorem readC_set (l : List UInt8) (k v : Nat) (h : k < 64) (hv : v = readV l (k + 1) (31 - k / 2)) : (readC l k).setIfInBounds (31 - k / 2) (.int .u8 v) = readC l (k + 1) := by
  subst hv
  unfold readC
  apply Array.ext
  · simp
  · intro i h1 h2
    have h3 : i < 32 := by simpa using h2
    simp only [List.setIfInBounds_toArray, List.getElem_toArray, List.getElem_set, List.getElem_map, List.getElem_range]
    by_cases e : 31 - k / 2 = i
    · rw [if_pos e, e]
    · rw [if_neg e, readV_other l k i h h3 (Ne.symm e)]
theorem bstr_size (l : List UInt8) : (bstr l).size = l.length := by simp [bstr, ByteArray.size]
theorem bstr_at (l : List UInt8) (i : Nat) (h : i < (bstr l).size) : (bstr l)[i]'h = l.getD i 0 := by
  have h2 : i < l.length := by rw [← bstr_size]; exact h
  have e : (bstr l)[i]'h = l.toArray[i]'(by simpa using h2) := rfl
  rw [e]
  simp [h2]
theorem It.pos {w : World} {g : Nat} {s : ByteArray} {p : Nat} (h : It w g s p) : w.iterPos g = p := by
  unfold It at h
  simp [World.iterPos, h]
theorem put_digit (a d : Nat) (ha : a < 16) (hd : d < 16) : bits .or .u8 (IntKind.u8.wrap ((a : Int) * 2 ^ 4)) (d : Int) = ((a * 16 + d : Nat) : Int) := by
  have w1 : IntKind.u8.wrap ((a : Int) * 2 ^ 4) = ((a * 16 : Nat) : Int) := by simp [IntKind.wrap, IntKind.signed, IntKind.bits]; omega
  rw [w1, u8_or_nat _ _ (by omega) (by omega)]
  congr 1
  have e := Nat.shiftLeft_add_eq_or_of_lt (a := a) (b := d) (i := 4) (by omega)
  rw [Nat.shiftLeft_eq] at e
  rw [show a * 16 = a * 2 ^ 4 from rfl, ← e]

theorem put_digit2 (a d : Nat) (ha : a < 16) (hd : d < 16) : bits .or .u8 ((a : Int) * 16) (d : Int) = ((a * 16 + d : Nat) : Int) := by
  have e : (a : Int) * 16 = ((a * 16 : Nat) : Int) := by push_cast; rfl
  rw [e, u8_or_nat _ _ (by omega) (by omega)]
  congr 1
  have e := Nat.shiftLeft_add_eq_or_of_lt (a := a) (b := d) (i := 4) (by omega)
  rw [Nat.shiftLeft_eq] at e
  rw [show a * 16 = a * 2 ^ 4 from rfl, ← e]
theorem hashDigit_hx (d : Nat) (h : d < 16) (w : World) : Calls Tryd.prog 67 #[.int .i32 (hx d).toNat] w fun e w' => e = .returned (.tuple #[.int .u8 d, .bool true]) ∧ w' = w := by
  have h1 := hx_dg d h
  have h2 := hashDigit_any (hx d).toNat (by omega) w
  rw [h1.1] at h2
  exact h2
set_option maxHeartbeats 400000 in
theorem Parse_text (l : List UInt8) (hl : l.length = 32) (w : World) :
    Calls Tryd.prog 42 #[.string (bstr (hexT l))] w fun e w' => e = .returned (.tuple #[.agg (u8cells l), .int .i64 0]) ∧ Below w.heap.size w w' := by
  have hsz : (bstr (hexT l)).size = 64 := by rw [bstr_size, hexT_length]
  have hit : ∀ w' g k (ty : TypeId), k < 64 → It w' g (bstr (hexT l)) k → (Instr.next (.pointer (some ⟨g, 0, none⟩)) true ty).run Tryd.prog w' = .ok (.tuple #[.bool true, .int .i64 k, .int .i32 (hx (hdig l k)).toNat]) (setIt w' g (bstr (hexT l)) (k + 1)) := by
    intro w' g k ty hk hi
    have h1 : k < (bstr (hexT l)).size := by omega
    have h2 : (bstr (hexT l))[k]'h1 = hx (hdig l k) := by rw [bstr_at, hexT_at l k hk]
    have h3 := next_one (P := Tryd.prog) hi ty h1 (by rw [h2]; exact (hx_dg _ (hdig_lt l k)).2)
    rw [h2] at h3
    exact h3
  have hie : ∀ w' g (ty : TypeId), It w' g (bstr (hexT l)) 64 → (Instr.next (.pointer (some ⟨g, 0, none⟩)) true ty).run Tryd.prog w' = .ok (.tuple #[.bool false]) w' := fun w' g ty hi => next_end hi _ (by omega)
  generalize bstr (hexT l) = s at *
  have HI := Lib.hid (And.intro hit hie); clear hit hie
  go_enter Tryd.func42, Tryd.ntmps42
  go_wp2
  go_loopw [16] (fun _ wr => ∃ k : Nat, k ≤ 64 ∧ It wr (w.heap.size + 1 + 1) s k ∧ Blk wr w.heap.size 38 (u8cells zeroH) ∧ Blk wr (w.heap.size + 1) 38 (readC l k) ∧ Below w.heap.size w wr) (fun _ wr => 64 - wr.iterPos (w.heap.size + 1 + 1))
  case atStart =>
    refine ⟨0, by omega, It.newAt _ _ _ (by simp), ?_, ?_, ?_⟩
    · rw [zeroH_cells]; exact ((Blk.newAt _ _ _ rfl).alloc _).alloc _
    · rw [readC_zero, zeroH_cells]; exact (Blk.newAt _ _ _ (by simp)).alloc _
    · exact (((Below.refl _ _).alloc (Nat.le_refl _) _).alloc (by simp) _).alloc (by simp; omega) _
  case round =>
    obtain ⟨k, hk, hi, h0, h1, hb⟩ := hrel
    by_cases hlt : k < 64
    · have hn1 := fun ty => HI.out.1 wr (w.heap.size + 1 + 1) k ty hlt hi
      generalize hd : hdig l k = d at *
      have hd16 : d < 16 := by rw [← hd]; exact hdig_lt l k
      obtain ⟨p, hp⟩ : ∃ p, p = 31 - k / 2 := ⟨_, rfl⟩
      have hp' : (31 : Int) - (k : Int) / 2 = (p : Int) := by omega
      have hp32 : p < 32 := by omega
      obtain ⟨hv, hv16⟩ := readV_step l k hlt
      rw [← hp, hd] at hv
      rw [← hp] at hv16
      obtain ⟨a, ha⟩ : ∃ a, a = readV l k p := ⟨_, rfl⟩
      rw [← ha] at hv hv16
      have g1 : Blk (setIt wr (w.heap.size + 1 + 1) s (k + 1)) (w.heap.size + 1) 38 (readC l k) := h1.setIt (by omega)
      have g0 : Blk (setIt wr (w.heap.size + 1 + 1) s (k + 1)) w.heap.size 38 (u8cells zeroH) := h0.setIt (by omega)
      have gi : It (setIt wr (w.heap.size + 1 + 1) s (k + 1)) (w.heap.size + 1 + 1) s (k + 1) := hi.set (k + 1)
      have gb : Below w.heap.size w (setIt wr (w.heap.size + 1 + 1) s (k + 1)) := below_setIt hb (by omega)
      have c1 := blk_get g1 p _ (readC_at l k p hp32)
      rw [← ha] at c1
      have f1 := g1.frozen p
      have pd := put_digit2 a d hv16 hd16
      have pos0 := hi.pos
      have pos1 := gi.pos
      have H := Lib.hid (And.intro gi (And.intro g0 (And.intro g1 (And.intro gb (And.intro hp (And.intro ha hv)))))); clear hi h0 h1 hb gi g0 g1 gb hp ha hv
      generalize setIt wr (w.heap.size + 1 + 1) s (k + 1) = wi at *
      go_wp2_with (go_at_call 67; refine (hashDigit_hx d hd16 _).mono ?_; rintro e w' ⟨rfl, rfl⟩)
      obtain ⟨gi, g0, g1, gb, hp, ha, hv⟩ := H.out
      go_roundw
      case rel =>
        exact ⟨k + 1, by omega, gi.far (by omega) _, g0.far (by omega) _, (g1.set_ p _).to (by rw [hp]; exact readC_set l k _ hlt (by rw [← hp]; exact hv.symm)), gb.setCell (by simp) _⟩
      case measure =>
        rw [(gi.far (b := w.heap.size + 1) (i := p) (by omega) _).pos, pos0]
        omega
    · obtain rfl : k = 64 := by omega
      have hn1 := fun ty => HI.out.2 wr (w.heap.size + 1 + 1) ty hi
      rw [readC_full l hl] at h1
      have s0 : (u8cells zeroH).size = (u8cells l).size := by rw [u8cells_size, u8cells_size, hl]; rfl
      have a2 := u8cells_one l
      have i2 := isH l hl
      have hlv := run_loadVar_row (P := Tryd.prog) _ _ _ _ (u8cells l) (0, 0) _ (h0.row (u8cells l)) Tryd.underlying38 rfl i2
      have H := Lib.hid (And.intro hb (And.intro h1 h0)); clear hi h0 h1 hb
      go_wp2_with (first | with_reducible refine wl_row H.out.2.1 _ _ rfl rfl rfl _ _ Tryd.underlying38 i2 ?_ | with_reducible refine ws_row H.out.2.2 _ _ _ _ rfl rfl rfl rfl i2 s0 a2 ?_)
      obtain ⟨hb, h1, h0⟩ := H.out
      refine bodyPost_ret (v := .tuple #[.agg (u8cells l), .int .i64 0]) ?_ rfl ⟨rfl, below_setRow hb (by omega) _⟩
      simp [results, Tryd.results42, asAddr, hlv]
end Go.Proofs.YtfebknplkbeblaaDoor
