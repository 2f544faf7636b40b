/- A string is ranged over while the world turns; hexadecimal digits. -/
import Derived.Test.YtfebknplkbeblaaDoorRows8
import Derived.Laws.RangeString
import Derived.Laws.RangeAny
import Derived.Test.YtfebknplkbeblaaDoorProg
namespace Go.Proofs.YtfebknplkbeblaaDoor
open Go.RowKit
set_option linter.unusedVariables false

/-- Block g is an iterator over s that stands at p. -/
def It (w : World) (g : Nat) (s : ByteArray) (p : Nat) : Prop := w.heap[g]? = some (.stringIter s p)
def setIt (w : World) (g : Nat) (s : ByteArray) (p : Nat) : World := { w with heap := w.heap.setIfInBounds g (.stringIter s p) }
section
variable {P : Program} {w w' : World} {g : Nat} {s : ByteArray} {p : Nat} {t : TypeId} {cs : Array Value}
theorem It.lt (h : It w g s p) : g < w.heap.size := by
  rcases Nat.lt_or_ge g w.heap.size with hlt | hge
  · exact hlt
  · unfold It at h; rw [Array.getElem?_eq_none hge] at h; cases h
theorem It.calls (h : It w g s p) (hb : Below w.heap.size w w') : It w' g s p := (hb.block g h.lt).trans h
theorem It.below {B : Nat} (h : It w g s p) (hb : Below B w w') (hg : g < B) : It w' g s p := (hb.block g hg).trans h
theorem It.alloc (h : It w g s p) (o : Obj) : It (w.alloc o) g s p := (Below.heap_alloc w o g h.lt).trans h
theorem It.far (h : It w g s p) {b i : Nat} (hp : g ≠ b) (u : Value) : It (w.setCell ⟨b, i, none⟩ u) g s p := (Below.heap_setCell w ⟨b, i, none⟩ u g hp).trans h
theorem It.drewN (h : It w g s p) (n : Nat) : It (w.drewN n) g s p := h
theorem It.set (h : It w g s p) (q : Nat) : It (setIt w g s q) g s q := by
  have := h.lt
  unfold It setIt
  simp [this]
theorem It.new (w : World) (s : ByteArray) (p : Nat) : It (w.iter s p) w.heap.size s p := World.iter_heap w s p
theorem It.newAt (w : World) (s : ByteArray) (p : Nat) {n : Nat} (h : n = w.heap.size) : It (w.iter s p) n s p := h ▸ It.new w s p
theorem setIt_size : (setIt w g s p).heap.size = w.heap.size := by simp [setIt]
theorem Blk.setIt (h : Blk w g t cs) {b : Nat} (hne : g ≠ b) : Blk (setIt w b s p) g t cs := by
  unfold Blk at h ⊢
  simp [Go.Proofs.YtfebknplkbeblaaDoor.setIt, Array.getElem?_setIfInBounds, Ne.symm hne, h]
theorem below_setIt {B : Nat} {w0 : World} (h : Below B w0 w) (hb : B ≤ g) : Below B w0 (setIt w g s p) :=
  h.trans ⟨rfl, rfl, rfl, by simp [setIt], fun k hk => by simp [setIt, Array.getElem?_setIfInBounds, show g ≠ k by omega]⟩
theorem next_at (h : It w g s p) (ty : TypeId) (hp : p < s.size) :
    (Instr.next (.pointer (some ⟨g, 0, none⟩)) true ty).run P w = .ok (.tuple #[.bool true, .int .i64 p, .int .i32 (Utf8.decode s p).1]) (setIt w g s (p + (Utf8.decode s p).2)) := by
  unfold It at h
  simp only [Instr.next, getObj, setObj, Sem.run_bind, Sem.run, h, Result.andThen, hp, if_true]
  simp [goInt, setIt]
theorem next_one (h : It w g s p) (ty : TypeId) (hp : p < s.size) (ha : (s[p]'hp).toNat < 128) :
    (Instr.next (.pointer (some ⟨g, 0, none⟩)) true ty).run P w = .ok (.tuple #[.bool true, .int .i64 p, .int .i32 (s[p]'hp).toNat]) (setIt w g s (p + 1)) := by
  rw [next_at h ty hp, decode_ascii s p hp ha]
theorem next_end (h : It w g s p) (ty : TypeId) (hp : ¬ p < s.size) :
    (Instr.next (.pointer (some ⟨g, 0, none⟩)) true ty).run P w = .ok (.tuple #[.bool false]) w := by
  unfold It at h
  simp [Instr.next, getObj, Sem.run, h, hp]
end

/-- What a hexadecimal digit is worth. -/
def dg (r : Nat) : Option Nat := if 48 ≤ r ∧ r ≤ 57 then some (r - 48) else if 97 ≤ r ∧ r ≤ 102 then some (r - 87) else if 65 ≤ r ∧ r ≤ 70 then some (r - 55) else none
theorem dg_lt {r d : Nat} (h : dg r = some d) : d < 16 := by
  unfold dg at h
  repeat' split at h
  all_goals first | (injection h; omega) | cases h
theorem dg_ascii {r d : Nat} (h : dg r = some d) : r < 128 := by
  unfold dg at h
  repeat' split at h
  all_goals first | omega | cases h

set_option maxHeartbeats 400000 in
theorem hashDigit_any (r : Nat) (hr : r ≤ 2147483647) (w : World) :
    Calls Tryd.prog 67 #[.int .i32 r] w fun e w' => e = .returned (.tuple #[.int .u8 ((dg r).getD 0 : Nat), .bool (dg r).isSome]) ∧ w' = w := by
  go_enter Tryd.func67, Tryd.ntmps67
  rcases (show r < 48 ∨ (48 ≤ r ∧ r ≤ 57) ∨ (57 < r ∧ r < 65) ∨ (65 ≤ r ∧ r ≤ 70) ∨ (70 < r ∧ r < 97) ∨ (97 ≤ r ∧ r ≤ 102) ∨ 102 < r from by omega) with h1 | h1 | h1 | h1 | h1 | h1 | h1
  · have e : dg r = none := by unfold dg; rw [if_neg (by omega), if_neg (by omega), if_neg (by omega)]
    have E := Lib.hid e; clear e
    go_wp2
    exact bodyPost_ret (v := .tuple #[.int .u8 0, .bool false]) (by simp [results, Tryd.results67, go_sem]) rfl ⟨by rw [E.out]; rfl, rfl⟩
  · have e : dg r = some (r - 48) := by unfold dg; rw [if_pos (by omega)]
    have E := Lib.hid e; clear e
    go_wp2
    exact bodyPost_ret (v := .tuple #[.int .u8 ((r - 48 : Nat) : Int), .bool true]) (by simp [results, Tryd.results67, go_sem]; omega) rfl ⟨by rw [E.out]; rfl, rfl⟩
  · have e : dg r = none := by unfold dg; rw [if_neg (by omega), if_neg (by omega), if_neg (by omega)]
    have E := Lib.hid e; clear e
    go_wp2
    exact bodyPost_ret (v := .tuple #[.int .u8 0, .bool false]) (by simp [results, Tryd.results67, go_sem]) rfl ⟨by rw [E.out]; rfl, rfl⟩
  · have e : dg r = some (r - 55) := by unfold dg; rw [if_neg (by omega), if_neg (by omega), if_pos (by omega)]
    have E := Lib.hid e; clear e
    go_wp2
    exact bodyPost_ret (v := .tuple #[.int .u8 ((r - 55 : Nat) : Int), .bool true]) (by simp [results, Tryd.results67, go_sem]; omega) rfl ⟨by rw [E.out]; rfl, rfl⟩
  · have e : dg r = none := by unfold dg; rw [if_neg (by omega), if_neg (by omega), if_neg (by omega)]
    have E := Lib.hid e; clear e
    go_wp2
    exact bodyPost_ret (v := .tuple #[.int .u8 0, .bool false]) (by simp [results, Tryd.results67, go_sem]) rfl ⟨by rw [E.out]; rfl, rfl⟩
  · have e : dg r = some (r - 87) := by unfold dg; rw [if_neg (by omega), if_pos (by omega)]
    have E := Lib.hid e; clear e
    go_wp2
    exact bodyPost_ret (v := .tuple #[.int .u8 ((r - 87 : Nat) : Int), .bool true]) (by simp [results, Tryd.results67, go_sem]; omega) rfl ⟨by rw [E.out]; rfl, rfl⟩
  · have e : dg r = none := by unfold dg; rw [if_neg (by omega), if_neg (by omega), if_neg (by omega)]
    have E := Lib.hid e; clear e
    go_wp2
    exact bodyPost_ret (v := .tuple #[.int .u8 0, .bool false]) (by simp [results, Tryd.results67, go_sem]) rfl ⟨by rw [E.out]; rfl, rfl⟩
end Go.Proofs.YtfebknplkbeblaaDoor
