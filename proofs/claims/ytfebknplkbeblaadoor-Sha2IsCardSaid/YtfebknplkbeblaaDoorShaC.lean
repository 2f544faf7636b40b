/- SHA-256's constants as the program's variables hold them. -/
import Derived.Test.YtfebknplkbeblaaDoorShaB
namespace Go.Proofs.YtfebknplkbeblaaDoor
open Go.RowKit
set_option linter.unusedVariables false

/-- The two tables stand in memory. -/
def Laid (w : World) : Prop := (∀ i, i < 64 → w.cell? ⟨0, i, none⟩ = some (.int .u32 (wn (KC.getD i 0)))) ∧ (∀ i, i < 8 → w.cell? ⟨1, i, none⟩ = some (.int .u32 (wn (HI.getD i 0))))
theorem Laid.lt {w : World} (h : Laid w) : 0 < w.heap.size ∧ 1 < w.heap.size :=
  ⟨World.block_lt_of_cell? w _ (h.1 0 (by omega)), World.block_lt_of_cell? w _ (h.2 0 (by omega))⟩
theorem Laid.below {w w' : World} (h : Laid w) {B : Nat} (hb : Below B w w') (hB : w.heap.size ≤ B) : Laid w' :=
  ⟨fun i hi => (hb.cell (p := ⟨_, i, none⟩) (Nat.lt_of_lt_of_le h.lt.1 hB)).trans (h.1 i hi), fun i hi => (hb.cell (p := ⟨_, i, none⟩) (Nat.lt_of_lt_of_le h.lt.2 hB)).trans (h.2 i hi)⟩
theorem Laid.calls {w w' : World} (h : Laid w) (hb : Below w.heap.size w w') : Laid w' := h.below hb (Nat.le_refl _)
theorem Laid.drewN {w : World} (h : Laid w) (n : Nat) : Laid (w.drewN n) := h

set_option maxHeartbeats 400000 in
theorem Constant_any (i : Nat) (hi : i < 64) (k : Wd) (hk : KC.getD i 0 = k) (w : World) (hL : Laid w) :
    Calls Tryd.prog 18 #[.int .i64 i] w fun e w' => e = .returned (.int .u32 (wn k)) ∧ w' = w := by
  have c := hL.1 i hi
  rw [hk] at c
  have h1 : (i : Int) ≤ 63 := by omega
  clear hL hk
  go_enter Tryd.func18, Tryd.ntmps18
  go_wp2
  go_ret
  exact ⟨rfl, rfl⟩
set_option maxHeartbeats 400000 in
theorem Initial_any (i : Nat) (hi : i < 8) (k : Wd) (hk : HI.getD i 0 = k) (w : World) (hL : Laid w) :
    Calls Tryd.prog 20 #[.int .i64 i] w fun e w' => e = .returned (.int .u32 (wn k)) ∧ w' = w := by
  have c := hL.2 i hi
  rw [hk] at c
  have h1 : (i : Int) ≤ 7 := by omega
  clear hL hk
  go_enter Tryd.func20, Tryd.ntmps20
  go_wp2
  go_ret
  exact ⟨rfl, rfl⟩
set_option maxHeartbeats 400000 in
theorem Constant_no (i : Int) (hi : i < 0 ∨ 63 < i) (w : World) :
    Calls Tryd.prog 18 #[.int .i64 i] w fun e w' => e = .returned (.int .u32 0) ∧ w' = w := by
  go_enter Tryd.func18, Tryd.ntmps18
  by_cases h : i < 0
  · clear hi
    go_wp2
    go_ret
    exact ⟨rfl, rfl⟩
  · have h1 : 63 < i := by omega
    have h0 : decide (i < 0) = false := by simpa using h
    clear hi
    go_wp2
    go_ret
    exact ⟨rfl, rfl⟩
set_option maxHeartbeats 400000 in
theorem Initial_no (i : Int) (hi : i < 0 ∨ 7 < i) (w : World) :
    Calls Tryd.prog 20 #[.int .i64 i] w fun e w' => e = .returned (.int .u32 0) ∧ w' = w := by
  go_enter Tryd.func20, Tryd.ntmps20
  by_cases h : i < 0
  · clear hi
    go_wp2
    go_ret
    exact ⟨rfl, rfl⟩
  · have h1 : 7 < i := by omega
    have h0 : decide (i < 0) = false := by simpa using h
    clear hi
    go_wp2
    go_ret
    exact ⟨rfl, rfl⟩
end Go.Proofs.YtfebknplkbeblaaDoor
