/- What sha2.Block comes to. -/
import Derived.Test.YtfebknplkbeblaaDoorShaC
namespace Go.Proofs.YtfebknplkbeblaaDoor
open Go.RowKit
set_option linter.unusedVariables false

theorem eight (l : List Wd) (h : l.length = 8) : ∃ a b c d e f g i, l = [a, b, c, d, e, f, g, i] := by
  match l, h with
  | [a, b, c, d, e, f, g, i], _ => exact ⟨a, b, c, d, e, f, g, i, rfl⟩
theorem cl8 {w : World} {g : Nat} {t : TypeId} {a b c d e f i j : Wd} (h : Blk w g t (u32c [a, b, c, d, e, f, i, j])) :
    w.cell? ⟨g, 0, none⟩ = some (.int .u32 (wn a)) ∧ w.cell? ⟨g, 1, none⟩ = some (.int .u32 (wn b)) ∧ w.cell? ⟨g, 2, none⟩ = some (.int .u32 (wn c)) ∧ w.cell? ⟨g, 3, none⟩ = some (.int .u32 (wn d)) ∧
    w.cell? ⟨g, 4, none⟩ = some (.int .u32 (wn e)) ∧ w.cell? ⟨g, 5, none⟩ = some (.int .u32 (wn f)) ∧ w.cell? ⟨g, 6, none⟩ = some (.int .u32 (wn i)) ∧ w.cell? ⟨g, 7, none⟩ = some (.int .u32 (wn j)) :=
  ⟨h.cell 0, h.cell 1, h.cell 2, h.cell 3, h.cell 4, h.cell 5, h.cell 6, h.cell 7⟩
/-- v with the first k words of h added. -/
def addW (v h : List Wd) (k : Nat) : List Wd := (List.range 8).map fun j => if j < k then v.getD j 0 + h.getD j 0 else v.getD j 0
theorem addW_length (v h : List Wd) (k : Nat) : (addW v h k).length = 8 := by simp [addW]
theorem addW_at (v h : List Wd) (k : Nat) (hk : k < 8) : (addW v h k).getD k 0 = v.getD k 0 := by simp [addW, hk]
theorem addW_zero (v h : List Wd) (hv : v.length = 8) : addW v h 0 = v := by
  apply List.ext_getElem (by rw [addW_length, hv])
  intro i h1 h2
  simp [addW, List.getD, h2]
theorem addW_full (v h : List Wd) (hv : v.length = 8) (hh : h.length = 8) : addW v h 8 = List.zipWith (· + ·) v h := by
  apply List.ext_getElem (by rw [addW_length, List.length_zipWith, hv, hh]; rfl)
  intro i h1 h2
  have h3 : i < 8 := by rw [addW_length] at h1; exact h1
  simp [addW, List.getD, h3, hv, hh]
theorem addW_set (v h : List Wd) (k : Nat) (hk : k < 8) : (u32c (addW v h k)).setIfInBounds k (.int .u32 (wn (v.getD k 0 + h.getD k 0))) = u32c (addW v h (k + 1)) := by
  apply Array.ext
  · simp [u32c, addW]
  · intro i h1 h2
    have h3 : i < 8 := by simpa [u32c, addW] using h2
    rw [Array.getElem_setIfInBounds (by simpa using h1)]
    by_cases e : k = i
    · subst e
      simp [u32c, addW, hk]
    · rw [if_neg e]
      by_cases h4 : i < k
      · simp [u32c, addW, h4, show i < k + 1 by omega]
      · simp [u32c, addW, h4, show ¬ i < k + 1 by omega]

theorem Blk.second (w : World) (o : Obj) (t : TypeId) (cs : Array Value) : Blk ((w.alloc o).alloc (.cells cs t)) (w.heap.size + 1) t cs := Blk.newAt (w.alloc o) t cs (by rw [World.size_alloc])
set_option maxRecDepth 100000 in
set_option maxHeartbeats 400000 in
theorem Block_short (h : List Wd) (hh : h.length = 8) (a : Option Addr) (n c : Nat) (hn : n ≠ 64) (hn2 : n ≤ 9223372036854775807) (w : World) :
    Calls Tryd.prog 27 #[.agg (u32c h), .slice a n c] w fun e w' => e = .returned (.agg (u32c h)) ∧ Below w.heap.size w w' := by
  have hne : ((n : Int) != 64) = true := by simp; omega
  have s2 : (u32c h).size = 8 := by rw [u32c_size, hh]
  have i2 := is8 (u32c h) s2
  have s0 : (padW 8 []).size = (u32c h).size := by rw [s2]; exact padW_size 8 [] (by simp)
  rw [z8_cells] at s0
  have a2 := u32c_one h
  have HL := Lib.hid hh; clear hh hn s2
  go_enter Tryd.func27, Tryd.ntmps27
  go_wp2_with (first | with_reducible refine wl_row ((Blk.newAt w _ (u32c h) rfl).alloc _) _ _ rfl rfl rfl _ _ Tryd.underlying25 i2 ?_ | with_reducible refine ws_row (Blk.second w _ _ _) _ _ _ _ rfl rfl rfl rfl i2 s0 a2 ?_)
  refine bodyPost_ret (v := .agg (u32c h)) ?_ rfl ⟨rfl, setRow_below (((Below.refl _ _).alloc (Nat.le_refl _) _).alloc (by simp) _) (by omega) _⟩
  exact results_row rfl _ _ _ _ _ rfl ((Blk.second w _ _ _).row _) Tryd.underlying25 i2
end Go.Proofs.YtfebknplkbeblaaDoor
