/- The document's SHA-2: a block that is none. -/
import Derived.Test.YtfebknplkbeblaaDoorRefT
import Derived.Test.YtfebknplkbeblaaDoorShaD
namespace Go.Proofs.YtfebknplkbeblaaDoor
open Go.RowKit
set_option linter.unusedVariables false
set_option maxRecDepth 100000 in
set_option maxHeartbeats 400000 in
theorem RBlock_short (h : List Wd) (hh : h.length = 8) (a : Option Addr) (n c : Nat) (hn : n ≠ 64) (hn2 : n ≤ 9223372036854775807) (w : World) :
    Calls Tryd.prog 34 #[.agg (u32c h), .slice a n c] w fun e w' => e = .returned (.agg (u32c h)) ∧ Below w.heap.size w w' := by
  have hne : ((n : Int) != 64) = true := by simp; omega
  have s2 : (u32c h).size = 8 := by rw [u32c_size, hh]
  have i2 := is8 (u32c h) s2
  have s0 : (padW 8 []).size = (u32c h).size := by rw [s2]; exact padW_size 8 [] (by simp)
  rw [z8_cells] at s0
  have a2 := u32c_one h
  have HL := Lib.hid hh; clear hh hn s2
  go_enter Tryd.func34, Tryd.ntmps34
  go_wp2_with (first | with_reducible refine wl_row ((Blk.newAt w _ (u32c h) rfl).alloc _) _ _ rfl rfl rfl _ _ Tryd.underlying25 i2 ?_ | with_reducible refine ws_row (Blk.second w _ _ _) _ _ _ _ rfl rfl rfl rfl i2 s0 a2 ?_)
  refine bodyPost_ret (v := .agg (u32c h)) ?_ rfl ⟨rfl, setRow_below (((Below.refl _ _).alloc (Nat.le_refl _) _).alloc (by simp) _) (by omega) _⟩
  exact results_row rfl _ _ _ _ _ rfl ((Blk.second w _ _ _).row _) Tryd.underlying25 i2
end Go.Proofs.YtfebknplkbeblaaDoor
