/- The sum of 'abc'; awake of florinlaw02. -/
import Derived.Test.YtfebknplkbeblaaDoorShaN
import Derived.Lib.SlBytesConst
namespace Go.Proofs.YtfebknplkbeblaaDoor
open Go.RowKit
set_option linter.unusedVariables false
set_option maxRecDepth 100000 in
theorem abc_sum : sumOf [97, 98, 99] = [0xba, 0x78, 0x16, 0xbf, 0x8f, 0x01, 0xcf, 0xea, 0x41, 0x41, 0x40, 0xde, 0x5d, 0xae, 0x22, 0x23, 0xb0, 0x03, 0x61, 0xa3, 0x96, 0x17, 0x7a, 0x9c, 0xb4, 0x10, 0xff, 0x61, 0xf2, 0x00, 0x15, 0xad] := by
  decide +kernel
theorem abc_at : (u8cells (sumOf [97, 98, 99]))[0]? = some (.int .u8 186) ∧ (u8cells (sumOf [97, 98, 99]))[1]? = some (.int .u8 120) ∧ (u8cells (sumOf [97, 98, 99]))[31]? = some (.int .u8 173) := by
  rw [abc_sum]
  exact ⟨rfl, rfl, rfl⟩
set_option maxRecDepth 100000 in
set_option maxHeartbeats 1000000 in
theorem Awake02 (w : World) (hL : Laid w) : Calls Tryd.prog 13 #[] w fun e w' => e = .returned (.bool true) ∧ Below w.heap.size w w' := by
  have HL := Lib.hid hL; clear hL
  obtain ⟨C, hC⟩ : ∃ C, C = u8cells (sumOf [97, 98, 99]) := ⟨_, rfl⟩
  obtain ⟨e0, e1, e2⟩ := abc_at
  rw [← hC] at e0 e1 e2
  have sC : C.size = 32 := by rw [hC, u8cells_size]; exact sumOf_length _
  have iC : (Tryd.prog.info? 38).map (·.size) = some C.size := by rw [sC]; kernel_rfl
  have aC : C.all (·.oneCell') = true := by rw [hC]; exact u8cells_one _
  have E := Lib.hid (And.intro hC (And.intro e0 (And.intro e1 e2))); clear hC e0 e1 e2
  have hcv := Lib.run_convert_bytes_const (P := Tryd.prog) w 26 5 #[.int .u8 97, .int .u8 98, .int .u8 99] 3 3 Tryd.underlying26 Tryd.underlying5
  go_enter Tryd.func13, Tryd.ntmps13
  go_wp2_with fail
  refine (Sum_any _ [97, 98, 99] 3 3 rfl (by omega) (by omega) (fun h => by cases h) _ (.inr ⟨w.heap.size, 0, rfl, by simp, fun i hi => ?_⟩) (HL.out.below (ba (Below.refl _ _) _) (Nat.le_refl _))).mono ?_
  · rw [World.cell?_alloc_mark]
    rcases (show i = 0 ∨ i = 1 ∨ i = 2 by simp at hi; omega) with rfl | rfl | rfl <;> rfl
  rintro e w1 ⟨rfl, hb1⟩
  rw [← E.out.1]
  have AB : Below w.heap.size w w1 := bt (ba (Below.refl _ _) _) hb1
  clear hb1
  have N : Blk _ w1.heap.size 38 #[.int .u8 0, .int .u8 0, .int .u8 0, .int .u8 0, .int .u8 0, .int .u8 0, .int .u8 0, .int .u8 0, .int .u8 0, .int .u8 0, .int .u8 0, .int .u8 0, .int .u8 0, .int .u8 0, .int .u8 0, .int .u8 0, .int .u8 0, .int .u8 0, .int .u8 0, .int .u8 0, .int .u8 0, .int .u8 0, .int .u8 0, .int .u8 0, .int .u8 0, .int .u8 0, .int .u8 0, .int .u8 0, .int .u8 0, .int .u8 0, .int .u8 0, .int .u8 0] := Blk.new w1 38 #[.int .u8 0, .int .u8 0, .int .u8 0, .int .u8 0, .int .u8 0, .int .u8 0, .int .u8 0, .int .u8 0, .int .u8 0, .int .u8 0, .int .u8 0, .int .u8 0, .int .u8 0, .int .u8 0, .int .u8 0, .int .u8 0, .int .u8 0, .int .u8 0, .int .u8 0, .int .u8 0, .int .u8 0, .int .u8 0, .int .u8 0, .int .u8 0, .int .u8 0, .int .u8 0, .int .u8 0, .int .u8 0, .int .u8 0, .int .u8 0, .int .u8 0, .int .u8 0]
  have s1 : (Array.size (#[.int .u8 0, .int .u8 0, .int .u8 0, .int .u8 0, .int .u8 0, .int .u8 0, .int .u8 0, .int .u8 0, .int .u8 0, .int .u8 0, .int .u8 0, .int .u8 0, .int .u8 0, .int .u8 0, .int .u8 0, .int .u8 0, .int .u8 0, .int .u8 0, .int .u8 0, .int .u8 0, .int .u8 0, .int .u8 0, .int .u8 0, .int .u8 0, .int .u8 0, .int .u8 0, .int .u8 0, .int .u8 0, .int .u8 0, .int .u8 0, .int .u8 0, .int .u8 0] : Array Value)) = C.size := by rw [sC]; rfl
  have R := N.row C
  have c0 := blk_get R 0 _ E.out.2.1
  have c1 := blk_get R 1 _ E.out.2.2.1
  have c2 := blk_get R 31 _ E.out.2.2.2
  have RB := setRow_below (ba AB (.cells #[.int .u8 0, .int .u8 0, .int .u8 0, .int .u8 0, .int .u8 0, .int .u8 0, .int .u8 0, .int .u8 0, .int .u8 0, .int .u8 0, .int .u8 0, .int .u8 0, .int .u8 0, .int .u8 0, .int .u8 0, .int .u8 0, .int .u8 0, .int .u8 0, .int .u8 0, .int .u8 0, .int .u8 0, .int .u8 0, .int .u8 0, .int .u8 0, .int .u8 0, .int .u8 0, .int .u8 0, .int .u8 0, .int .u8 0, .int .u8 0, .int .u8 0, .int .u8 0] 38)) (show w.heap.size ≤ w1.heap.size from AB.size) C
  have A := Lib.hid (And.intro AB (And.intro N RB)); clear AB N R RB sC
  go_wp2_with (with_reducible refine ws_row A.out.2.1 _ _ _ _ rfl rfl rfl rfl iC s1 aC ?_)
  go_ret
  exact ⟨rfl, A.out.2.2⟩
end Go.Proofs.YtfebknplkbeblaaDoor
