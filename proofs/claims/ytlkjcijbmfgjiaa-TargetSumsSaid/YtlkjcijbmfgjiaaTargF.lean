/- The awake of florinlaw05. -/
import Derived.Test.YtlkjcijbmfgjiaaTargE
namespace Go.Proofs.Ytlkjcijbmfgjiaa
open Go.RowKit
set_option linter.unusedVariables false
set_option maxRecDepth 100000 in
set_option maxHeartbeats 1000000 in
theorem Awake05 (w : World) : Calls Try.prog 12 #[] w fun e w' => e = .returned (.bool true) ∧ Below w.heap.size w w' := by
  obtain ⟨t, ht⟩ : ∃ t, t = 65535 * 2 ^ 208 := ⟨_, rfl⟩
  have htT : t < T := by rw [ht]; decide +kernel
  have c1 := fun w => Expand_any 486604799 t 0 (by omega) (by rw [ht]; decide +kernel) w
  have c2 := fun w => Of_any 65535 w (by unfold W64; omega)
  have c3 := fun w => Shl_any 65535 208 w (by decide +kernel) (by omega)
  rw [show shlN 65535 208 = t by rw [ht]; decide +kernel] at c3
  have c4 := fun w => Shrink_any t 486604799 htT (by rw [ht]; decide +kernel) w
  have c5 := fun w => Work_any 545259519 (by omega) w
  rw [show workR 545259519 = 2 by decide +kernel] at c5
  have c6 := fun w => Of_any 2 w (by unfold W64; omega)
  have q1 := fun w => eqU t t true htT htT (by simp) w
  have q2 := fun w => eqU 2 2 true (by decide +kernel) (by decide +kernel) (by simp) w
  generalize shlB 65535 208 = lost at c3
  unfold uval at c1 c2 c3 c4 c5 c6
  clear ht htT
  go_enter Try.func12, Try.ntmps12
  go_wp2_with fail
  refine (c1 _).mono ?_
  rintro e w1 ⟨rfl, hb1⟩
  have bb := ba hb1 (.cells #[.int .u64 (lim t 0), .int .u64 (lim t 1), .int .u64 (lim t 2), .int .u64 (lim t 3)] 26)
  have B1 : Blk (w1.alloc (.cells #[.int .u64 (lim t 0), .int .u64 (lim t 1), .int .u64 (lim t 2), .int .u64 (lim t 3)] 26)) w1.heap.size 26 #[.int .u64 (lim t 0), .int .u64 (lim t 1), .int .u64 (lim t 2), .int .u64 (lim t 3)] := Blk.newAt w1 _ #[.int .u64 (lim t 0), .int .u64 (lim t 1), .int .u64 (lim t 2), .int .u64 (lim t 3)] rfl
  clear hb1
  go_wp2_with fail
  refine (c2 _).mono ?_
  rintro e w2 ⟨rfl, hb1⟩
  replace B1 := B1.calls hb1
  replace bb := bt bb hb1
  clear hb1
  go_wp2_with fail
  refine (c3 _).mono ?_
  rintro e w3 ⟨rfl, hb1⟩
  replace B1 := (B1.calls hb1).alloc (.cells #[.int .u64 (lim t 0), .int .u64 (lim t 1), .int .u64 (lim t 2), .int .u64 (lim t 3)] 26)
  replace bb := ba (bt bb hb1) (.cells #[.int .u64 (lim t 0), .int .u64 (lim t 1), .int .u64 (lim t 2), .int .u64 (lim t 3)] 26)
  clear hb1
  have d0 := blk_get B1 0 _ rfl; have d1 := blk_get B1 1 _ rfl; have d2 := blk_get B1 2 _ rfl; have d3 := blk_get B1 3 _ rfl
  have BB := Lib.hid bb
  clear bb
  go_wp2_with fail
  refine (c4 _).mono ?_
  rintro e w4 ⟨rfl, hb1⟩
  have B4 := bt BB.out hb1
  clear hb1
  go_wp2_with fail
  refine (c5 _).mono ?_
  rintro e w5 ⟨rfl, hb1⟩
  replace B4 := bt B4 hb1
  clear hb1
  go_wp2_with fail
  refine (c6 _).mono ?_
  rintro e w6 ⟨rfl, hb1⟩
  replace B4 := bt B4 hb1
  clear hb1
  go_wp2
  go_ret
  exact ⟨rfl, B4⟩
end Go.Proofs.Ytlkjcijbmfgjiaa
