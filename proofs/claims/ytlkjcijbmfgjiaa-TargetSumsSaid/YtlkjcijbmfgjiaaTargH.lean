/- TargetBack: its walk (0 only; not done). -/
import Derived.Test.YtlkjcijbmfgjiaaTargG
import Derived.Test.YtlkjcijbmfgjiaaTargLaw
namespace Go.Proofs.Ytlkjcijbmfgjiaa
open Go.RowKit
set_option linter.unusedVariables false
set_option maxRecDepth 100000 in
set_option maxHeartbeats 1000000 in
theorem Back_zero (w : World) : Calls Try.prog 3 #[uval 0] w fun e w' => e = .returned (.bool true) ∧ Below w.heap.size w w' := by
  have hs := (show shrR 0 = 0 from rfl)
  have he : expR 0 = (0, 7) := by decide +kernel
  unfold uval
  go_enter Try.func3, Try.ntmps3
  go_wp2_with fail
  refine (Awake05 _).mono ?_
  rintro e w1 ⟨rfl, hb⟩
  have q_a : Blk w1 (w.heap.size) 24 (ucells 0) := (Blk.newAt _ _ (ucells 0) rfl).calls hb
  have bb := bt (ba (Below.refl w.heap.size w) _) hb
  replace l_a := q_a.lt
  clear hb
  have c_a := cl4 q_a
  go_wp2_with fail
  refine (Our05_any 0 _).mono ?_
  rintro e w2 ⟨rfl, hb⟩
  simp only [uval]
  clear c_a
  replace q_a : Blk w2 (w.heap.size) 24 (ucells 0) := q_a.calls hb
  replace bb := bt bb hb
  replace l_a := q_a.lt
  clear hb
  go_wp2_with fail
  refine (Shrink_any 0 0 (by decide) hs _).mono ?_
  rintro e w3 ⟨rfl, hb⟩
  simp only [uval]
  replace q_a : Blk w3 (w.heap.size) 24 (ucells 0) := (q_a.alloc _).calls hb
  have q_x : Blk w3 (w2.heap.size) 26 (ucells 0) := (Blk.newAt w2 _ (ucells 0) rfl).calls hb
  replace bb := bt (ba bb _) hb
  replace l_a := q_a.lt
  replace l_x := q_x.lt
  clear hb
  go_wp2_with fail
  refine (Expand_any 0 0 7 (by omega) he _).mono ?_
  rintro e w4 ⟨rfl, hb⟩
  simp only [uval]
  replace q_a : Blk w4 (w.heap.size) 24 (ucells 0) := q_a.calls hb
  replace q_x : Blk w4 (w2.heap.size) 26 (ucells 0) := q_x.calls hb
  replace bb := bt bb hb
  replace l_a := q_a.lt
  replace l_x := q_x.lt
  clear hb
  have q0 := fun w => eqU0 0 true (by decide) (by simp) w
  have c_x := cl4 q_x
  go_wp2
  go_ret
  exact ⟨rfl, (ba bb _)⟩
end Go.Proofs.Ytlkjcijbmfgjiaa
