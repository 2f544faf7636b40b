/- The awake of florinlaw13. -/
import Derived.Test.YtndockjflnicjaaRetD
namespace Go.Proofs.Ytndockjflnicjaa
open Go.RowKit
set_option linter.unusedVariables false
set_option maxRecDepth 100000 in
theorem zeroHeader (w : World) : (zeroValue 29).run Try.prog w = .ok (.agg #[Value.int .u32 0, Value.int .u8 0, Value.int .u8 0, Value.int .u8 0, Value.int .u8 0, Value.int .u8 0, Value.int .u8 0, Value.int .u8 0, Value.int .u8 0, Value.int .u8 0, Value.int .u8 0, Value.int .u8 0, Value.int .u8 0, Value.int .u8 0, Value.int .u8 0, Value.int .u8 0, Value.int .u8 0, Value.int .u8 0, Value.int .u8 0, Value.int .u8 0, Value.int .u8 0, Value.int .u8 0, Value.int .u8 0, Value.int .u8 0, Value.int .u8 0, Value.int .u8 0, Value.int .u8 0, Value.int .u8 0, Value.int .u8 0, Value.int .u8 0, Value.int .u8 0, Value.int .u8 0, Value.int .u8 0, Value.int .u8 0, Value.int .u8 0, Value.int .u8 0, Value.int .u8 0, Value.int .u8 0, Value.int .u8 0, Value.int .u8 0, Value.int .u8 0, Value.int .u8 0, Value.int .u8 0, Value.int .u8 0, Value.int .u8 0, Value.int .u8 0, Value.int .u8 0, Value.int .u8 0, Value.int .u8 0, Value.int .u8 0, Value.int .u8 0, Value.int .u8 0, Value.int .u8 0, Value.int .u8 0, Value.int .u8 0, Value.int .u8 0, Value.int .u8 0, Value.int .u8 0, Value.int .u8 0, Value.int .u8 0, Value.int .u8 0, Value.int .u8 0, Value.int .u8 0, Value.int .u8 0, Value.int .u8 0, .int .u32 0, .int .u32 0, .int .u32 0]) w := by
  have h : (Try.prog.info? 29).map (·.zero) = some (some (.agg #[Value.int .u32 0, Value.int .u8 0, Value.int .u8 0, Value.int .u8 0, Value.int .u8 0, Value.int .u8 0, Value.int .u8 0, Value.int .u8 0, Value.int .u8 0, Value.int .u8 0, Value.int .u8 0, Value.int .u8 0, Value.int .u8 0, Value.int .u8 0, Value.int .u8 0, Value.int .u8 0, Value.int .u8 0, Value.int .u8 0, Value.int .u8 0, Value.int .u8 0, Value.int .u8 0, Value.int .u8 0, Value.int .u8 0, Value.int .u8 0, Value.int .u8 0, Value.int .u8 0, Value.int .u8 0, Value.int .u8 0, Value.int .u8 0, Value.int .u8 0, Value.int .u8 0, Value.int .u8 0, Value.int .u8 0, Value.int .u8 0, Value.int .u8 0, Value.int .u8 0, Value.int .u8 0, Value.int .u8 0, Value.int .u8 0, Value.int .u8 0, Value.int .u8 0, Value.int .u8 0, Value.int .u8 0, Value.int .u8 0, Value.int .u8 0, Value.int .u8 0, Value.int .u8 0, Value.int .u8 0, Value.int .u8 0, Value.int .u8 0, Value.int .u8 0, Value.int .u8 0, Value.int .u8 0, Value.int .u8 0, Value.int .u8 0, Value.int .u8 0, Value.int .u8 0, Value.int .u8 0, Value.int .u8 0, Value.int .u8 0, Value.int .u8 0, Value.int .u8 0, Value.int .u8 0, Value.int .u8 0, Value.int .u8 0, .int .u32 0, .int .u32 0, .int .u32 0])) := by kernel_rfl
  obtain ⟨i, hi, hz⟩ := Option.map_eq_some_iff.1 h
  simp [zeroValue, typeInfo, go_sem, hi, hz]
set_option maxRecDepth 100000 in
set_option maxHeartbeats 2000000 in
theorem Awake13 (w : World) : Calls Try.prog 8 #[] w fun e w' => e = .returned (.bool true) ∧ Below w.heap.size w w' := by
  have c1 : ∀ w, Calls Try.prog 13 #[.int .i64 7, .int .i64 100] w fun e w' => e = .returned (.int .i64 25) ∧ Below w.heap.size w w' := fun w => by
    have h := Clamp_any 7 100 w
    rw [show clampR 7 100 = 25 by decide] at h
    exact h
  have c2 : ∀ w, Calls Try.prog 9 #[.agg #[Value.int .u32 486604799, .int .i64 2, .int .i64 100, .int .i64 0, .int .i64 0, .int .i64 0, .slice none 0 0], .int .i64 2, .agg #[Value.int .u32 0, Value.int .u8 0, Value.int .u8 0, Value.int .u8 0, Value.int .u8 0, Value.int .u8 0, Value.int .u8 0, Value.int .u8 0, Value.int .u8 0, Value.int .u8 0, Value.int .u8 0, Value.int .u8 0, Value.int .u8 0, Value.int .u8 0, Value.int .u8 0, Value.int .u8 0, Value.int .u8 0, Value.int .u8 0, Value.int .u8 0, Value.int .u8 0, Value.int .u8 0, Value.int .u8 0, Value.int .u8 0, Value.int .u8 0, Value.int .u8 0, Value.int .u8 0, Value.int .u8 0, Value.int .u8 0, Value.int .u8 0, Value.int .u8 0, Value.int .u8 0, Value.int .u8 0, Value.int .u8 0, Value.int .u8 0, Value.int .u8 0, Value.int .u8 0, Value.int .u8 0, Value.int .u8 0, Value.int .u8 0, Value.int .u8 0, Value.int .u8 0, Value.int .u8 0, Value.int .u8 0, Value.int .u8 0, Value.int .u8 0, Value.int .u8 0, Value.int .u8 0, Value.int .u8 0, Value.int .u8 0, Value.int .u8 0, Value.int .u8 0, Value.int .u8 0, Value.int .u8 0, Value.int .u8 0, Value.int .u8 0, Value.int .u8 0, Value.int .u8 0, Value.int .u8 0, Value.int .u8 0, Value.int .u8 0, Value.int .u8 0, Value.int .u8 0, Value.int .u8 0, Value.int .u8 0, Value.int .u8 0, .int .u32 100, .int .u32 469827583, .int .u32 0], .int .u32 0] w fun e w' => e = .returned (.int .u32 469827583) ∧ Below w.heap.size w w' := fun w =>
    Next_any 486604799 469827583 100 0 2 100 0 0 0 2 none 0 0 #[Value.int .u32 0, Value.int .u8 0, Value.int .u8 0, Value.int .u8 0, Value.int .u8 0, Value.int .u8 0, Value.int .u8 0, Value.int .u8 0, Value.int .u8 0, Value.int .u8 0, Value.int .u8 0, Value.int .u8 0, Value.int .u8 0, Value.int .u8 0, Value.int .u8 0, Value.int .u8 0, Value.int .u8 0, Value.int .u8 0, Value.int .u8 0, Value.int .u8 0, Value.int .u8 0, Value.int .u8 0, Value.int .u8 0, Value.int .u8 0, Value.int .u8 0, Value.int .u8 0, Value.int .u8 0, Value.int .u8 0, Value.int .u8 0, Value.int .u8 0, Value.int .u8 0, Value.int .u8 0, Value.int .u8 0, Value.int .u8 0, Value.int .u8 0, Value.int .u8 0, Value.int .u8 0, Value.int .u8 0, Value.int .u8 0, Value.int .u8 0, Value.int .u8 0, Value.int .u8 0, Value.int .u8 0, Value.int .u8 0, Value.int .u8 0, Value.int .u8 0, Value.int .u8 0, Value.int .u8 0, Value.int .u8 0, Value.int .u8 0, Value.int .u8 0, Value.int .u8 0, Value.int .u8 0, Value.int .u8 0, Value.int .u8 0, Value.int .u8 0, Value.int .u8 0, Value.int .u8 0, Value.int .u8 0, Value.int .u8 0, Value.int .u8 0, Value.int .u8 0, Value.int .u8 0, Value.int .u8 0, Value.int .u8 0, .int .u32 100, .int .u32 469827583, .int .u32 0] rfl rfl (by decide) (by decide) (by decide) (by decide) 469827583 (by decide +kernel) w
  have c3 : ∀ w, Calls Try.prog 9 #[.agg #[Value.int .u32 486604799, .int .i64 2, .int .i64 100, .int .i64 0, .int .i64 0, .int .i64 0, .slice none 0 0], .int .i64 3, .agg #[Value.int .u32 0, Value.int .u8 0, Value.int .u8 0, Value.int .u8 0, Value.int .u8 0, Value.int .u8 0, Value.int .u8 0, Value.int .u8 0, Value.int .u8 0, Value.int .u8 0, Value.int .u8 0, Value.int .u8 0, Value.int .u8 0, Value.int .u8 0, Value.int .u8 0, Value.int .u8 0, Value.int .u8 0, Value.int .u8 0, Value.int .u8 0, Value.int .u8 0, Value.int .u8 0, Value.int .u8 0, Value.int .u8 0, Value.int .u8 0, Value.int .u8 0, Value.int .u8 0, Value.int .u8 0, Value.int .u8 0, Value.int .u8 0, Value.int .u8 0, Value.int .u8 0, Value.int .u8 0, Value.int .u8 0, Value.int .u8 0, Value.int .u8 0, Value.int .u8 0, Value.int .u8 0, Value.int .u8 0, Value.int .u8 0, Value.int .u8 0, Value.int .u8 0, Value.int .u8 0, Value.int .u8 0, Value.int .u8 0, Value.int .u8 0, Value.int .u8 0, Value.int .u8 0, Value.int .u8 0, Value.int .u8 0, Value.int .u8 0, Value.int .u8 0, Value.int .u8 0, Value.int .u8 0, Value.int .u8 0, Value.int .u8 0, Value.int .u8 0, Value.int .u8 0, Value.int .u8 0, Value.int .u8 0, Value.int .u8 0, Value.int .u8 0, Value.int .u8 0, Value.int .u8 0, Value.int .u8 0, Value.int .u8 0, .int .u32 0, .int .u32 5, .int .u32 0], .int .u32 0] w fun e w' => e = .returned (.int .u32 5) ∧ Below w.heap.size w w' := fun w =>
    Next_any 486604799 5 0 0 2 100 0 0 0 3 none 0 0 #[Value.int .u32 0, Value.int .u8 0, Value.int .u8 0, Value.int .u8 0, Value.int .u8 0, Value.int .u8 0, Value.int .u8 0, Value.int .u8 0, Value.int .u8 0, Value.int .u8 0, Value.int .u8 0, Value.int .u8 0, Value.int .u8 0, Value.int .u8 0, Value.int .u8 0, Value.int .u8 0, Value.int .u8 0, Value.int .u8 0, Value.int .u8 0, Value.int .u8 0, Value.int .u8 0, Value.int .u8 0, Value.int .u8 0, Value.int .u8 0, Value.int .u8 0, Value.int .u8 0, Value.int .u8 0, Value.int .u8 0, Value.int .u8 0, Value.int .u8 0, Value.int .u8 0, Value.int .u8 0, Value.int .u8 0, Value.int .u8 0, Value.int .u8 0, Value.int .u8 0, Value.int .u8 0, Value.int .u8 0, Value.int .u8 0, Value.int .u8 0, Value.int .u8 0, Value.int .u8 0, Value.int .u8 0, Value.int .u8 0, Value.int .u8 0, Value.int .u8 0, Value.int .u8 0, Value.int .u8 0, Value.int .u8 0, Value.int .u8 0, Value.int .u8 0, Value.int .u8 0, Value.int .u8 0, Value.int .u8 0, Value.int .u8 0, Value.int .u8 0, Value.int .u8 0, Value.int .u8 0, Value.int .u8 0, Value.int .u8 0, Value.int .u8 0, Value.int .u8 0, Value.int .u8 0, Value.int .u8 0, Value.int .u8 0, .int .u32 0, .int .u32 5, .int .u32 0] rfl rfl (by decide) (by decide) (by decide) (by decide) 5 (by decide +kernel) w
  have c4 : ∀ w, Calls Try.prog 11 #[.agg #[Value.int .u32 486604799, .int .i64 2, .int .i64 100, .int .i64 0, .int .i64 0, .int .i64 0, .slice none 0 0]] w fun e w' => e = .returned (.bool true) ∧ Below w.heap.size w w' := fun w =>
    Sane_any 486604799 2 100 0 0 0 none 0 0 (by decide) true (by decide +kernel) w
  have HC := Lib.hid (And.intro c1 (And.intro c2 (And.intro c3 c4))); clear c1 c2 c3 c4
  have hz := zeroHeader
  go_enter Try.func8, Try.ntmps8
  go_wp2_with fail
  refine (HC.out.1 _).mono ?_
  rintro q w1 ⟨rfl, hb1⟩
  have q_p := (Blk.newAt w 25 #[Value.int .u32 486604799, .int .i64 2, .int .i64 100, .int .i64 0, .int .i64 0, .int .i64 0, .slice none 0 0] rfl).calls hb1
  have bb := bt (ba (Below.refl w.heap.size w) _) hb1
  clear hb1
  have p0 := blk_get q_p 0 _ rfl; have p1 := blk_get q_p 1 _ rfl; have p2 := blk_get q_p 2 _ rfl; have p3 := blk_get q_p 3 _ rfl; have p4 := blk_get q_p 4 _ rfl; have p5 := blk_get q_p 5 _ rfl; have p6 := blk_get q_p 6 _ rfl
  have K := Lib.hid (And.intro q_p bb); clear q_p bb
  go_wp2_with fail
  refine (HC.out.2.1 _).mono ?_
  rintro q w2 ⟨rfl, hb1⟩
  have K2 := Lib.hid (And.intro (K.out.1.calls hb1) (bt K.out.2 hb1)); clear hb1 K p0 p1 p2 p3 p4 p5 p6
  have q_p := K2.out.1
  have p0 := blk_get q_p 0 _ rfl; have p1 := blk_get q_p 1 _ rfl; have p2 := blk_get q_p 2 _ rfl; have p3 := blk_get q_p 3 _ rfl; have p4 := blk_get q_p 4 _ rfl; have p5 := blk_get q_p 5 _ rfl; have p6 := blk_get q_p 6 _ rfl
  clear q_p
  go_wp2_with fail
  refine (HC.out.2.2.1 _).mono ?_
  rintro q w3 ⟨rfl, hb1⟩
  have K3 := Lib.hid (And.intro (K2.out.1.calls hb1) (bt K2.out.2 hb1)); clear hb1 K2 p0 p1 p2 p3 p4 p5 p6
  have q_p := K3.out.1
  have p0 := blk_get q_p 0 _ rfl; have p1 := blk_get q_p 1 _ rfl; have p2 := blk_get q_p 2 _ rfl; have p3 := blk_get q_p 3 _ rfl; have p4 := blk_get q_p 4 _ rfl; have p5 := blk_get q_p 5 _ rfl; have p6 := blk_get q_p 6 _ rfl
  clear q_p
  go_wp2_with fail
  refine (HC.out.2.2.2 _).mono ?_
  rintro q w4 ⟨rfl, hb1⟩
  have K4 := bt K3.out.2 hb1
  clear hb1
  go_wp2
  go_ret
  exact ⟨rfl, K4⟩
end Go.Proofs.Ytndockjflnicjaa
