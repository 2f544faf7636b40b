/- target.Work: of bad bits. -/
import Derived.Test.YtlkjcijbmfgjiaaTargB
namespace Go.Proofs.Ytlkjcijbmfgjiaa
open Go.RowKit
set_option linter.unusedVariables false
set_option maxRecDepth 100000 in
set_option maxHeartbeats 1000000 in
theorem Work_bad (b v : Nat) (r : Int) (hb : b < 4294967296) (h : expR b = (v, r)) (hr : ¬ r = 0) (w : World) :
    Calls Try.prog 19 #[.int .u32 b] w fun q w' => q = .returned (uval 0) ∧ Below w.heap.size w w' := by
  have iZ : (Try.prog.info? 26).map (·.size) = some (#[.int .u64 0, .int .u64 0, .int .u64 0, .int .u64 0] : Array Value).size := by kernel_rfl
  have aZ : (#[.int .u64 0, .int .u64 0, .int .u64 0, .int .u64 0] : Array Value).all (·.oneCell') = true := by simp [Value.oneCell']
  go_enter Try.func19, Try.ntmps19
  go_wp2_with fail
  refine (Expand_any b v r hb h _).mono ?_
  rintro q w1 ⟨rfl, hb1⟩
  simp only [uval]
  have B0 : Blk (w1.alloc (.cells #[.int .u64 (lim v 0), .int .u64 (lim v 1), .int .u64 (lim v 2), .int .u64 (lim v 3)] 26)) w.heap.size 26 #[.int .u64 0, .int .u64 0, .int .u64 0, .int .u64 0] := ((Blk.newAt w _ #[.int .u64 0, .int .u64 0, .int .u64 0, .int .u64 0] rfl).calls hb1).alloc _
  have bb := ba (bt (ba (Below.refl w.heap.size w) _) hb1) (.cells #[.int .u64 (lim v 0), .int .u64 (lim v 1), .int .u64 (lim v 2), .int .u64 (lim v 3)] 26)
  clear hb1
  go_wp2_with (with_reducible refine ws_row B0 _ _ _ _ rfl rfl rfl rfl iZ rfl aZ ?_)
  refine bodyPost_ret (v := .agg #[.int .u64 0, .int .u64 0, .int .u64 0, .int .u64 0]) ?_ rfl ⟨by rw [uval_zero0], setRow_below bb (Nat.le_refl _) _⟩
  exact results_cell_row rfl _ _ _ _ _ (0, 0) _ rfl (B0.row _) Try.underlying26 rfl iZ
end Go.Proofs.Ytlkjcijbmfgjiaa
