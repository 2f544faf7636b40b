/- The example that stands ahead of the statements on numbers. -/
import Derived.Test.YtndockjflnicjaaU256c
namespace Go.Proofs.Ytndockjflnicjaa
open Go.RowKit
set_option linter.unusedVariables false

theorem uval_zero : uval 0 = .agg #[.int .u64 0, .int .u64 0, .int .u64 0, .int .u64 0] := rfl
theorem Len_is (m : Nat) (k : Int) (hm : m < T) (h : (bl m : Int) = k) (w : World) : Calls Try.prog 15 #[uval m] w fun e w' => e = .returned (.int .i64 k) ∧ Below w.heap.size w w' := h ▸ Len_any m w hm
theorem Of_is (n : Nat) (k : Int) (h : k = n) (hn : n < W64) (w : World) : Calls Try.prog 24 #[.int .u64 k] w fun e w' => e = .returned (uval n) ∧ Below w.heap.size w w' := by subst h; exact Of_any n w hn

end Go.Proofs.Ytndockjflnicjaa
