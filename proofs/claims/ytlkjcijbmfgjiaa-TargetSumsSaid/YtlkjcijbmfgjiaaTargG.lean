/- our, of florinlaw05. -/
import Derived.Test.YtlkjcijbmfgjiaaTargF
namespace Go.Proofs.Ytlkjcijbmfgjiaa
open Go.RowKit
set_option linter.unusedVariables false
theorem Our05_any (m : Nat) (w : World) :
    Calls Try.prog 13 #[uval m] w fun e w' => e = .returned (uval m) ∧ Below w.heap.size w w' := by
  unfold uval
  go_enter Try.func13, Try.ntmps13
  go_wp2
  refine bodyPost_ret (v := uval m) ?_ rfl ⟨rfl, ?_⟩
  · simp [results, Try.results13, go_sem, uval]
  · exact ((Below.refl _ _).alloc (Nat.le_refl _) _).alloc (by simp) _
end Go.Proofs.Ytlkjcijbmfgjiaa
