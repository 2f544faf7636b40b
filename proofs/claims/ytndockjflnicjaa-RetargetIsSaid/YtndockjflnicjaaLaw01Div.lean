/- What is divided is made again: the walk of U256Divides. -/
import Derived.Test.YtndockjflnicjaaLaw01a
import Derived.Test.YtndockjflnicjaaU256h
import Derived.Test.YtndockjflnicjaaInv
namespace Go.Proofs.Ytndockjflnicjaa
open Go.RowKit
set_option linter.unusedVariables false

abbrev DivIs (m n q r : Nat) (b : Bool) : Prop := m < T ∧ n < T ∧ ((n = 0 ∧ q = 0 ∧ r = 0 ∧ b = false) ∨ (0 < n ∧ q = m / n ∧ r = m % n ∧ b = true))
theorem div_ex (m n : Nat) (hm : m < T) (hn : n < T) : ∃ q r b, DivIs m n q r b := by
  by_cases h : n = 0
  · exact ⟨0, 0, false, hm, hn, .inl ⟨h, rfl, rfl, rfl⟩⟩
  · exact ⟨_, _, true, hm, hn, .inr ⟨by omega, rfl, rfl, rfl⟩⟩
theorem i26 (n : Nat) : (Try.prog.info? 34).map (·.size) = some (ucells n).size := by kernel_rfl
theorem alloc_run (A : Act) (o : Oper) (ho : o.op = .alloc 34) (w : World) : (execOp A.eval o).run Try.prog w = .ok (.value (.pointer (some ⟨w.heap.size, 0, none⟩))) (w.alloc (.cells zero4 34)) := by
  unfold execOp
  simp only [ho]
  simp [Instr.alloc, go_sem, Try.zeroValue34]
  done
-- WALK
theorem i24 (n : Nat) : (Try.prog.info? 63).map (·.size) = some (ucells n).size := by kernel_rfl
theorem uc_one (n : Nat) : (ucells n).all (·.oneCell') = true := by simp [ucells, Value.oneCell']
theorem args1 {A : Act} {x : Operand} {u : Value} (h1 : A.eval x = u) : #[x].map A.eval = #[u] := by simp [h1]
theorem args2 {A : Act} {x y : Operand} {u v : Value} (h1 : A.eval x = u) (h2 : A.eval y = v) : #[x, y].map A.eval = #[u, v] := by simp [h1, h2]

end Go.Proofs.Ytndockjflnicjaa
