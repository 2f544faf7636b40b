/- What is divided is made again: the walk of U256Divides. -/
import Derived.Test.YtlkjcijbmfgjiaaLaw01a
import Derived.Test.YtlkjcijbmfgjiaaU256h
import Derived.Test.YtlkjcijbmfgjiaaInv
namespace Go.Proofs.Ytlkjcijbmfgjiaa
open Go.RowKit
set_option linter.unusedVariables false

abbrev DivIs (m n q r : Nat) (b : Bool) : Prop := m < T ∧ n < T ∧ ((n = 0 ∧ q = 0 ∧ r = 0 ∧ b = false) ∨ (0 < n ∧ q = m / n ∧ r = m % n ∧ b = true))
theorem div_ex (m n : Nat) (hm : m < T) (hn : n < T) : ∃ q r b, DivIs m n q r b := by
  by_cases h : n = 0
  · exact ⟨0, 0, false, hm, hn, .inl ⟨h, rfl, rfl, rfl⟩⟩
  · exact ⟨_, _, true, hm, hn, .inr ⟨by omega, rfl, rfl, rfl⟩⟩
theorem DivU_is (m n q r : Nat) (b : Bool) (w : World) (h : DivIs m n q r b) : Calls Try.prog 22 #[uval m, uval n] w fun e w' => e = .returned (.tuple #[uval q, uval r, .bool b]) ∧ Below w.heap.size w w' := by
  obtain ⟨hm, hn, ⟨rfl, rfl, rfl, rfl⟩ | ⟨h0, rfl, rfl, rfl⟩⟩ := h
  · exact Div_none m w hm
  · exact DivU_any m n w hm hn h0
theorem i26 (n : Nat) : (Try.prog.info? 26).map (·.size) = some (ucells n).size := by kernel_rfl
theorem alloc_run (A : Act) (o : Oper) (ho : o.op = .alloc 26) (w : World) : (execOp A.eval o).run Try.prog w = .ok (.value (.pointer (some ⟨w.heap.size, 0, none⟩))) (w.alloc (.cells zero4 26)) := by
  unfold execOp
  simp only [ho]
  simp [Instr.alloc, go_sem, Try.zeroValue26]
  done
-- WALK
theorem i24 (n : Nat) : (Try.prog.info? 24).map (·.size) = some (ucells n).size := by kernel_rfl
theorem uc_one (n : Nat) : (ucells n).all (·.oneCell') = true := by simp [ucells, Value.oneCell']
theorem args1 {A : Act} {x : Operand} {u : Value} (h1 : A.eval x = u) : #[x].map A.eval = #[u] := by simp [h1]
theorem args2 {A : Act} {x y : Operand} {u v : Value} (h1 : A.eval x = u) (h2 : A.eval y = v) : #[x, y].map A.eval = #[u, v] := by simp [h1, h2]

end Go.Proofs.Ytlkjcijbmfgjiaa
