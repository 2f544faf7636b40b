/- Single operations of regions: fields and single cells. -/
import Derived.Test.YtndockjflnicjaaOpsB
import Derived.Test.YtndockjflnicjaaInv
namespace Go.Proofs.Ytndockjflnicjaa
open Go.RowKit
set_option linter.unusedVariables false
section
variable {P : Program} {Q : Exit → Act → World → Prop} {o : Oper} {A : Act} {w : World} {u : Value}
theorem cell_load {P : Program} (w : World) (a : Addr) (ty : TypeId) (v : Value) (d : TypeDesc) (hc : w.cell? a = some v) (hu : P.underlying ty = some d) (hd : (match d with | .struct _ | .array _ _ => false | _ => true) = true) :
    (loadVar ty a).run P w = .ok v w := by
  have hagg : (isAgg ty).run P w = .ok false w := by
    unfold isAgg
    rw [Sem.run_bind, run_underlying hu w]
    cases d <;> simp_all
  simp [loadVar, Sem.run_bind, hagg, hc]
theorem op_cel (ty : TypeId) (x : Operand) (ho : o.op = .load ty x) (b : Addr) (hx : A.eval x = .pointer (some b)) (v : Value) (hc : w.cell? b = some v) (d : TypeDesc) (hu : P.underlying ty = some d)
    (hd : (match d with | .struct _ | .array _ _ => false | _ => true) = true) : o.wp P A w (fun a' w'' => a' = A.put o.dst v ∧ Below w.heap.size w w'') Q := by
  refine op_run ?_
  unfold execOp
  simp only [ho, hx, Instr.loadAt, Instr.sureAddr, Sem.run_bind, Sem.run_pure, Result.andThen_ok, cell_load w b ty v d hc hu hd]
theorem op_fld (T : TypeId) (x : Operand) (k off : Nat) (ho : o.op = .fieldAddr T x k) (g : Nat) (hx : A.eval x = .pointer (some ⟨g, 0, none⟩)) (hf : ∀ (g : Nat) (w : World), (Instr.fieldAt T (.pointer (some ⟨g, 0, none⟩)) k).run P w = .ok (.pointer (some ⟨g, off, none⟩)) w) :
    o.wp P A w (fun a' w'' => a' = A.put o.dst (.pointer (some ⟨g, off, none⟩)) ∧ Below w.heap.size w w'') Q := by
  refine op_run ?_
  unfold execOp
  simp only [ho, hx, Sem.run_bind, hf]
  rfl
theorem oargs1 {x : Operand} {u : Value} (h1 : A.eval x = u) : #[x].map A.eval = #[u] := by simp [h1]
theorem oargs2 {x y : Operand} {u v : Value} (h1 : A.eval x = u) (h2 : A.eval y = v) : #[x, y].map A.eval = #[u, v] := by simp [h1, h2]
theorem oargs3 {x y z : Operand} {u v s : Value} (h1 : A.eval x = u) (h2 : A.eval y = v) (h3 : A.eval z = s) : #[x, y, z].map A.eval = #[u, v, s] := by simp [h1, h2, h3]
theorem oargs4 {x y z q : Operand} {u v s t : Value} (h1 : A.eval x = u) (h2 : A.eval y = v) (h3 : A.eval z = s) (h4 : A.eval q = t) : #[x, y, z, q].map A.eval = #[u, v, s, t] := by simp [h1, h2, h3, h4]
end
end Go.Proofs.Ytndockjflnicjaa
