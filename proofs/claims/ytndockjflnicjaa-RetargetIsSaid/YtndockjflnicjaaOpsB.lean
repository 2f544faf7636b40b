/- Single operations of regions: the bits of two numbers, products, quotients. -/
import Derived.Test.YtndockjflnicjaaOps
namespace Go.Proofs.Ytndockjflnicjaa
open Go.RowKit
set_option linter.unusedVariables false
section
variable {P : Program} {Q : Exit → Act → World → Prop} {o : Oper} {A : Act} {w : World} {u : Value}
theorem op_and (t r : TypeId) (x y : Operand) (k : IntKind) (m n s : Int) (ho : o.op = .binOp .and t x y r) (hx : A.eval x = .int k m) (hy : A.eval y = .int k n) (hb : bits .and k m n = s) : o.wp P A w (fun a' w'' => a' = A.put o.dst (.int k s) ∧ Below w.heap.size w w'') Q := by
  refine op_run ?_
  generalize A.eval = ρ at *
  unfold execOp
  subst hb
  simp [ho, hx, hy, eqGuard, binOp, Op.intBits, bits, go_sem]
theorem op_mul (t r : TypeId) (x y : Operand) (k : IntKind) (m n s : Int) (ho : o.op = .binOp .mul t x y r) (hx : A.eval x = .int k m) (hy : A.eval y = .int k n) (hb : k.wrap (m * n) = s) : o.wp P A w (fun a' w'' => a' = A.put o.dst (.int k s) ∧ Below w.heap.size w w'') Q := by
  refine op_run ?_
  generalize A.eval = ρ at *
  unfold execOp
  subst hb
  simp [ho, hx, hy, eqGuard, binOp, Op.intArith, go_sem]
end
end Go.Proofs.Ytndockjflnicjaa
