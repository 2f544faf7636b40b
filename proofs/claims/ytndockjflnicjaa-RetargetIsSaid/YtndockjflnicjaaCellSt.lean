/- Single operations of regions: a cell is stored; an element's address; a cell is loaded. -/
import Derived.Test.YtndockjflnicjaaOps
import Derived.Test.YtndockjflnicjaaStore
namespace Go.Proofs.Ytndockjflnicjaa
open Go.RowKit
set_option linter.unusedVariables false
section
variable {P : Program} {Q : Exit → Act → World → Prop} {o : Oper} {A : Act} {w : World} {u : Value}
theorem wp_store_int {K : Act → World → Prop} (ty : TypeId) (x y : Operand) (ho : o.op = .store ty x y) (g i : Nat) (hx : A.eval x = .pointer (some ⟨g, i, none⟩)) (k k' : IntKind) (v : Int) (hy : A.eval y = .int k v) (u : Value)
    (hc : w.cell? ⟨g, i, none⟩ = some u) (hf : w.frozen? ⟨g, i, none⟩ = false) (hu : P.underlying ty = some (.int k')) (hs : ∀ w, (sizeOf ty).run P w = .ok 1 w) (hK : K (A.put o.dst undef) (w.setCell ⟨g, i, none⟩ (.int k v))) : o.wp P A w K Q := by
  have h : (execOp A.eval o).run P w = .ok .skip (w.setCell ⟨g, i, none⟩ (.int k v)) := by
    generalize A.eval = ρ at *
    unfold execOp
    simp [ho, hx, hy, hc, hf, run_underlying hu, isAgg, stored, hs, go_sem]
  unfold Oper.wp
  rw [h]
  exact hK
theorem run_loadVar_cellv (w : World) (a : Addr) (ty : TypeId) (v : Value) (d : TypeDesc) (hc : w.cell? a = some v) (hu : P.underlying ty = some d) (hd : (match d with | .struct _ | .array _ _ => false | _ => true) = true) :
    (loadVar ty a).run P w = .ok v w := by
  have hagg : (isAgg ty).run P w = .ok false w := by
    unfold isAgg
    rw [Sem.run_bind, run_underlying hu w]
    cases d <;> simp_all
  simp [loadVar, Sem.run_bind, hagg, hc]
theorem op_cellv (ty : TypeId) (x : Operand) (ho : o.op = .load ty x) (b : Addr) (hx : A.eval x = .pointer (some b)) (v : Value) (hc : w.cell? b = some v) (d : TypeDesc) (hu : P.underlying ty = some d)
    (hd : (match d with | .struct _ | .array _ _ => false | _ => true) = true) : o.wp P A w (fun a' w'' => a' = A.put o.dst v ∧ Below w.heap.size w w'') Q := by
  refine op_run ?_
  unfold execOp
  simp only [ho, hx, Instr.loadAt, Instr.sureAddr, Sem.run_bind, Sem.run_pure, Result.andThen_ok, run_loadVar_cellv w b ty v d hc hu hd]
theorem op_idxa (t : TypeId) (x i : Operand) (ho : o.op = .indexAddr t x i) {vx vi : Value} (hx : A.eval x = vx) (hi : A.eval i = vi) (hrun : (Instr.indexAt t vx vi).run P w = .ok u w) : o.wp P A w (fun a' w'' => a' = A.put o.dst u ∧ Below w.heap.size w w'') Q := by
  refine op_run ?_
  unfold execOp
  simp only [ho, hx, hi, Sem.run_bind, hrun]
  rfl
theorem op_cvt (src dst : TypeId) (x : Operand) {v : Value} (ho : o.op = .convert src dst x) (hx : A.eval x = v) (hrun : (convert src dst v).run P w = .ok u w) : o.wp P A w (fun a' w'' => a' = A.put o.dst u ∧ Below w.heap.size w w'') Q := by
  refine op_run ?_
  unfold execOp
  simp only [ho, hx, Sem.run_bind, hrun]
  rfl
theorem op_or (t r : TypeId) (x y : Operand) (k : IntKind) (m n s : Int) (ho : o.op = .binOp .or t x y r) (hx : A.eval x = .int k m) (hy : A.eval y = .int k n) (hb : bits .or k m n = s) : o.wp P A w (fun a' w'' => a' = A.put o.dst (.int k s) ∧ Below w.heap.size w w'') Q := by
  refine op_run ?_
  generalize A.eval = ρ at *
  unfold execOp
  subst hb
  simp [ho, hx, hy, eqGuard, binOp, Op.intBits, bits, go_sem]
end
end Go.Proofs.Ytndockjflnicjaa
