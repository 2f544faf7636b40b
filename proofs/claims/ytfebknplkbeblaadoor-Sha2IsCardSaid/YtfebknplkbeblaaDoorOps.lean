/- Single operations of regions: comparisons, signs, lengths of strings. -/
import Derived.Test.YtfebknplkbeblaaDoorGuard
namespace Go.Proofs.YtfebknplkbeblaaDoor
open Go.RowKit
set_option linter.unusedVariables false
section
variable {P : Program} {Q : Exit → Act → World → Prop} {o : Oper} {A : Act} {w : World} {u : Value}
theorem op_gtr (t r : TypeId) (x y : Operand) (k : IntKind) (m n : Int) (b : Bool) (ho : o.op = .binOp .gtr t x y r) (hx : A.eval x = .int k m) (hy : A.eval y = .int k n) (hb : decide (n < m) = b) : o.wp P A w (fun a' w'' => a' = A.put o.dst (.bool b) ∧ Below w.heap.size w w'') Q := by
  refine op_run ?_
  generalize A.eval = ρ at *
  unfold execOp
  subst hb
  simp [ho, hx, hy, eqGuard, binOp, Op.intCmp, go_sem]
theorem op_lss (t r : TypeId) (x y : Operand) (k : IntKind) (m n : Int) (b : Bool) (ho : o.op = .binOp .lss t x y r) (hx : A.eval x = .int k m) (hy : A.eval y = .int k n) (hb : decide (m < n) = b) : o.wp P A w (fun a' w'' => a' = A.put o.dst (.bool b) ∧ Below w.heap.size w w'') Q := by
  refine op_run ?_
  generalize A.eval = ρ at *
  unfold execOp
  subst hb
  simp [ho, hx, hy, eqGuard, binOp, Op.intCmp, go_sem]
theorem op_leq (t r : TypeId) (x y : Operand) (k : IntKind) (m n : Int) (b : Bool) (ho : o.op = .binOp .leq t x y r) (hx : A.eval x = .int k m) (hy : A.eval y = .int k n) (hb : decide (m ≤ n) = b) : o.wp P A w (fun a' w'' => a' = A.put o.dst (.bool b) ∧ Below w.heap.size w w'') Q := by
  refine op_run ?_
  generalize A.eval = ρ at *
  unfold execOp
  subst hb
  simp [ho, hx, hy, eqGuard, binOp, Op.intCmp, go_sem]
theorem op_geq (t r : TypeId) (x y : Operand) (k : IntKind) (m n : Int) (b : Bool) (ho : o.op = .binOp .geq t x y r) (hx : A.eval x = .int k m) (hy : A.eval y = .int k n) (hb : decide (n ≤ m) = b) : o.wp P A w (fun a' w'' => a' = A.put o.dst (.bool b) ∧ Below w.heap.size w w'') Q := by
  refine op_run ?_
  generalize A.eval = ρ at *
  unfold execOp
  subst hb
  simp [ho, hx, hy, eqGuard, binOp, Op.intCmp, go_sem]
theorem op_neq_int (t r : TypeId) (x y : Operand) (k : IntKind) (m n : Int) (b : Bool) (ho : o.op = .binOp .neq t x y r) (hx : A.eval x = .int k m) (hy : A.eval y = .int k n) (hb : (m != n) = b) : o.wp P A w (fun a' w'' => a' = A.put o.dst (.bool b) ∧ Below w.heap.size w w'') Q := by
  refine op_run ?_
  generalize A.eval = ρ at *
  unfold execOp
  subst hb
  simp [ho, hx, hy, eqGuard, binOp, Op.intCmp, go_sem]
theorem op_add (t r : TypeId) (x y : Operand) (k : IntKind) (m n s : Int) (ho : o.op = .binOp .add t x y r) (hx : A.eval x = .int k m) (hy : A.eval y = .int k n) (hb : k.wrap (m + n) = s) : o.wp P A w (fun a' w'' => a' = A.put o.dst (.int k s) ∧ Below w.heap.size w w'') Q := by
  refine op_run ?_
  generalize A.eval = ρ at *
  unfold execOp
  subst hb
  simp [ho, hx, hy, eqGuard, binOp, Op.intArith, go_sem]
theorem op_sub (t r : TypeId) (x y : Operand) (k : IntKind) (m n s : Int) (ho : o.op = .binOp .sub t x y r) (hx : A.eval x = .int k m) (hy : A.eval y = .int k n) (hb : k.wrap (m - n) = s) : o.wp P A w (fun a' w'' => a' = A.put o.dst (.int k s) ∧ Below w.heap.size w w'') Q := by
  refine op_run ?_
  generalize A.eval = ρ at *
  unfold execOp
  subst hb
  simp [ho, hx, hy, eqGuard, binOp, Op.intArith, go_sem]
theorem op_not (t : TypeId) (x : Operand) (b : Bool) (ho : o.op = .unOp .not t x) (hx : A.eval x = .bool b) : o.wp P A w (fun a' w'' => a' = A.put o.dst (.bool (!b)) ∧ Below w.heap.size w w'') Q := by
  refine op_run ?_
  generalize A.eval = ρ at *
  unfold execOp
  simp [ho, hx, Op.unary, go_sem]
theorem op_neg (t : TypeId) (x : Operand) (k : IntKind) (m s : Int) (ho : o.op = .unOp .neg t x) (hx : A.eval x = .int k m) (hb : k.wrap (0 - m) = s) : o.wp P A w (fun a' w'' => a' = A.put o.dst (.int k s) ∧ Below w.heap.size w w'') Q := by
  refine op_run ?_
  generalize A.eval = ρ at *
  unfold execOp
  subst hb
  simp [ho, hx, Op.unary, Op.intArith, go_sem]
theorem run_eq_bool {t : TypeId} (ht : P.underlying t = some .bool) (a b : Bool) (w : World) : (Op.equal t (.bool a) (.bool b)).run P w = .ok (a == b) w := by
  unfold Op.equal
  show (Op.equalIn 10000 t (.bool a) (.bool b)).run P w = _
  unfold Op.equalIn
  simp [run_underlying ht, Sem.run_bind]
theorem op_eq_bool (t r : TypeId) (x y : Operand) (a b c : Bool) (ho : o.op = .binOp .eql t x y r) (hx : A.eval x = .bool a) (hy : A.eval y = .bool b) (ht : P.underlying t = some .bool) (hb : (a == b) = c) : o.wp P A w (fun a' w'' => a' = A.put o.dst (.bool c) ∧ Below w.heap.size w w'') Q := by
  refine op_run ?_
  generalize A.eval = ρ at *
  unfold execOp
  subst hb
  simp [ho, hx, hy, eqGuard, binOp, run_eq_bool ht, go_sem]
theorem op_len_str (x : Operand) (t : TypeId) (s : ByteArray) (n : Nat) (ho : o.op = .call { callee := .builtin .len, args := #[x], argTypes := #[t] }) (hx : A.eval x = .string s) (ht : P.underlying t = some .string) (hn : s.size = n) : o.wp P A w (fun a' w'' => a' = A.put o.dst (.int .i64 n) ∧ Below w.heap.size w w'') Q := by
  refine op_run ?_
  generalize A.eval = ρ at *
  unfold execOp
  subst hn
  simp [ho, hx, ht, Builtin.len_, run_underlying ht, go_sem]
theorem op_idx_str (x i : Operand) (t : TypeId) (s : ByteArray) (n : Int) (v : Value) (ho : o.op = .index t x i) (hx : A.eval x = .string s) (hi : A.eval i = .int .i64 n) (hrun : (Instr.index t (.string s) (.int .i64 n)).run P w = .ok v w) : o.wp P A w (fun a' w'' => a' = A.put o.dst v ∧ Below w.heap.size w w'') Q := by
  refine op_run ?_
  generalize A.eval = ρ at *
  unfold execOp
  simp [ho, hx, hi, hrun, go_sem]
end
end Go.Proofs.YtfebknplkbeblaaDoor
