/- Rows of many cells are loaded and stored whole. -/
import Derived.Test.YtfebknplkbeblaaDoorBase
import Derived.Laws.Tables
import Derived.Laws.Rows
import Derived.Laws.CopyOwn
import Derived.Deep.WholeRow
import Derived.Deep.Quiet
import Derived.Deep.QuietTactic
import Derived.BigQuiet
namespace Go.Proofs.YtfebknplkbeblaaDoor
open Go.RowKit
set_option linter.unusedVariables false

section
variable {P : Program} {w w' : World} {g : Nat} {t : TypeId} {cs : Array Value}
theorem Blk.row (h : Blk w g t cs) (c : Array Value) : Blk (w.setRow g c) g t c := by
  unfold Blk at h ⊢
  have hl := h
  simp [World.setRow, Array.getElem?_modify, h]
theorem Blk.rowFar (h : Blk w g t cs) {b : Nat} (hp : g ≠ b) (c : Array Value) : Blk (w.setRow b c) g t cs := by
  unfold Blk at h ⊢
  simp [World.setRow, Array.getElem?_modify, h, Ne.symm hp]
theorem wl_row {ops : Array Oper} {rest : List Oper} {o : Oper} {a : Act} {Q : Exit → Act → World → Prop} (h : Blk w g t cs) (ty : TypeId) (x : Operand) (hgd : o.guard = none) (ho : o.op = .load ty x)
    (hx : a.eval x = .pointer (some ⟨g, 0, none⟩)) (n : Nat) (e : TypeId)
    (hu : P.underlying ty = some (.array n e)) (hi : (P.info? ty).map (·.size) = some cs.size)
    (k : wpList P ops Q rest (a.put o.dst (.agg cs)) w) : wpList P ops Q (o :: rest) a w :=
  wpList_load_row hgd ty x ho g hx t cs (0, 0) _ h hu rfl hi k
theorem ws_row {ops : Array Oper} {rest : List Oper} {o : Oper} {a : Act} {Q : Exit → Act → World → Prop} (h : Blk w g t cs) (ty : TypeId) (x y : Operand) (c : Array Value) (hgd : o.guard = none) (ho : o.op = .store ty x y)
    (hx : a.eval x = .pointer (some ⟨g, 0, none⟩)) (hy : a.eval y = .agg c)
    (hi : (P.info? ty).map (·.size) = some c.size) (hs : cs.size = c.size) (h1 : c.all (·.oneCell') = true)
    (k : wpList P ops Q rest (a.put o.dst undef) (w.setRow g c)) : wpList P ops Q (o :: rest) a w :=
  wpList_store_row hgd ty x y ho g c hx hy t cs h hi hs h1 k
theorem index_arr {e : TypeId} {n i : Nat} {ie : TypeInfo} {v : Value} {k : IntKind} (he : P.plainKey e = true) (ht : P.underlying t = some (.array n e)) (hi : P.info? e = some ie) (h1 : ie.size = 1) (hn : i < n) (hv : cs[i]? = some v) (w : World) :
    (Instr.index t (.agg cs) (.int k i)).run P w = .ok v w := by
  have ha : (isAgg e).run P w = .ok false w := by
    unfold Program.plainKey at he
    cases hu : P.underlying e with
    | none => simp [hu] at he
    | some d => cases d <;> simp [hu] at he <;> simp [isAgg, run_underlying hu]
  have b : (0 : Int) ≤ (i : Int) ∧ (i : Int) < (n : Int) := by omega
  simp [Instr.index, run_underlying ht, asIntOf, b, go_sem, sizeOf, typeInfo, hi, h1, hn, ha, hv]
theorem quiet_row {o : Oper} {a : Act} {C : World → Prop} {K : Act → Prop} (ty : TypeId) (x : Operand) (ho : o.op = .load ty x) (hx : a.eval x = .pointer (some ⟨g, 0, none⟩)) (hr : ∀ w, C w → Blk w g t cs) (n : Nat) (e : TypeId)
    (hu : P.underlying ty = some (.array n e)) (hi : (P.info? ty).map (·.size) = some cs.size) (h : K (a.put o.dst (.agg cs))) : o.quiet P a C K := by
  refine ⟨.agg cs, fun w hw => ?_, h⟩
  unfold Oper.quietAt execOp
  simp only [ho, hx, Instr.loadAt, Instr.sureAddr, Sem.run_bind, Sem.run_pure, Result.andThen_ok, run_loadVar_row w g t ty cs (0, 0) _ (hr w hw) hu rfl hi]
  exact ⟨rfl, rfl⟩
end
end Go.Proofs.YtfebknplkbeblaaDoor
