/- Single operations of regions: a cell is stored; an element's address; a cell is loaded. Single operations of regions: the bits of two numbers, products, quotients. Single operations of regions: fields and single cells. More operations: fields of a row of structs, strings that differ, slices of slices. Rows of messages: read, compared, laid anew. Streams and messages as the document's; rows of messages laid anew. -/
import Derived.Test.YticiipddilabfaaDoorCqG
import Derived.Test.YticiipddilabfaaDoorCqK
import Derived.Test.YticiipddilabfaaDoorCqB
import Derived.Laws.AppendOwn
import Derived.Test.YticiipddilabfaaDoorCqJ
namespace Go.Proofs.YticiipddilabfaaDoor
open Go.RowKit
set_option linter.unusedVariables false
section
variable {P : Program} {Q : Exit → Act → World → Prop} {o : Oper} {A : Act} {w : World} {u : Value}
theorem wp_store_int {K : Act → World → Prop} (ty : TypeId) (x y : Operand) (ho : o.op = .store ty x y) (g i : Nat) (hx : A.eval x = .pointer (some ⟨g, i, none⟩)) (k k' : IntKind) (v : Int) (hy : A.eval y = .int k v) (u : Value)
    (hc : w.cell? ⟨g, i, none⟩ = some u) (hf : w.frozen? ⟨g, i, none⟩ = false) (hu : P.underlying ty = some (.int k')) (hs : ∀ w, (sizeOf ty).run P w = .ok 1 w) (hK : K (A.put o.dst undef) (w.setCell ⟨g, i, none⟩ (.int k v))) : o.wp P A w K Q := by
  have h : (execOp A.eval o).run P w = .ok .skip (w.setCell ⟨g, i, none⟩ (.int k v)) := by
    generalize A.eval = ρ at *
    unfold execOp
    simp [ho, hx, hy, hc, hf, run_underlying hu, isAgg, stored, hs, go_sem]
  unfold Oper.wp
  rw [h]
  exact hK
theorem run_loadVar_cellv (w : World) (a : Addr) (ty : TypeId) (v : Value) (d : TypeDesc) (hc : w.cell? a = some v) (hu : P.underlying ty = some d) (hd : (match d with | .struct _ | .array _ _ => false | _ => true) = true) :
    (loadVar ty a).run P w = .ok v w := by
  have hagg : (isAgg ty).run P w = .ok false w := by
    unfold isAgg
    rw [Sem.run_bind, run_underlying hu w]
    cases d <;> simp_all
  simp [loadVar, Sem.run_bind, hagg, hc]
theorem op_cellv (ty : TypeId) (x : Operand) (ho : o.op = .load ty x) (b : Addr) (hx : A.eval x = .pointer (some b)) (v : Value) (hc : w.cell? b = some v) (d : TypeDesc) (hu : P.underlying ty = some d)
    (hd : (match d with | .struct _ | .array _ _ => false | _ => true) = true) : o.wp P A w (fun a' w'' => a' = A.put o.dst v ∧ Below w.heap.size w w'') Q := by
  refine op_run ?_
  unfold execOp
  simp only [ho, hx, Instr.loadAt, Instr.sureAddr, Sem.run_bind, Sem.run_pure, Result.andThen_ok, run_loadVar_cellv w b ty v d hc hu hd]
theorem op_idxa (t : TypeId) (x i : Operand) (ho : o.op = .indexAddr t x i) {vx vi : Value} (hx : A.eval x = vx) (hi : A.eval i = vi) (hrun : (Instr.indexAt t vx vi).run P w = .ok u w) : o.wp P A w (fun a' w'' => a' = A.put o.dst u ∧ Below w.heap.size w w'') Q := by
  refine op_run ?_
  unfold execOp
  simp only [ho, hx, hi, Sem.run_bind, hrun]
  rfl
theorem op_cvt (src dst : TypeId) (x : Operand) {v : Value} (ho : o.op = .convert src dst x) (hx : A.eval x = v) (hrun : (convert src dst v).run P w = .ok u w) : o.wp P A w (fun a' w'' => a' = A.put o.dst u ∧ Below w.heap.size w w'') Q := by
  refine op_run ?_
  unfold execOp
  simp only [ho, hx, Sem.run_bind, hrun]
  rfl
theorem op_or (t r : TypeId) (x y : Operand) (k : IntKind) (m n s : Int) (ho : o.op = .binOp .or t x y r) (hx : A.eval x = .int k m) (hy : A.eval y = .int k n) (hb : bits .or k m n = s) : o.wp P A w (fun a' w'' => a' = A.put o.dst (.int k s) ∧ Below w.heap.size w w'') Q := by
  refine op_run ?_
  generalize A.eval = ρ at *
  unfold execOp
  subst hb
  simp [ho, hx, hy, eqGuard, binOp, Op.intBits, bits, go_sem]
end
end Go.Proofs.YticiipddilabfaaDoor

namespace Go.Proofs.YticiipddilabfaaDoor
open Go.RowKit
set_option linter.unusedVariables false
section
variable {P : Program} {Q : Exit → Act → World → Prop} {o : Oper} {A : Act} {w : World} {u : Value}
theorem op_and (t r : TypeId) (x y : Operand) (k : IntKind) (m n s : Int) (ho : o.op = .binOp .and t x y r) (hx : A.eval x = .int k m) (hy : A.eval y = .int k n) (hb : bits .and k m n = s) : o.wp P A w (fun a' w'' => a' = A.put o.dst (.int k s) ∧ Below w.heap.size w w'') Q := by
  refine op_run ?_
  generalize A.eval = ρ at *
  unfold execOp
  subst hb
  simp [ho, hx, hy, eqGuard, binOp, Op.intBits, bits, go_sem]
theorem op_mul (t r : TypeId) (x y : Operand) (k : IntKind) (m n s : Int) (ho : o.op = .binOp .mul t x y r) (hx : A.eval x = .int k m) (hy : A.eval y = .int k n) (hb : k.wrap (m * n) = s) : o.wp P A w (fun a' w'' => a' = A.put o.dst (.int k s) ∧ Below w.heap.size w w'') Q := by
  refine op_run ?_
  generalize A.eval = ρ at *
  unfold execOp
  subst hb
  simp [ho, hx, hy, eqGuard, binOp, Op.intArith, go_sem]
end
end Go.Proofs.YticiipddilabfaaDoor

namespace Go.Proofs.YticiipddilabfaaDoor
open Go.RowKit
set_option linter.unusedVariables false
section
variable {P : Program} {Q : Exit → Act → World → Prop} {o : Oper} {A : Act} {w : World} {u : Value}
theorem cell_load {P : Program} (w : World) (a : Addr) (ty : TypeId) (v : Value) (d : TypeDesc) (hc : w.cell? a = some v) (hu : P.underlying ty = some d) (hd : (match d with | .struct _ | .array _ _ => false | _ => true) = true) :
    (loadVar ty a).run P w = .ok v w := by
  have hagg : (isAgg ty).run P w = .ok false w := by
    unfold isAgg
    rw [Sem.run_bind, run_underlying hu w]
    cases d <;> simp_all
  simp [loadVar, Sem.run_bind, hagg, hc]
theorem op_cel (ty : TypeId) (x : Operand) (ho : o.op = .load ty x) (b : Addr) (hx : A.eval x = .pointer (some b)) (v : Value) (hc : w.cell? b = some v) (d : TypeDesc) (hu : P.underlying ty = some d)
    (hd : (match d with | .struct _ | .array _ _ => false | _ => true) = true) : o.wp P A w (fun a' w'' => a' = A.put o.dst v ∧ Below w.heap.size w w'') Q := by
  refine op_run ?_
  unfold execOp
  simp only [ho, hx, Instr.loadAt, Instr.sureAddr, Sem.run_bind, Sem.run_pure, Result.andThen_ok, cell_load w b ty v d hc hu hd]
theorem op_fld (T : TypeId) (x : Operand) (k off : Nat) (ho : o.op = .fieldAddr T x k) (g : Nat) (hx : A.eval x = .pointer (some ⟨g, 0, none⟩)) (hf : ∀ (g : Nat) (w : World), (Instr.fieldAt T (.pointer (some ⟨g, 0, none⟩)) k).run P w = .ok (.pointer (some ⟨g, off, none⟩)) w) :
    o.wp P A w (fun a' w'' => a' = A.put o.dst (.pointer (some ⟨g, off, none⟩)) ∧ Below w.heap.size w w'') Q := by
  refine op_run ?_
  unfold execOp
  simp only [ho, hx, Sem.run_bind, hf]
  rfl
theorem oargs1 {x : Operand} {u : Value} (h1 : A.eval x = u) : #[x].map A.eval = #[u] := by simp [h1]
theorem oargs2 {x y : Operand} {u v : Value} (h1 : A.eval x = u) (h2 : A.eval y = v) : #[x, y].map A.eval = #[u, v] := by simp [h1, h2]
theorem oargs3 {x y z : Operand} {u v s : Value} (h1 : A.eval x = u) (h2 : A.eval y = v) (h3 : A.eval z = s) : #[x, y, z].map A.eval = #[u, v, s] := by simp [h1, h2, h3]
theorem oargs4 {x y z q : Operand} {u v s t : Value} (h1 : A.eval x = u) (h2 : A.eval y = v) (h3 : A.eval z = s) (h4 : A.eval q = t) : #[x, y, z, q].map A.eval = #[u, v, s, t] := by simp [h1, h2, h3, h4]
end
end Go.Proofs.YticiipddilabfaaDoor

namespace Go.Proofs.YticiipddilabfaaDoor
open Go.RowKit
set_option linter.unusedVariables false
section
variable {P : Program} {Q : Exit → Act → World → Prop} {o : Oper} {A : Act} {w : World} {u : Value}
theorem op_mf (T : TypeId) (x : Operand) (k off : Nat) (ho : o.op = .fieldAddr T x k) (g f : Nat) (hx : A.eval x = .pointer (some ⟨g, f, none⟩)) (hf : ∀ (g f : Nat) (w : World), (Instr.fieldAt T (.pointer (some ⟨g, f, none⟩)) k).run P w = .ok (.pointer (some ⟨g, f + off, none⟩)) w) :
    o.wp P A w (fun a' w'' => a' = A.put o.dst (.pointer (some ⟨g, f + off, none⟩)) ∧ Below w.heap.size w w'') Q := by
  refine op_run ?_
  unfold execOp
  simp only [ho, hx, Sem.run_bind, hf]
  rfl
theorem op_nes (t r : TypeId) (x y : Operand) (m n : ByteArray) (b : Bool) (ho : o.op = .binOp .neq t x y r) (hx : A.eval x = .string m) (hy : A.eval y = .string n) (hb : (!(m.toList == n.toList)) = b) : o.wp P A w (fun a' w'' => a' = A.put o.dst (.bool b) ∧ Below w.heap.size w w'') Q := by
  refine op_run ?_
  generalize A.eval = ρ at *
  unfold execOp
  subst hb
  simp [ho, hx, hy, eqGuard, binOp, Op.stringOp, go_sem]
end
end Go.Proofs.YticiipddilabfaaDoor

namespace Go.Proofs.YticiipddilabfaaDoor
open Go.RowKit
set_option linter.unusedVariables false
abbrev MsgT := List UInt8 × List UInt8
/-- Cells are read from a on. -/
def RdC (W : World) (a : Option Addr) (cs : List Value) : Prop := cs = [] ∨ ∃ g o, a = some ⟨g, o, none⟩ ∧ g < W.heap.size ∧ ∀ j u, cs[j]? = some u → W.cell? ⟨g, o + j, none⟩ = some u
theorem RdC.calls {w w' : World} {a : Option Addr} {cs : List Value} (h : RdC w a cs) (hb : Below w.heap.size w w') : RdC w' a cs := by
  rcases h with h | ⟨g, o, h1, h2, h3⟩
  · exact .inl h
  · exact .inr ⟨g, o, h1, Nat.lt_of_lt_of_le h2 hb.size, fun j u hu => (hb.cell (p := ⟨g, o + j, none⟩) h2).trans (h3 j u hu)⟩
theorem RdC.below {B : Nat} {w w' : World} {a : Option Addr} {cs : List Value} (h : RdC w a cs) (hb : Below B w w') (hB : w.heap.size ≤ B) : RdC w' a cs := by
  rcases h with h | ⟨g, o, h1, h2, h3⟩
  · exact .inl h
  · exact .inr ⟨g, o, h1, Nat.lt_of_lt_of_le h2 hb.size, fun j u hu => (hb.cell (p := ⟨g, o + j, none⟩) (Nat.lt_of_lt_of_le h2 hB)).trans (h3 j u hu)⟩
/-- A slice of messages. -/
def SlM (T : List MsgT) (v : Value) (W : World) : Prop := ∃ (L : List (MsgT × Value)) (a : Option Addr) (c : Nat), v = .slice a T.length c ∧ L.map (·.1) = T ∧ (∀ x ∈ L, CloV x.1.2 x.2 W) ∧ RdC W a (msgCs L) ∧ T.length ≤ c ∧ (a = none → T.length = 0 ∧ c = 0)
theorem SlM.calls {T : List MsgT} {v : Value} {w w' : World} (h : SlM T v w) (hb : Below w.heap.size w w') : SlM T v w' := by
  obtain ⟨L, a, c, h1, h2, h3, h4, h5⟩ := h
  exact ⟨L, a, c, h1, h2, fun x hx => (h3 x hx).keep hb, h4.calls hb, h5⟩
theorem MsgL.slm {b0 : Nat} {T : List MsgT} {v : Value} {W : World} (h : MsgL b0 T v W) : SlM T v W := by
  obtain ⟨L, h1, h2, h3⟩ := h
  have hL : L.length = T.length := by rw [← h1, List.length_map]
  rcases h2.2 with ⟨hv, h0⟩ | ⟨g, cap, cur, hv, hb, hg, q1, q2, q3, q4⟩
  · have : L = [] := List.length_eq_zero_iff.1 (by omega)
    subst this
    exact ⟨[], none, 0, by rw [hv, h0], h1, (fun x hx => (by cases hx)), .inl rfl, by omega, fun _ => ⟨h0, rfl⟩⟩
  · refine ⟨L, some ⟨g, 0, none⟩, cap, hv, h1, fun x hx => (h3 x hx).clo, .inr ⟨g, 0, rfl, (show Blk W g _ cur from hg).lt, fun j u hu => ?_⟩, q1, fun h => by cases h⟩
    rw [Nat.zero_add]
    refine blk_get (show Blk W g _ cur from hg) j _ ?_
    rw [← q4, List.getElem?_take] at hu
    split at hu
    · simpa using hu
    · cases hu
theorem SlM.at {T : List MsgT} {a : Option Addr} {n c : Nat} {W : World} (h : SlM T (.slice a n c) W) {i : Nat} {y : MsgT} (hi : T[i]? = some y) :
    ∃ g o p d, a = some ⟨g, o, none⟩ ∧ g < W.heap.size ∧ W.cell? ⟨g, o + 2 * i, none⟩ = some (.string (bstr y.1)) ∧ W.cell? ⟨g, o + 2 * i + 1, none⟩ = some (.slice p y.2.length d) ∧ RdS W p y.2 ∧ y.2.length ≤ d ∧ d ≤ maxLen ∧ (p = none → y.2.length = 0 ∧ d = 0) := by
  obtain ⟨L, a', c', h1, h2, h3, h4, h5, h6⟩ := h
  injection h1 with e1 e2 e3
  subst e1
  obtain ⟨x, hx, hxy⟩ : ∃ x, L[i]? = some x ∧ x.1 = y := by
    rw [← h2, List.getElem?_map] at hi
    cases hL : L[i]? with
    | none => rw [hL] at hi; cases hi
    | some x => rw [hL] at hi; injection hi with hi; exact ⟨x, rfl, hi⟩
  obtain ⟨c1, c2⟩ := msgCs_at L i x hx
  have hm : x ∈ L := List.mem_of_getElem? hx
  obtain ⟨p, d, e4, e5, e6, e7, e8⟩ := h3 x hm
  subst hxy
  rcases h4 with h | ⟨g, o, ha, hg, hc⟩
  · rw [h] at c1; cases c1
  · exact ⟨g, o, p, d, ha, hg, hc _ _ c1, by have := hc _ _ c2; rw [e4] at this; exact this, e5, e6, e7, e8⟩
theorem SlM.len {T : List MsgT} {a : Option Addr} {n c : Nat} {W : World} (h : SlM T (.slice a n c) W) : n = T.length := by
  obtain ⟨L, a', c', h1, _⟩ := h
  injection h1
theorem idx_msgR (b o n c k : Nat) (hk : k < n) (w : World) : (Instr.indexAt 43 (.slice (some ⟨b, o, none⟩) n c) (.int .i64 k)).run Tryd.prog w = .ok (.pointer (some ⟨b, o + 2 * k, none⟩)) w := by
  obtain ⟨i, hi⟩ := Option.isSome_iff_exists.1 (show (Tryd.prog.info? 25).isSome = true by kernel_rfl)
  have h1 : i.size = 2 := by
    have : (Tryd.prog.info? 25).map (·.size) = some 2 := by kernel_rfl
    rw [hi] at this
    simpa using this
  have e1 : (0 : Int) ≤ (k : Int) ∧ (k : Int) < (n : Int) := by omega
  simp [Instr.indexAt, go_sem, run_underlying Tryd.underlying43, asIntOf, sizeOf, typeInfo, hi, h1, e1, Addr.add]
  rw [if_pos hk]
  by_cases h : k = 0
  · simp [h]
  · rw [if_neg (by omega), Nat.mul_comm]
theorem idx_msgF (b o n c k : Nat) (hk : k < n) (w : World) : (Instr.indexAt 39 (.slice (some ⟨b, o, none⟩) n c) (.int .i64 k)).run Tryd.prog w = .ok (.pointer (some ⟨b, o + 2 * k, none⟩)) w := by
  obtain ⟨i, hi⟩ := Option.isSome_iff_exists.1 (show (Tryd.prog.info? 32).isSome = true by kernel_rfl)
  have h1 : i.size = 2 := by
    have : (Tryd.prog.info? 32).map (·.size) = some 2 := by kernel_rfl
    rw [hi] at this
    simpa using this
  have e1 : (0 : Int) ≤ (k : Int) ∧ (k : Int) < (n : Int) := by omega
  simp [Instr.indexAt, go_sem, run_underlying Tryd.underlying39, asIntOf, sizeOf, typeInfo, hi, h1, e1, Addr.add]
  rw [if_pos hk]
  by_cases h : k = 0
  · simp [h]
  · rw [if_neg (by omega), Nat.mul_comm]
theorem bstr_beq (a b : List UInt8) : ((bstr a).toList == (bstr b).toList) = decide (a = b) := by
  rw [bstr_toList, bstr_toList, Bool.eq_iff_iff]
  simp
theorem Below.wk {B : Nat} {a b : World} (h : Below B a b) : Below B a b := h
theorem bstr_eq {a b : List UInt8} : bstr a = bstr b ↔ a = b := by
  constructor
  · intro h
    have := congrArg ByteArray.toList h
    rwa [bstr_toList, bstr_toList] at this
  · rintro rfl; rfl
theorem take_same {T1 T2 : List MsgT} {k : Nat} {x y : MsgT} (h : T1.take k = T2.take k) (h1 : T1[k]? = some x) (h2 : T2[k]? = some y) (he : x = y) : T1.take (k + 1) = T2.take (k + 1) := by
  rw [List.take_add_one, List.take_add_one, h, h1, h2, he]
set_option maxRecDepth 100000 in
set_option maxHeartbeats 4000000 in
theorem Msgs_any (T1 T2 : List MsgT) (a1 : Option Addr) (n1 c1 : Nat) (a2 : Option Addr) (n2 c2 : Nat) (hn : n1 ≤ 140737488355328) (hn2 : n2 ≤ 140737488355328) (w : World) (h1 : SlM T1 (.slice a1 n1 c1) w) (h2 : SlM T2 (.slice a2 n2 c2) w) :
    Calls Tryd.prog 18 #[.slice a1 n1 c1, .slice a2 n2 c2] w fun e w' => e = .returned (.bool (decide (T1 = T2))) ∧ Below w.heap.size w w' := by
  have e1 := h1.len
  have e2 := h2.len
  obtain ⟨b, hb⟩ : ∃ b, b = decide (T1 = T2) := ⟨_, rfl⟩
  rw [← hb]
  have H := Lib.hid (And.intro h1 (And.intro h2 (And.intro e1 (And.intro e2 hb)))); clear h1 h2 e1 e2 hb
  go_enter Tryd.func18, Tryd.ntmps18
  by_cases hne : n1 = n2
  · subst hne
    go_wp2
    go_loopw [5] (fun i wr => ∃ k : Nat, k ≤ n1 ∧ i = .int .i64 k ∧ T1.take k = T2.take k ∧ Below w.heap.size w wr) (fun i _ => n1 - (intOf i).toNat)
    case atStart => exact ⟨0, Nat.zero_le _, rfl, by simp, Below.refl _ _⟩
    case round =>
      obtain ⟨k, hk, rfl, hT, hB⟩ := hrel
      by_cases hlt : k < n1
      · have hlti : (k : Int) < (n1 : Int) := by omega
        obtain ⟨x, hx⟩ : ∃ x, T1[k]? = some x := ⟨_, List.getElem?_eq_getElem (by have := H.out.2.2.1; omega)⟩
        obtain ⟨y, hy⟩ : ∃ y, T2[k]? = some y := ⟨_, List.getElem?_eq_getElem (by have := H.out.2.2.2.1; omega)⟩
        obtain ⟨g, o, p, d, rfl, hg, q1, q2, q3, q4, q5, q6⟩ := (H.out.1.calls hB).at hx
        obtain ⟨g', o', p', d', rfl, hg', r1, r2, r3, r4, r5, r6⟩ := (H.out.2.1.calls hB).at hy
        have s1 := fun w' (h : Below wr.heap.size wr w') => str_of (c := d) (q3.calls h) rfl
        have s2 := fun w' (h : Below wr.heap.size wr w') => str_of (c := d') (r3.calls h) rfl
        have i1 := fun w => idx_msgR g o n1 c1 k hlt w
        have i2 := fun w => idx_msgR g' o' n1 c2 k hlt w
        have b1 := bstr_beq x.1 y.1
        have b2 := bstr_beq x.2 y.2
        obtain ⟨S1, hS1⟩ : ∃ S, S = bstr x.1 := ⟨_, rfl⟩
        obtain ⟨S2, hS2⟩ : ∃ S, S = bstr y.1 := ⟨_, rfl⟩
        obtain ⟨P1, hP1⟩ : ∃ S, S = bstr x.2 := ⟨_, rfl⟩
        obtain ⟨P2, hP2⟩ : ∃ S, S = bstr y.2 := ⟨_, rfl⟩
        rw [← hS1, ← hS2] at b1
        rw [← hP1, ← hP2] at b2
        rw [← hS1] at q1
        rw [← hS2] at r1
        rw [← hP1] at s1
        rw [← hP2] at s2
        obtain ⟨m1, hm1⟩ : ∃ m, m = x.2.length := ⟨_, rfl⟩
        obtain ⟨m2, hm2⟩ : ∃ m, m = y.2.length := ⟨_, rfl⟩
        rw [← hm1] at q2 s1
        rw [← hm2] at r2 s2
        obtain ⟨j1, hj1⟩ : ∃ j, j = o + 2 * k := ⟨_, rfl⟩
        obtain ⟨j2, hj2⟩ : ∃ j, j = o' + 2 * k := ⟨_, rfl⟩
        rw [← hj1] at q1 q2 i1
        rw [← hj2] at r1 r2 i2
        have R := Lib.hid (And.intro i1 (And.intro i2 (And.intro s1 (And.intro s2 (And.intro hT (And.intro hB (And.intro hx hy))))))); clear hT hB hx hy hS1 hS2 hP1 hP2 q3 q4 q5 q6 r3 r4 r5 r6 hm1 hm2 hj1 hj2 i1 i2 s1 s2
        by_cases e1 : x.1 = y.1
        · have g1 : (!(S1.toList == S2.toList)) = false := by rw [b1, decide_eq_true e1]; rfl
          by_cases e2 : x.2 = y.2
          · have g2 : (!(P1.toList == P2.toList)) = false := by rw [b2, decide_eq_true e2]; rfl
            have RR := Lib.hid (And.intro e1 e2); clear e1 e2 b1 b2
            go_wp2_with fail
            refine wp_region_g [some 17, some 18, some 19, some 20, some 21, some 22, some 23, some 24, some 25, some 26, some 27, some 28, some 29, some 30, some 31, some 32, some 33, some 34, some 35, some 36, some 37, some 38, some 39, some 40, some 41, some 42] (FL [
                EqV (.slice (some ⟨g, o, none⟩) n1 c1),
                EqV (.int .i64 k),
                EqV (.pointer (some ⟨g, j1, none⟩)),
                EqV (.pointer (some ⟨g, j1 + 0, none⟩)),
                EqV (.string S1),
                EqV (.slice (some ⟨g', o', none⟩) n1 c2),
                EqV (.int .i64 k),
                EqV (.pointer (some ⟨g', j2, none⟩)),
                EqV (.pointer (some ⟨g', j2 + 0, none⟩)),
                EqV (.string S2),
                EqV (.bool false),
                EqV (.bool false),
                EqV (.slice (some ⟨g, o, none⟩) n1 c1),
                EqV (.int .i64 k),
                EqV (.pointer (some ⟨g, j1, none⟩)),
                EqV (.pointer (some ⟨g, j1 + 1, none⟩)),
                EqV (.slice p m1 d),
                EqV (.string P1),
                EqV (.slice (some ⟨g', o', none⟩) n1 c2),
                EqV (.int .i64 k),
                EqV (.pointer (some ⟨g', j2, none⟩)),
                EqV (.pointer (some ⟨g', j2 + 1, none⟩)),
                EqV (.slice p' m2 d'),
                EqV (.string P2),
                EqV (.bool false),
                EqV (.bool false)
              ]) (FL_keeps ⟨keeps_eq _, keeps_eq _, keeps_eq _, keeps_eq _, keeps_eq _, keeps_eq _, keeps_eq _, keeps_eq _, keeps_eq _, keeps_eq _, keeps_eq _, keeps_eq _, keeps_eq _, keeps_eq _, keeps_eq _, keeps_eq _, keeps_eq _, keeps_eq _, keeps_eq _, keeps_eq _, keeps_eq _, keeps_eq _, keeps_eq _, keeps_eq _, keeps_eq _, keeps_eq _, trivial⟩) (by kernel_rfl) rfl rfl rfl rfl ⟨
              .inr ⟨gk0 rfl, fun A w' γ hb hF hs => g_eq (op_move (.tmp 0) (.inl rfl) ((hs.2 0 rfl).trans rfl))⟩,
              .inr ⟨gk0 rfl, fun A w' γ hb hF hs => g_eq (op_move (.tmp 5) (.inl rfl) ((hs.2 5 rfl).trans rfl))⟩,
              .inr ⟨gk0 rfl, fun A w' γ hb hF hs => g_eq (op_idxa 43 (.tmp 17) (.tmp 18) rfl ((hs.1 0 rfl 17 rfl).trans (hF 0 rfl)) ((hs.1 1 rfl 18 rfl).trans (hF 1 rfl)) (R.out.1 _))⟩,
              .inr ⟨gk0 rfl, fun A w' γ hb hF hs => g_eq (op_mf 25 (.tmp 19) 0 0 rfl (g) (j1) ((hs.1 2 rfl 19 rfl).trans (hF 2 rfl)) fun _ _ _ => by kernel_rfl)⟩,
              .inr ⟨gk0 rfl, fun A w' γ hb hF hs => g_eq (op_cel 9 (.tmp 20) rfl _ ((hs.1 3 rfl 20 rfl).trans (hF 3 rfl)) _ ((hb.cell (p := ⟨g, j1, none⟩) hg).trans q1) _ Tryd.underlying9 rfl)⟩,
              .inr ⟨gk0 rfl, fun A w' γ hb hF hs => g_eq (op_move (.tmp 1) (.inl rfl) ((hs.2 1 rfl).trans rfl))⟩,
              .inr ⟨gk0 rfl, fun A w' γ hb hF hs => g_eq (op_move (.tmp 5) (.inl rfl) ((hs.2 5 rfl).trans rfl))⟩,
              .inr ⟨gk0 rfl, fun A w' γ hb hF hs => g_eq (op_idxa 43 (.tmp 22) (.tmp 23) rfl ((hs.1 5 rfl 22 rfl).trans (hF 5 rfl)) ((hs.1 6 rfl 23 rfl).trans (hF 6 rfl)) (R.out.2.1 _))⟩,
              .inr ⟨gk0 rfl, fun A w' γ hb hF hs => g_eq (op_mf 25 (.tmp 24) 0 0 rfl (g') (j2) ((hs.1 7 rfl 24 rfl).trans (hF 7 rfl)) fun _ _ _ => by kernel_rfl)⟩,
              .inr ⟨gk0 rfl, fun A w' γ hb hF hs => g_eq (op_cel 9 (.tmp 25) rfl _ ((hs.1 8 rfl 25 rfl).trans (hF 8 rfl)) _ ((hb.cell (p := ⟨g', j2, none⟩) hg').trans r1) _ Tryd.underlying9 rfl)⟩,
              .inr ⟨gk0 rfl, fun A w' γ hb hF hs => g_eq (op_nes 9 _ (.tmp 21) (.tmp 26) (S1) (S2) false rfl ((hs.1 4 rfl 21 rfl).trans (hF 4 rfl)) ((hs.1 9 rfl 26 rfl).trans (hF 9 rfl)) (g1))⟩,
              .inr ⟨gk0 rfl, fun A w' γ hb hF hs => g_eq (op_move (.tmp 27) (.inl rfl) ((hs.1 10 rfl 27 rfl).trans (hF 10 rfl)))⟩,
              .inr ⟨gkT 11 false rfl rfl 28 rfl (fun _ _ h => h), fun A w' γ hb hF hs => g_eq (op_move (.tmp 0) (.inl rfl) ((hs.2 0 rfl).trans rfl))⟩,
              .inr ⟨gkT 11 false rfl rfl 28 rfl (fun _ _ h => h), fun A w' γ hb hF hs => g_eq (op_move (.tmp 5) (.inl rfl) ((hs.2 5 rfl).trans rfl))⟩,
              .inr ⟨gkT 11 false rfl rfl 28 rfl (fun _ _ h => h), fun A w' γ hb hF hs => g_eq (op_idxa 43 (.tmp 29) (.tmp 30) rfl ((hs.1 12 rfl 29 rfl).trans (hF 12 rfl)) ((hs.1 13 rfl 30 rfl).trans (hF 13 rfl)) (R.out.1 _))⟩,
              .inr ⟨gkT 11 false rfl rfl 28 rfl (fun _ _ h => h), fun A w' γ hb hF hs => g_eq (op_mf 25 (.tmp 31) 1 1 rfl (g) (j1) ((hs.1 14 rfl 31 rfl).trans (hF 14 rfl)) fun _ _ _ => by kernel_rfl)⟩,
              .inr ⟨gkT 11 false rfl rfl 28 rfl (fun _ _ h => h), fun A w' γ hb hF hs => g_eq (op_cel 23 (.tmp 32) rfl _ ((hs.1 15 rfl 32 rfl).trans (hF 15 rfl)) _ ((hb.cell (p := ⟨g, j1 + 1, none⟩) hg).trans q2) _ Tryd.underlying23 rfl)⟩,
              .inr ⟨gkT 11 false rfl rfl 28 rfl (fun _ _ h => h), fun A w' γ hb hF hs => g_eq (op_conv 23 9 (.tmp 33) rfl ((hs.1 16 rfl 33 rfl).trans (hF 16 rfl)) (R.out.2.2.1 _ hb))⟩,
              .inr ⟨gkT 11 false rfl rfl 28 rfl (fun _ _ h => h), fun A w' γ hb hF hs => g_eq (op_move (.tmp 1) (.inl rfl) ((hs.2 1 rfl).trans rfl))⟩,
              .inr ⟨gkT 11 false rfl rfl 28 rfl (fun _ _ h => h), fun A w' γ hb hF hs => g_eq (op_move (.tmp 5) (.inl rfl) ((hs.2 5 rfl).trans rfl))⟩,
              .inr ⟨gkT 11 false rfl rfl 28 rfl (fun _ _ h => h), fun A w' γ hb hF hs => g_eq (op_idxa 43 (.tmp 35) (.tmp 36) rfl ((hs.1 18 rfl 35 rfl).trans (hF 18 rfl)) ((hs.1 19 rfl 36 rfl).trans (hF 19 rfl)) (R.out.2.1 _))⟩,
              .inr ⟨gkT 11 false rfl rfl 28 rfl (fun _ _ h => h), fun A w' γ hb hF hs => g_eq (op_mf 25 (.tmp 37) 1 1 rfl (g') (j2) ((hs.1 20 rfl 37 rfl).trans (hF 20 rfl)) fun _ _ _ => by kernel_rfl)⟩,
              .inr ⟨gkT 11 false rfl rfl 28 rfl (fun _ _ h => h), fun A w' γ hb hF hs => g_eq (op_cel 23 (.tmp 38) rfl _ ((hs.1 21 rfl 38 rfl).trans (hF 21 rfl)) _ ((hb.cell (p := ⟨g', j2 + 1, none⟩) hg').trans r2) _ Tryd.underlying23 rfl)⟩,
              .inr ⟨gkT 11 false rfl rfl 28 rfl (fun _ _ h => h), fun A w' γ hb hF hs => g_eq (op_conv 23 9 (.tmp 39) rfl ((hs.1 22 rfl 39 rfl).trans (hF 22 rfl)) (R.out.2.2.2.1 _ hb))⟩,
              .inr ⟨gkT 11 false rfl rfl 28 rfl (fun _ _ h => h), fun A w' γ hb hF hs => g_eq (op_nes 9 _ (.tmp 34) (.tmp 40) (P1) (P2) false rfl ((hs.1 17 rfl 34 rfl).trans (hF 17 rfl)) ((hs.1 23 rfl 40 rfl).trans (hF 23 rfl)) (g2))⟩,
              .inr ⟨gk0 rfl, fun A w' γ hb hF hs => g_eq (op_pick (.tmp 28) (.const (.bool true)) (.tmp 41) false rfl ((hs.1 11 rfl 28 rfl).trans (hF 11 rfl)) ((hs.1 24 rfl 41 rfl).trans (hF 24 rfl)))⟩,
              trivial⟩ ?_
            intro γ wx hb hF
            have ez : γ 25 = .bool false := hF 25 (by decide)
            simp only [Fr, if_true, Act.put, List.setIfInBounds_toArray, List.set_cons_zero, List.set_cons_succ]
            rw [ez]
            clear ez hF
            clear g1 g2 q1 q2 r1 r2
            have RB := Lib.hid hb; clear hb
            go_wp2
            go_roundw
            case rel => exact ⟨k + 1, by omega, by go_num, take_same R.out.2.2.2.2.1 R.out.2.2.2.2.2.2.1 R.out.2.2.2.2.2.2.2 (Prod.ext RR.out.1 RR.out.2), bt R.out.2.2.2.2.2.1 RB.out⟩
            case measure => simp [intOf]; omega
          · have g2 : (!(P1.toList == P2.toList)) = true := by rw [b2, decide_eq_false e2]; rfl
            have hbf : b = false := by
              rw [H.out.2.2.2.2]
              exact decide_eq_false fun h => e2 (by have h1 := R.out.2.2.2.2.2.2.1; rw [h, R.out.2.2.2.2.2.2.2] at h1; injection h1 with h1; rw [h1])
            have RR := Lib.hid hbf; clear e1 e2 b1 b2 hbf
            go_wp2_with fail
            refine wp_region_g [some 17, some 18, some 19, some 20, some 21, some 22, some 23, some 24, some 25, some 26, some 27, some 28, some 29, some 30, some 31, some 32, some 33, some 34, some 35, some 36, some 37, some 38, some 39, some 40, some 41, some 42] (FL [
                EqV (.slice (some ⟨g, o, none⟩) n1 c1),
                EqV (.int .i64 k),
                EqV (.pointer (some ⟨g, j1, none⟩)),
                EqV (.pointer (some ⟨g, j1 + 0, none⟩)),
                EqV (.string S1),
                EqV (.slice (some ⟨g', o', none⟩) n1 c2),
                EqV (.int .i64 k),
                EqV (.pointer (some ⟨g', j2, none⟩)),
                EqV (.pointer (some ⟨g', j2 + 0, none⟩)),
                EqV (.string S2),
                EqV (.bool false),
                EqV (.bool false),
                EqV (.slice (some ⟨g, o, none⟩) n1 c1),
                EqV (.int .i64 k),
                EqV (.pointer (some ⟨g, j1, none⟩)),
                EqV (.pointer (some ⟨g, j1 + 1, none⟩)),
                EqV (.slice p m1 d),
                EqV (.string P1),
                EqV (.slice (some ⟨g', o', none⟩) n1 c2),
                EqV (.int .i64 k),
                EqV (.pointer (some ⟨g', j2, none⟩)),
                EqV (.pointer (some ⟨g', j2 + 1, none⟩)),
                EqV (.slice p' m2 d'),
                EqV (.string P2),
                EqV (.bool true),
                EqV (.bool true)
              ]) (FL_keeps ⟨keeps_eq _, keeps_eq _, keeps_eq _, keeps_eq _, keeps_eq _, keeps_eq _, keeps_eq _, keeps_eq _, keeps_eq _, keeps_eq _, keeps_eq _, keeps_eq _, keeps_eq _, keeps_eq _, keeps_eq _, keeps_eq _, keeps_eq _, keeps_eq _, keeps_eq _, keeps_eq _, keeps_eq _, keeps_eq _, keeps_eq _, keeps_eq _, keeps_eq _, keeps_eq _, trivial⟩) (by kernel_rfl) rfl rfl rfl rfl ⟨
              .inr ⟨gk0 rfl, fun A w' γ hb hF hs => g_eq (op_move (.tmp 0) (.inl rfl) ((hs.2 0 rfl).trans rfl))⟩,
              .inr ⟨gk0 rfl, fun A w' γ hb hF hs => g_eq (op_move (.tmp 5) (.inl rfl) ((hs.2 5 rfl).trans rfl))⟩,
              .inr ⟨gk0 rfl, fun A w' γ hb hF hs => g_eq (op_idxa 43 (.tmp 17) (.tmp 18) rfl ((hs.1 0 rfl 17 rfl).trans (hF 0 rfl)) ((hs.1 1 rfl 18 rfl).trans (hF 1 rfl)) (R.out.1 _))⟩,
              .inr ⟨gk0 rfl, fun A w' γ hb hF hs => g_eq (op_mf 25 (.tmp 19) 0 0 rfl (g) (j1) ((hs.1 2 rfl 19 rfl).trans (hF 2 rfl)) fun _ _ _ => by kernel_rfl)⟩,
              .inr ⟨gk0 rfl, fun A w' γ hb hF hs => g_eq (op_cel 9 (.tmp 20) rfl _ ((hs.1 3 rfl 20 rfl).trans (hF 3 rfl)) _ ((hb.cell (p := ⟨g, j1, none⟩) hg).trans q1) _ Tryd.underlying9 rfl)⟩,
              .inr ⟨gk0 rfl, fun A w' γ hb hF hs => g_eq (op_move (.tmp 1) (.inl rfl) ((hs.2 1 rfl).trans rfl))⟩,
              .inr ⟨gk0 rfl, fun A w' γ hb hF hs => g_eq (op_move (.tmp 5) (.inl rfl) ((hs.2 5 rfl).trans rfl))⟩,
              .inr ⟨gk0 rfl, fun A w' γ hb hF hs => g_eq (op_idxa 43 (.tmp 22) (.tmp 23) rfl ((hs.1 5 rfl 22 rfl).trans (hF 5 rfl)) ((hs.1 6 rfl 23 rfl).trans (hF 6 rfl)) (R.out.2.1 _))⟩,
              .inr ⟨gk0 rfl, fun A w' γ hb hF hs => g_eq (op_mf 25 (.tmp 24) 0 0 rfl (g') (j2) ((hs.1 7 rfl 24 rfl).trans (hF 7 rfl)) fun _ _ _ => by kernel_rfl)⟩,
              .inr ⟨gk0 rfl, fun A w' γ hb hF hs => g_eq (op_cel 9 (.tmp 25) rfl _ ((hs.1 8 rfl 25 rfl).trans (hF 8 rfl)) _ ((hb.cell (p := ⟨g', j2, none⟩) hg').trans r1) _ Tryd.underlying9 rfl)⟩,
              .inr ⟨gk0 rfl, fun A w' γ hb hF hs => g_eq (op_nes 9 _ (.tmp 21) (.tmp 26) (S1) (S2) false rfl ((hs.1 4 rfl 21 rfl).trans (hF 4 rfl)) ((hs.1 9 rfl 26 rfl).trans (hF 9 rfl)) (g1))⟩,
              .inr ⟨gk0 rfl, fun A w' γ hb hF hs => g_eq (op_move (.tmp 27) (.inl rfl) ((hs.1 10 rfl 27 rfl).trans (hF 10 rfl)))⟩,
              .inr ⟨gkT 11 false rfl rfl 28 rfl (fun _ _ h => h), fun A w' γ hb hF hs => g_eq (op_move (.tmp 0) (.inl rfl) ((hs.2 0 rfl).trans rfl))⟩,
              .inr ⟨gkT 11 false rfl rfl 28 rfl (fun _ _ h => h), fun A w' γ hb hF hs => g_eq (op_move (.tmp 5) (.inl rfl) ((hs.2 5 rfl).trans rfl))⟩,
              .inr ⟨gkT 11 false rfl rfl 28 rfl (fun _ _ h => h), fun A w' γ hb hF hs => g_eq (op_idxa 43 (.tmp 29) (.tmp 30) rfl ((hs.1 12 rfl 29 rfl).trans (hF 12 rfl)) ((hs.1 13 rfl 30 rfl).trans (hF 13 rfl)) (R.out.1 _))⟩,
              .inr ⟨gkT 11 false rfl rfl 28 rfl (fun _ _ h => h), fun A w' γ hb hF hs => g_eq (op_mf 25 (.tmp 31) 1 1 rfl (g) (j1) ((hs.1 14 rfl 31 rfl).trans (hF 14 rfl)) fun _ _ _ => by kernel_rfl)⟩,
              .inr ⟨gkT 11 false rfl rfl 28 rfl (fun _ _ h => h), fun A w' γ hb hF hs => g_eq (op_cel 23 (.tmp 32) rfl _ ((hs.1 15 rfl 32 rfl).trans (hF 15 rfl)) _ ((hb.cell (p := ⟨g, j1 + 1, none⟩) hg).trans q2) _ Tryd.underlying23 rfl)⟩,
              .inr ⟨gkT 11 false rfl rfl 28 rfl (fun _ _ h => h), fun A w' γ hb hF hs => g_eq (op_conv 23 9 (.tmp 33) rfl ((hs.1 16 rfl 33 rfl).trans (hF 16 rfl)) (R.out.2.2.1 _ hb))⟩,
              .inr ⟨gkT 11 false rfl rfl 28 rfl (fun _ _ h => h), fun A w' γ hb hF hs => g_eq (op_move (.tmp 1) (.inl rfl) ((hs.2 1 rfl).trans rfl))⟩,
              .inr ⟨gkT 11 false rfl rfl 28 rfl (fun _ _ h => h), fun A w' γ hb hF hs => g_eq (op_move (.tmp 5) (.inl rfl) ((hs.2 5 rfl).trans rfl))⟩,
              .inr ⟨gkT 11 false rfl rfl 28 rfl (fun _ _ h => h), fun A w' γ hb hF hs => g_eq (op_idxa 43 (.tmp 35) (.tmp 36) rfl ((hs.1 18 rfl 35 rfl).trans (hF 18 rfl)) ((hs.1 19 rfl 36 rfl).trans (hF 19 rfl)) (R.out.2.1 _))⟩,
              .inr ⟨gkT 11 false rfl rfl 28 rfl (fun _ _ h => h), fun A w' γ hb hF hs => g_eq (op_mf 25 (.tmp 37) 1 1 rfl (g') (j2) ((hs.1 20 rfl 37 rfl).trans (hF 20 rfl)) fun _ _ _ => by kernel_rfl)⟩,
              .inr ⟨gkT 11 false rfl rfl 28 rfl (fun _ _ h => h), fun A w' γ hb hF hs => g_eq (op_cel 23 (.tmp 38) rfl _ ((hs.1 21 rfl 38 rfl).trans (hF 21 rfl)) _ ((hb.cell (p := ⟨g', j2 + 1, none⟩) hg').trans r2) _ Tryd.underlying23 rfl)⟩,
              .inr ⟨gkT 11 false rfl rfl 28 rfl (fun _ _ h => h), fun A w' γ hb hF hs => g_eq (op_conv 23 9 (.tmp 39) rfl ((hs.1 22 rfl 39 rfl).trans (hF 22 rfl)) (R.out.2.2.2.1 _ hb))⟩,
              .inr ⟨gkT 11 false rfl rfl 28 rfl (fun _ _ h => h), fun A w' γ hb hF hs => g_eq (op_nes 9 _ (.tmp 34) (.tmp 40) (P1) (P2) true rfl ((hs.1 17 rfl 34 rfl).trans (hF 17 rfl)) ((hs.1 23 rfl 40 rfl).trans (hF 23 rfl)) (g2))⟩,
              .inr ⟨gk0 rfl, fun A w' γ hb hF hs => g_eq (op_pick (.tmp 28) (.const (.bool true)) (.tmp 41) false rfl ((hs.1 11 rfl 28 rfl).trans (hF 11 rfl)) ((hs.1 24 rfl 41 rfl).trans (hF 24 rfl)))⟩,
              trivial⟩ ?_
            intro γ wx hb hF
            have ez : γ 25 = .bool true := hF 25 (by decide)
            simp only [Fr, if_true, Act.put, List.setIfInBounds_toArray, List.set_cons_zero, List.set_cons_succ]
            rw [ez]
            clear ez hF
            clear g1 g2 q1 q2 r1 r2
            have RB := Lib.hid hb; clear hb
            go_wp2
            go_ret
            exact ⟨ret_b RR.out.symm, bt R.out.2.2.2.2.2.1 RB.out⟩
        · have g1 : (!(S1.toList == S2.toList)) = true := by rw [b1, decide_eq_false e1]; rfl
          have hbf : b = false := by
            rw [H.out.2.2.2.2]
            exact decide_eq_false fun h => e1 (by have h1 := R.out.2.2.2.2.2.2.1; rw [h, R.out.2.2.2.2.2.2.2] at h1; injection h1 with h1; rw [h1])
          have RR := Lib.hid hbf; clear e1 b1 b2 hbf
          go_wp2_with fail
          refine wp_region_g [some 17, some 18, some 19, some 20, some 21, some 22, some 23, some 24, some 25, some 26, some 27, some 28, some 29, some 30, some 31, some 32, some 33, some 34, some 35, some 36, some 37, some 38, some 39, some 40, some 41, some 42] (FL [
              EqV (.slice (some ⟨g, o, none⟩) n1 c1),
              EqV (.int .i64 k),
              EqV (.pointer (some ⟨g, j1, none⟩)),
              EqV (.pointer (some ⟨g, j1 + 0, none⟩)),
              EqV (.string S1),
              EqV (.slice (some ⟨g', o', none⟩) n1 c2),
              EqV (.int .i64 k),
              EqV (.pointer (some ⟨g', j2, none⟩)),
              EqV (.pointer (some ⟨g', j2 + 0, none⟩)),
              EqV (.string S2),
              EqV (.bool true),
              EqV (.bool true),
              EqV (undef),
              EqV (undef),
              EqV (undef),
              EqV (undef),
              EqV (undef),
              EqV (undef),
              EqV (undef),
              EqV (undef),
              EqV (undef),
              EqV (undef),
              EqV (undef),
              EqV (undef),
              EqV (undef),
              EqV (.bool true)
            ]) (FL_keeps ⟨keeps_eq _, keeps_eq _, keeps_eq _, keeps_eq _, keeps_eq _, keeps_eq _, keeps_eq _, keeps_eq _, keeps_eq _, keeps_eq _, keeps_eq _, keeps_eq _, keeps_eq _, keeps_eq _, keeps_eq _, keeps_eq _, keeps_eq _, keeps_eq _, keeps_eq _, keeps_eq _, keeps_eq _, keeps_eq _, keeps_eq _, keeps_eq _, keeps_eq _, keeps_eq _, trivial⟩) (by kernel_rfl) rfl rfl rfl rfl ⟨
            .inr ⟨gk0 rfl, fun A w' γ hb hF hs => g_eq (op_move (.tmp 0) (.inl rfl) ((hs.2 0 rfl).trans rfl))⟩,
            .inr ⟨gk0 rfl, fun A w' γ hb hF hs => g_eq (op_move (.tmp 5) (.inl rfl) ((hs.2 5 rfl).trans rfl))⟩,
            .inr ⟨gk0 rfl, fun A w' γ hb hF hs => g_eq (op_idxa 43 (.tmp 17) (.tmp 18) rfl ((hs.1 0 rfl 17 rfl).trans (hF 0 rfl)) ((hs.1 1 rfl 18 rfl).trans (hF 1 rfl)) (R.out.1 _))⟩,
            .inr ⟨gk0 rfl, fun A w' γ hb hF hs => g_eq (op_mf 25 (.tmp 19) 0 0 rfl (g) (j1) ((hs.1 2 rfl 19 rfl).trans (hF 2 rfl)) fun _ _ _ => by kernel_rfl)⟩,
            .inr ⟨gk0 rfl, fun A w' γ hb hF hs => g_eq (op_cel 9 (.tmp 20) rfl _ ((hs.1 3 rfl 20 rfl).trans (hF 3 rfl)) _ ((hb.cell (p := ⟨g, j1, none⟩) hg).trans q1) _ Tryd.underlying9 rfl)⟩,
            .inr ⟨gk0 rfl, fun A w' γ hb hF hs => g_eq (op_move (.tmp 1) (.inl rfl) ((hs.2 1 rfl).trans rfl))⟩,
            .inr ⟨gk0 rfl, fun A w' γ hb hF hs => g_eq (op_move (.tmp 5) (.inl rfl) ((hs.2 5 rfl).trans rfl))⟩,
            .inr ⟨gk0 rfl, fun A w' γ hb hF hs => g_eq (op_idxa 43 (.tmp 22) (.tmp 23) rfl ((hs.1 5 rfl 22 rfl).trans (hF 5 rfl)) ((hs.1 6 rfl 23 rfl).trans (hF 6 rfl)) (R.out.2.1 _))⟩,
            .inr ⟨gk0 rfl, fun A w' γ hb hF hs => g_eq (op_mf 25 (.tmp 24) 0 0 rfl (g') (j2) ((hs.1 7 rfl 24 rfl).trans (hF 7 rfl)) fun _ _ _ => by kernel_rfl)⟩,
            .inr ⟨gk0 rfl, fun A w' γ hb hF hs => g_eq (op_cel 9 (.tmp 25) rfl _ ((hs.1 8 rfl 25 rfl).trans (hF 8 rfl)) _ ((hb.cell (p := ⟨g', j2, none⟩) hg').trans r1) _ Tryd.underlying9 rfl)⟩,
            .inr ⟨gk0 rfl, fun A w' γ hb hF hs => g_eq (op_nes 9 _ (.tmp 21) (.tmp 26) (S1) (S2) true rfl ((hs.1 4 rfl 21 rfl).trans (hF 4 rfl)) ((hs.1 9 rfl 26 rfl).trans (hF 9 rfl)) (g1))⟩,
            .inr ⟨gk0 rfl, fun A w' γ hb hF hs => g_eq (op_move (.tmp 27) (.inl rfl) ((hs.1 10 rfl 27 rfl).trans (hF 10 rfl)))⟩,
            .inl ⟨gkF 11 false rfl rfl 28 rfl (fun _ _ h => h), fun _ => rfl⟩,
            .inl ⟨gkF 11 false rfl rfl 28 rfl (fun _ _ h => h), fun _ => rfl⟩,
            .inl ⟨gkF 11 false rfl rfl 28 rfl (fun _ _ h => h), fun _ => rfl⟩,
            .inl ⟨gkF 11 false rfl rfl 28 rfl (fun _ _ h => h), fun _ => rfl⟩,
            .inl ⟨gkF 11 false rfl rfl 28 rfl (fun _ _ h => h), fun _ => rfl⟩,
            .inl ⟨gkF 11 false rfl rfl 28 rfl (fun _ _ h => h), fun _ => rfl⟩,
            .inl ⟨gkF 11 false rfl rfl 28 rfl (fun _ _ h => h), fun _ => rfl⟩,
            .inl ⟨gkF 11 false rfl rfl 28 rfl (fun _ _ h => h), fun _ => rfl⟩,
            .inl ⟨gkF 11 false rfl rfl 28 rfl (fun _ _ h => h), fun _ => rfl⟩,
            .inl ⟨gkF 11 false rfl rfl 28 rfl (fun _ _ h => h), fun _ => rfl⟩,
            .inl ⟨gkF 11 false rfl rfl 28 rfl (fun _ _ h => h), fun _ => rfl⟩,
            .inl ⟨gkF 11 false rfl rfl 28 rfl (fun _ _ h => h), fun _ => rfl⟩,
            .inl ⟨gkF 11 false rfl rfl 28 rfl (fun _ _ h => h), fun _ => rfl⟩,
            .inr ⟨gk0 rfl, fun A w' γ hb hF hs => g_eq (op_pick (.tmp 28) (.const (.bool true)) (.tmp 41) true rfl ((hs.1 11 rfl 28 rfl).trans (hF 11 rfl)) rfl)⟩,
            trivial⟩ ?_
          intro γ wx hb hF
          have ez : γ 25 = .bool true := hF 25 (by decide)
          simp only [Fr, if_true, Act.put, List.setIfInBounds_toArray, List.set_cons_zero, List.set_cons_succ]
          rw [ez]
          clear ez hF
          clear g1 q1 q2 r1 r2
          have RB := Lib.hid hb; clear hb
          go_wp2
          go_ret
          exact ⟨ret_b RR.out.symm, bt R.out.2.2.2.2.2.1 RB.out⟩
      · obtain rfl : k = n1 := by omega
        have hbt : b = true := by
          rw [H.out.2.2.2.2]
          have h1 := H.out.2.2.1
          have h2 := H.out.2.2.2.1
          rw [List.take_of_length_le (by omega), List.take_of_length_le (by omega)] at hT
          exact decide_eq_true hT
        have RR := Lib.hid (And.intro hbt hB); clear hbt hB hT
        go_wp2
        go_ret
        exact ⟨ret_b RR.out.1.symm, RR.out.2⟩
  · have hbf : b = false := by
      rw [H.out.2.2.2.2]
      exact decide_eq_false fun h => hne (by rw [H.out.2.2.1, H.out.2.2.2.1, h])
    have hnei : ¬ (n1 : Int) = (n2 : Int) := by omega
    have RR := Lib.hid hbf; clear hbf
    go_wp2
    go_ret
    exact ⟨ret_b RR.out.symm, Below.refl _ _⟩
end Go.Proofs.YticiipddilabfaaDoor

namespace Go.Proofs.YticiipddilabfaaDoor
open Go.RowKit
set_option linter.unusedVariables false
theorem own2_below {w w' : World} {base : Nat} {e : TypeId} {v : Value} {n : Nat} {xs : List Value} (h : w.ownsRow base e 2 v n xs) (hb : Below w.heap.size w w') : w'.ownsRow base e 2 v n xs :=
  h.kept (row := none) ⟨hb.os, hb.tape, hb.output, hb.size, fun k hk _ => hb.block k hk⟩ (by cases hv : v.ownBlock <;> simp)
theorem own2_rdc {w : World} {base : Nat} {e : TypeId} {v : Value} {n : Nat} {cs : List Value} (h : w.ownsRow base e 2 v n cs) : ∃ a c, v = .slice a n c ∧ RdC w a cs ∧ n ≤ c ∧ c ≤ maxLen ∧ (a = none → n = 0 ∧ c = 0) := by
  obtain ⟨h0, ⟨hv, hz⟩ | ⟨g, cap, cur, hv, hb, hg, q1, q2, q3, q4⟩⟩ := h
  · subst hz
    exact ⟨none, 0, hv, .inl (List.length_eq_zero_iff.1 (by omega)), Nat.le_refl _, Nat.zero_le _, fun _ => ⟨rfl, rfl⟩⟩
  · refine ⟨some ⟨g, 0, none⟩, cap, hv, .inr ⟨g, 0, rfl, (show Blk w g _ cur from hg).lt, fun j u hu => ?_⟩, q1, q2, fun h => by cases h⟩
    rw [Nat.zero_add]
    refine blk_get (show Blk w g _ cur from hg) j _ ?_
    rw [← q4, List.getElem?_take] at hu
    split at hu
    · simpa using hu
    · cases hu
theorem msgCs_take (L : List (MsgT × Value)) (k : Nat) (x : MsgT × Value) (h : L[k]? = some x) : msgCs (L.take (k + 1)) = msgCs (L.take k) ++ [.string (bstr x.1.1), x.2] := by
  rw [List.take_add_one, h]
  unfold msgCs
  rw [List.flatMap_append]
  rfl
set_option maxRecDepth 100000 in
theorem Theirs_any (M : Int) (K bad : Int) (a : Option Addr) (n c : Nat) (w : World) : Calls Tryd.prog 17 #[.agg #[.int .u32 M, .int .i64 K, .slice a n c, .int .i64 bad]] w fun e w' => e = .returned (.agg #[.int .u32 M, .int .i64 K, .slice a n c, .int .i64 bad]) ∧ Below w.heap.size w w' := by
  have hbu : ∀ (a : Option Addr) (n c : Nat) (w : World), (Instr.build 28 #[(0, .int .u32 M), (1, .int .i64 K), (2, .slice a n c), (3, .int .i64 bad)]).run Tryd.prog w = .ok (.agg #[.int .u32 M, .int .i64 K, .slice a n c, .int .i64 bad]) w := fun a n c w => by kernel_rfl
  go_enter Tryd.func17, Tryd.ntmps17
  go_wp2
  refine bodyPost_ret (v := .agg #[.int .u32 M, .int .i64 K, .slice a n c, .int .i64 bad]) (by simp [results, Tryd.results17, go_sem]) rfl ⟨rfl, ?_⟩
  exact ba (ba (Below.refl _ _) _) _
set_option maxRecDepth 100000 in
theorem Ours_any (M : Int) (K bad : Int) (a : Option Addr) (n c : Nat) (w : World) : Calls Tryd.prog 14 #[.agg #[.int .u32 M, .int .i64 K, .slice a n c, .int .i64 bad]] w fun e w' => e = .returned (.agg #[.int .u32 M, .int .i64 K, .slice a n c, .int .i64 bad]) ∧ Below w.heap.size w w' := by
  have hbu : ∀ (a : Option Addr) (n c : Nat) (w : World), (Instr.build 38 #[(0, .int .u32 M), (1, .int .i64 K), (2, .slice a n c), (3, .int .i64 bad)]).run Tryd.prog w = .ok (.agg #[.int .u32 M, .int .i64 K, .slice a n c, .int .i64 bad]) w := fun a n c w => by kernel_rfl
  go_enter Tryd.func14, Tryd.ntmps14
  go_wp2
  refine bodyPost_ret (v := .agg #[.int .u32 M, .int .i64 K, .slice a n c, .int .i64 bad]) (by simp [results, Tryd.results14, go_sem]) rfl ⟨rfl, ?_⟩
  exact ba (ba (Below.refl _ _) _) _
set_option maxRecDepth 100000 in
theorem Same_true (M : Int) (K bad : Int) (l : List UInt8) (n : Nat) (hn : n = l.length) (a1 : Option Addr) (c1 : Nat) (a2 : Option Addr) (c2 : Nat) (w : World) (h1 : RdS w a1 l) (h2 : RdS w a2 l) : Calls Tryd.prog 16 #[.agg #[.int .u32 M, .int .i64 K, .slice a1 n c1, .int .i64 bad], .agg #[.int .u32 M, .int .i64 K, .slice a2 n c2, .int .i64 bad]] w fun e w' => e = .returned (.bool true) ∧ Below w.heap.size w w' := by
  have B0 : Below w.heap.size w ((w.alloc (.cells #[.int .u32 M, .int .i64 K, .slice a1 l.length c1, .int .i64 bad] 28)).alloc (.cells #[.int .u32 M, .int .i64 K, .slice a2 l.length c2, .int .i64 bad] 28)) := ba (ba (Below.refl _ _) _) _
  have s1 := str_of (c := c1) (h1.calls B0) rfl
  have s2 := str_of (c := c2) (h2.calls B0) rfl
  obtain ⟨S, hS⟩ : ∃ S, S = bstr l := ⟨_, rfl⟩
  rw [← hS, ← hn] at s1 s2
  rw [← hn] at B0
  have H := Lib.hid B0; clear B0 h1 h2 hS hn
  go_enter Tryd.func16, Tryd.ntmps16
  go_wp2
  go_ret
  exact ⟨rfl, H.out⟩
theorem bsMR_run (S : ByteArray) (p : Option Addr) (m d : Nat) (w : World) : (Instr.buildSlice 43 1 #[(0, .agg #[.string S, .slice p m d])]).run Tryd.prog w = .ok (.slice (some ⟨w.heap.size, 0, none⟩) 1 1) (w.alloc (.cells #[.string S, .slice p m d] 25)) := by
  obtain ⟨i, hi⟩ := Option.isSome_iff_exists.1 (show (Tryd.prog.info? 25).isSome = true by kernel_rfl)
  have h1 : i.size = 2 := by
    have : (Tryd.prog.info? 25).map (·.size) = some 2 := by kernel_rfl
    rw [hi] at this
    simpa using this
  have hz : i.zero = some (.agg #[.string ⟨#[]⟩, .slice none 0 0]) := by
    have : (Tryd.prog.info? 25).map (·.zero) = some (some (.agg #[.string ⟨#[]⟩, .slice none 0 0])) := by kernel_rfl
    rw [hi] at this
    simpa using this
  unfold Instr.buildSlice
  simp [run_underlying Tryd.underlying43, go_sem, sizeOf, typeInfo, hi, h1, hz, zeroValue, Instr.fill, Value.cells, newRow]
theorem op_bsM {Q : Exit → Act → World → Prop} {o : Oper} {A : Act} {w : World} (S : ByteArray) (p : Option Addr) (m d : Nat) (x : Operand) (ho : o.op = .buildSlice 43 1 #[(0, x)]) (hx : A.eval x = .agg #[.string S, .slice p m d]) :
    o.wp Tryd.prog A w (fun a' w'' => ∃ g, a' = A.put o.dst (.slice (some ⟨g, 0, none⟩) 1 1) ∧ Below w.heap.size w w'' ∧ Blk w'' g 25 #[.string S, .slice p m d]) Q := by
  have hrun : (execOp A.eval o).run Tryd.prog w = .ok (.value (.slice (some ⟨w.heap.size, 0, none⟩) 1 1)) (w.alloc (.cells #[.string S, .slice p m d] 25)) := by
    unfold execOp
    generalize A.eval = ρ at *
    simp only [ho]
    simp [hx, bsMR_run, go_sem]
  unfold Oper.wp
  rw [hrun, Oper.upon_value]
  exact ⟨_, rfl, ba (Below.refl _ _) _, Blk.new _ _ _⟩
theorem op_bldM {Q : Exit → Act → World → Prop} {o : Oper} {A : Act} {w : World} (S : ByteArray) (p : Option Addr) (m d : Nat) (x y : Operand) (ho : o.op = .build 25 #[(0, x), (1, y)]) (hx : A.eval x = .string S) (hy : A.eval y = .slice p m d) :
    o.wp Tryd.prog A w (fun a' w'' => a' = A.put o.dst (.agg #[.string S, .slice p m d]) ∧ Below w.heap.size w w'') Q := by
  have hbu : (Instr.build 25 #[(0, .string S), (1, .slice p m d)]).run Tryd.prog w = .ok (.agg #[.string S, .slice p m d]) w := by kernel_rfl
  refine op_run ?_
  unfold execOp
  generalize A.eval = ρ at *
  simp only [ho]
  simp [hx, hy, hbu, go_sem]
set_option maxRecDepth 100000 in
set_option maxHeartbeats 4000000 in
theorem msgs_any (T : List MsgT) (a : Option Addr) (n c : Nat) (hn : n ≤ 1000000) (w : World) (h : SlM T (.slice a n c) w) :
    Calls Tryd.prog 19 #[.slice a n c] w fun e w' => ∃ u, e = .returned u ∧ Below w.heap.size w w' ∧ SlM T u w' := by
  obtain ⟨L, a0, c0, h1, h2, h3, h4, h5, h6⟩ := h
  injection h1 with e1 e2 e3
  subst e1 e3
  have hL : L.length = n := by rw [e2, ← h2, List.length_map]
  obtain ⟨i0, hi, hz0, hz1, hz2⟩ := info_parts (show (Tryd.prog.info? 25).map (fun i => (i.zero, i.size, i.bytes)) = some (some (.agg #[.string ⟨#[]⟩, .slice none 0 0]), 2, 40) by kernel_rfl)
  have I := Lib.hid (And.intro hi (And.intro hz0 (And.intro hz1 hz2))); clear hi hz0 hz1 hz2
  have H := Lib.hid (And.intro h2 (And.intro h3 (And.intro h4 (And.intro hL e2)))); clear h2 h3 h4 h5 h6 hL e2
  go_enter Tryd.func19, Tryd.ntmps19
  go_wp2
  go_loopw [3, 4] (fun v i wr => ∃ k : Nat, k ≤ n ∧ i = .int .i64 k ∧ wr.ownsRow w.heap.size 25 2 v k (msgCs (L.take k)) ∧ Below w.heap.size w wr) (fun v i _ => n - (intOf i).toNat)
  case atStart => exact ⟨0, Nat.zero_le _, rfl, World.ownsRow_nil _ _ _ _, Below.refl _ _⟩
  case round =>
    obtain ⟨k, hk, rfl, hO, hB⟩ := hrel
    obtain ⟨va, vc, rfl⟩ := own2_slice hO
    by_cases hlt : k < n
    · have hlti : (k : Int) < (n : Int) := by omega
      obtain ⟨x, hx⟩ : ∃ x, L[k]? = some x := ⟨_, List.getElem?_eq_getElem (by have := H.out.2.2.2.1; omega)⟩
      obtain ⟨c1, c2⟩ := msgCs_at L k x hx
      obtain ⟨p, d, hp, _⟩ := H.out.2.1 x (List.mem_of_getElem? hx)
      obtain ⟨g, o, rfl, hg, hc⟩ : ∃ g o, a = some ⟨g, o, none⟩ ∧ g < w.heap.size ∧ ∀ j u, (msgCs L)[j]? = some u → w.cell? ⟨g, o + j, none⟩ = some u := by
        rcases H.out.2.2.1 with h | h
        · rw [h] at c1; cases c1
        · exact h
      have q1 := hc _ _ c1
      have q2 := hc _ _ c2
      rw [hp] at q2
      have hT := msgCs_take L k x hx
      rw [hp] at hT
      have ix := fun w => idx_msgF g o n c k hlt w
      obtain ⟨S, hS⟩ : ∃ S, S = bstr x.1.1 := ⟨_, rfl⟩
      rw [← hS] at q1 hT
      obtain ⟨m, hm⟩ : ∃ m, m = x.1.2.length := ⟨_, rfl⟩
      rw [← hm] at q2 hT
      obtain ⟨j, hj⟩ : ∃ j, j = o + 2 * k := ⟨_, rfl⟩
      rw [← hj] at q1 ix
      replace q2 : w.cell? ⟨g, j + 1, none⟩ = some (.slice p m d) := by rw [hj]; exact q2
      have hsz := hB.size
      have R := Lib.hid (And.intro ix (And.intro hT (And.intro hO hB))); clear ix hT hO hB hS hm hj hc c1 c2 hx hp
      go_wp2_with fail
      refine wp_region_app [some 11, some 12, some 13, some 14, some 15, some 16, some 17, some 18, some 19, some 20, some 21, some 22, some 23, some 24, some 3] (fun i => ([.slice va k vc, .slice (some ⟨g, o, none⟩) n c, .int .i64 k, .pointer (some ⟨g, j, none⟩), .pointer (some ⟨g, j + 0, none⟩), .string S, .slice (some ⟨g, o, none⟩) n c, .int .i64 k, .pointer (some ⟨g, j, none⟩), .pointer (some ⟨g, j + 1, none⟩), .slice p m d, .agg #[.string S, .slice p m d]] : List Value).getD i undef) 13 1
        (fun w' => Below w.heap.size w w') (fun w' => w'.ownsRow w.heap.size 25 2 (.slice va k vc) k (msgCs (L.take k)))
        (fun g w' => Blk w' g 25 #[.string S, .slice p m d]) (fun u w' => w'.ownsRow w.heap.size 25 2 u (k + 1) (msgCs (L.take k) ++ [.string S, .slice p m d]))
        (fun w1 w2 hb => ⟨fun h => bt h hb, fun h => own2_below h hb, fun g h => h.calls hb, fun u h => own2_below h hb⟩) (by kernel_rfl) rfl rfl rfl rfl rfl (by omega) rfl (fun o ho => by injection ho with ho; subst ho; rfl) rfl R.out.2.2.2 R.out.2.2.1 ⟨
        .inl ⟨rfl, rfl, fun γ A w' hk hs hd => op_move (.tmp 3) (.inl rfl) ((hd rfl 3 rfl).trans rfl)⟩,
        .inl ⟨rfl, rfl, fun γ A w' hk hs hd => op_move (.tmp 0) (.inl rfl) ((hs.2 0 rfl).trans rfl)⟩,
        .inl ⟨rfl, rfl, fun γ A w' hk hs hd => op_move (.tmp 4) (.inl rfl) ((hs.2 4 rfl).trans rfl)⟩,
        .inl ⟨rfl, rfl, fun γ A w' hk hs hd => op_idxa 39 (.tmp 12) (.tmp 13) rfl ((hs.1 1 rfl 12 rfl).trans rfl) ((hs.1 2 rfl 13 rfl).trans rfl) (R.out.1 _)⟩,
        .inl ⟨rfl, rfl, fun γ A w' hk hs hd => op_mf 32 (.tmp 14) 0 0 rfl g j ((hs.1 3 rfl 14 rfl).trans rfl) fun _ _ _ => by kernel_rfl⟩,
        .inl ⟨rfl, rfl, fun γ A w' hk hs hd => op_cel 9 (.tmp 15) rfl _ ((hs.1 4 rfl 15 rfl).trans rfl) _ ((hk.cell (p := ⟨g, j, none⟩) hg).trans q1) _ Tryd.underlying9 rfl⟩,
        .inl ⟨rfl, rfl, fun γ A w' hk hs hd => op_move (.tmp 0) (.inl rfl) ((hs.2 0 rfl).trans rfl)⟩,
        .inl ⟨rfl, rfl, fun γ A w' hk hs hd => op_move (.tmp 4) (.inl rfl) ((hs.2 4 rfl).trans rfl)⟩,
        .inl ⟨rfl, rfl, fun γ A w' hk hs hd => op_idxa 39 (.tmp 17) (.tmp 18) rfl ((hs.1 6 rfl 17 rfl).trans rfl) ((hs.1 7 rfl 18 rfl).trans rfl) (R.out.1 _)⟩,
        .inl ⟨rfl, rfl, fun γ A w' hk hs hd => op_mf 32 (.tmp 19) 1 1 rfl g j ((hs.1 8 rfl 19 rfl).trans rfl) fun _ _ _ => by kernel_rfl⟩,
        .inl ⟨rfl, rfl, fun γ A w' hk hs hd => op_cel 23 (.tmp 20) rfl _ ((hs.1 9 rfl 20 rfl).trans rfl) _ ((hk.cell (p := ⟨g, j + 1, none⟩) hg).trans q2) _ Tryd.underlying23 rfl⟩,
        .inl ⟨rfl, rfl, fun γ A w' hk hs hd => op_bldM S p m d (.tmp 16) (.tmp 21) rfl ((hs.1 5 rfl 16 rfl).trans rfl) ((hs.1 10 rfl 21 rfl).trans rfl)⟩,
        .inr (.inl ⟨rfl, fun γ A w' hk hs => op_bsM S p m d (.tmp 22) rfl ((hs.1 11 rfl 22 rfl).trans rfl)⟩),
        .inr (.inr ⟨rfl, rfl, fun γ A w' hk hr hc hs => by
          have hlb := hr.lt
          exact wp_append_own w' (.tmp 11) (.tmp 23) 43 rfl w.heap.size 25 i0 (.agg #[.string ⟨#[]⟩, .slice none 0 0]) 2 40 Tryd.underlying43 I.out.1 I.out.2.1 I.out.2.2.1 I.out.2.2.2 rfl (by omega) (.slice va k vc) k (msgCs (L.take k)) ((hs.1 0 rfl 11 rfl).trans rfl) hr ⟨γ.1, 0, none⟩ 1 1 [.string S, .slice p m d] ((hs.1 12 rfl 23 rfl).trans rfl) rfl (fun jj u hu => by
            match jj with
            | 0 => injection hu with hu; subst hu; exact blk_get hc 0 _ rfl
            | 1 => injection hu with hu; subst hu; exact blk_get hc 1 _ rfl
            | jj + 2 => cases hu) (by simp [Value.oneCell']) (by unfold maxLen; omega) (by omega) hk.size
            fun v' w'' h2 h3 h4 => ⟨v', rfl, h2, below_grown hk h3 hk.size (fun k e => by have := (hlb _ e).1; omega)⟩⟩),
        .inl ⟨rfl, rfl, fun γ A w' hk hs hd => op_move (.tmp 24) (.inr rfl) ((hs.1 13 rfl 24 rfl).trans rfl)⟩,
        trivial⟩ ?_
      rintro ⟨g', u⟩ wz hT hK
      simp only [Fr, if_true, Act.put, List.setIfInBounds_toArray, List.set_cons_zero, List.set_cons_succ]
      have ez : vApp (fun i => ([.slice va k vc, .slice (some ⟨g, o, none⟩) n c, .int .i64 k, .pointer (some ⟨g, j, none⟩), .pointer (some ⟨g, j + 0, none⟩), .string S, .slice (some ⟨g, o, none⟩) n c, .int .i64 k, .pointer (some ⟨g, j, none⟩), .pointer (some ⟨g, j + 1, none⟩), .slice p m d, .agg #[.string S, .slice p m d]] : List Value).getD i undef) 13 1 (g', u) 14 = u := rfl
      rw [ez]
      clear ez
      have Z := Lib.hid (And.intro hT hK); clear hT hK
      generalize vApp (fun i => ([.slice va k vc, .slice (some ⟨g, o, none⟩) n c, .int .i64 k, .pointer (some ⟨g, j, none⟩), .pointer (some ⟨g, j + 0, none⟩), .string S, .slice (some ⟨g, o, none⟩) n c, .int .i64 k, .pointer (some ⟨g, j, none⟩), .pointer (some ⟨g, j + 1, none⟩), .slice p m d, .agg #[.string S, .slice p m d]] : List Value).getD i undef) 13 1 (g', u) = vv
      go_wp2
      go_roundw
      case rel => exact ⟨k + 1, by omega, by go_num, by rw [R.out.2.1]; exact Z.out.1, Z.out.2⟩
      case measure => simp [intOf]; omega
    · obtain rfl : k = n := by omega
      have R := Lib.hid (And.intro hO hB); clear hO hB
      go_wp2
      refine bodyPost_ret (v := .slice va k vc) (by simp [results, Tryd.results19, go_sem]) rfl ?_
      obtain ⟨hO, hB⟩ := R.out
      have hL := H.out.2.2.2.1
      rw [List.take_of_length_le (by omega)] at hO
      obtain ⟨a', c', e, r1, r2, _, r3⟩ := own2_rdc hO
      have e2 := H.out.2.2.2.2
      exact ⟨_, rfl, hB, L, a', c', by rw [e, ← e2], H.out.1, fun x hx => (H.out.2.1 x hx).keep hB, r1, by omega, fun h => by have := r3 h; omega⟩
end Go.Proofs.YticiipddilabfaaDoor
