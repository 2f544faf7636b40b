/- A region whose order is open and whose operations may be guarded ('&&', '||'): each value is known by what holds of it. Single operations of regions: comparisons, signs, lengths of strings. florinlaw02's theirs; the document's Same, of states that are the same. A string is ranged over while the world turns; hexadecimal digits. A hash as a text, and that text read again. hash.Cmp, bytes.Equal, hash.Witness, hash.Pair. -/
import Derived.Test.YtlegcceaoglpoaaDoorIsB
import Derived.Deep.MidRow
import Derived.Conc.EventLaws
import Derived.Test.YtlegcceaoglpoaaDoorIsG
import Derived.Test.YtlegcceaoglpoaaDoorIsA
import Derived.Laws.RangeString
import Derived.Laws.RangeAny
import Derived.Test.YtlegcceaoglpoaaDoorProg
import Derived.Test.YtlegcceaoglpoaaDoorIsF
import Derived.StillTailTactics
import Derived.Lib.Bytes
namespace Go.Proofs.YtlegcceaoglpoaaDoor
open Go.RowKit
set_option linter.unusedVariables false

/-- Is the operation wanted (b), whatever the order? -/
def GOk (F : Nat → Value → World → Prop) (dsts : List (Option Tmp)) (o : Oper) (b : Bool) : Prop :=
  (o.guard = none ∧ b = true) ∨ ∃ j want c, o.guard = some (j, want) ∧ (edgesOf o).contains j = true ∧ (∃ t, dsts[j]? = some (some t)) ∧ (∀ u w, F j u w → u = .bool c) ∧ (c == want) = b
def GStep (P : Program) (Q : Exit → Act → World → Prop) (w0 : World) (dsts : List (Option Tmp)) (F : Nat → Value → World → Prop) (a0 : Act) (i : Nat) (o : Oper) : Prop :=
  (GOk F dsts o false ∧ ∀ w, F i undef w) ∨
  (GOk F dsts o true ∧ ∀ (A : Act) w' (γ : Nat → Value), Below w0.heap.size w0 w' → (∀ j, (edgesOf o).contains j = true → F j (γ j) w') → SlotF dsts γ a0 o A →
    o.wp P A w' (fun a' w'' => ∃ u, a' = A.put o.dst u ∧ Below w'.heap.size w' w'' ∧ F i u w'') Q)
theorem Fr_size (v : Nat → Value) (L : Nat → Bool) : ∀ (r : List (Option Tmp)) (k : Nat) (a : Act), (Fr v L r k a).tmps.size = a.tmps.size
  | [], _, _ => rfl
  | d :: r, k, a => by
    unfold Fr
    rw [Fr_size v L r]
    split
    · exact put_size a d _
    · rfl
theorem GOk.wanted {F : Nat → Value → World → Prop} {l : List Oper} {dsts : List (Option Tmp)} {o : Oper} {b : Bool} (h : GOk F dsts o b) (hds : l.map (·.dst) = dsts) {tmps : Array Value} {γ : Nat → Value} {w : World}
    (hF : ∀ j, (edgesOf o).contains j = true → F j (γ j) w) (hs : ∀ j, (edgesOf o).contains j = true → ∀ t, dsts[j]? = some (some t) → t < tmps.size ∧ tmps.getD t undef = γ j) : Region.wanted o (yielded l.toArray tmps) = b := by
  rcases h with ⟨hg, rfl⟩ | ⟨j, want, c, hg, he, ⟨t, ht⟩, hc, rfl⟩
  · simp [Region.wanted, hg]
  · obtain ⟨h1, h2⟩ := hs j he t ht
    rw [hc _ _ (hF j he)] at h2
    have h3 : tmps[t]? = some (.bool c) := by
      rw [Array.getD_eq_getD_getElem?, Array.getElem?_eq_getElem h1] at h2
      rw [Array.getElem?_eq_getElem h1]
      exact congrArg some h2
    have h4 : ((l[j]?).bind (·.dst)) = some t := by
      rw [← hds, List.getElem?_map] at ht
      cases hl : l[j]? with
      | none => rw [hl] at ht; cases ht
      | some o' =>
        rw [hl] at ht
        simpa using ht
    have h5 : yielded l.toArray tmps j = some c := by
      unfold yielded
      rw [List.getElem?_toArray, h4, Option.bind_some, h3]
    simp only [Region.wanted, hg, h5]
    cases c <;> cases want <;> rfl

theorem wp_region_g {P : Program} {Q : Exit → Act → World → Prop} {id : Nat} {l : List Oper} {a : Act} {w : World} (dsts : List (Option Tmp)) (F : Nat → Value → World → Prop)
    (hF : ∀ j u w1 w2, F j u w1 → Below w1.heap.size w1 w2 → F j u w2)
    (hm : P.follows .mixedOrders = true) (hds : l.map (·.dst) = dsts) (hnd : nodupD dsts = true) (hord : ordGo 0 l = true) (hin : inD a.tmps.size dsts = true)
    (step : StepAll (GStep P Q w dsts F a) 0 l)
    (fin : ∀ γ w', Below w.heap.size w w' → (∀ j, j < l.length → F j (γ j) w') → Q .normal (Fr γ (fun _ => true) dsts 0 a) w') : (Code.region id l.toArray true).wp P Q a w := by
  refine wp_region_any hm ?_
  refine wpAny_inv (fun listed a' w' => listed.size = l.length ∧ ∃ γ : Nat → Value, a' = Fr γ (fun j => listed.getD j false) dsts 0 a ∧ Below w.heap.size w w' ∧ ∀ j, listed.getD j false = true → F j (γ j) w') ?_ ?_ l.toArray.size _ _ _ ?_ ?_
  · rintro listed a' w' i ⟨hsz, γ, rfl, hb, hFs⟩ hr
    obtain ⟨h0, o, ho, hall⟩ := mem_ready.1 hr
    have ho' : l[i]? = some o := by simpa using ho
    have hlt : i < l.length := (List.getElem?_eq_some_iff.1 ho').1
    have hLi : listed.getD i false = false := by
      have : i < listed.size := by omega
      simp [this] at h0 ⊢; exact h0
    have hdep : ∀ j, (edgesOf o).contains j = true → listed.getD j false = true := fun j hj => by
      obtain ⟨e, he1, he2⟩ := List.mem_map.1 (List.contains_iff_mem.1 hj)
      obtain ⟨he3, he4⟩ := List.mem_filter.1 he1
      rw [← he2]
      exact hall e (by simpa using he3) (by simpa using he4)
    have hSF : SlotF dsts γ a o (Fr γ (fun j => listed.getD j false) dsts 0 a) :=
      ⟨fun j hj t ht => Fr_get γ _ t j (hdep j hj) dsts 0 a hnd (Nat.zero_le _) (by simpa using ht) (inD_lt hin ht), fun t ht => Fr_old γ _ t dsts 0 a ht⟩
    have hwant : ∀ {b}, GOk F dsts o b → Region.wanted o (yielded l.toArray (Fr γ (fun j => listed.getD j false) dsts 0 a).tmps) = b := fun h =>
      h.wanted hds (fun j hj => hFs j (hdep j hj)) (fun j hj t ht => ⟨by rw [Fr_size]; exact inD_lt hin ht, hSF.1 j hj t ht⟩)
    have hon : (fun j => (listed.setIfInBounds i true).getD j false) = onL (fun j => listed.getD j false) i := by
      funext j
      have hi : i < listed.size := by omega
      unfold onL
      by_cases e : j = i
      · subst e; simp [hi]
      · rw [getD_set_ne false (Ne.symm e)]
        simp [e]
    have hd : dsts[i]? = some o.dst := by rw [← hds, List.getElem?_map, ho']; rfl
    have key : ∀ u w'', Below w'.heap.size w' w'' → F i u w'' → (listed.setIfInBounds i true).size = l.length ∧ ∃ γ' : Nat → Value, (Fr γ (fun j => listed.getD j false) dsts 0 a).put o.dst u = Fr γ' (fun j => (listed.setIfInBounds i true).getD j false) dsts 0 a ∧ Below w.heap.size w w'' ∧ ∀ j, (listed.setIfInBounds i true).getD j false = true → F j (γ' j) w'' := by
      intro u w'' hb2 hFu
      refine ⟨by simpa using hsz, fun j => if j = i then u else γ j, ?_, bt hb hb2, fun j hj => ?_⟩
      · rw [hon, Fr_on _ _ i hLi dsts 0 a o.dst hnd (Nat.zero_le _) (by simpa using hd)]
        simp only [if_true]
        congr 1
        refine Fr_congr _ _ _ _ dsts 0 a fun j _ _ => ⟨rfl, fun hj => ?_⟩
        by_cases e : j = i
        · subst e
          rw [hLi] at hj; cases hj
        · simp [e]
      · by_cases e : j = i
        · subst e; simpa using hFu
        · have hj' : listed.getD j false = true := by rw [getD_set_ne false (Ne.symm e)] at hj; exact hj
          simp only [e, if_false]
          exact hF j _ _ _ (hFs j hj') hb2
    have st := step.at i o ho'
    simp only [Nat.zero_add] at st
    unfold wpOp
    rw [ho]
    rcases st with ⟨hg, hu⟩ | ⟨hg, hq⟩
    · simp only [hwant hg, Bool.false_eq_true, if_false]
      exact key undef w' (Below.refl _ _) (hu w')
    · simp only [hwant hg, if_true]
      left
      refine Oper.wp_mono ?_ (hq _ w' γ hb (fun j hj => hFs j (hdep j hj)) hSF)
      rintro a'' w'' ⟨u, rfl, hbel, hFu⟩
      exact key u w'' hbel hFu
  · rintro listed a' w' ⟨hsz, γ, rfl, hb, hFs⟩ hr
    have hall : ∀ n i, i < n → i < l.length → listed.getD i false = true := by
      intro n
      induction n with
      | zero => intro i hi; omega
      | succ n ih =>
        intro i hin' hi
        cases hL : listed.getD i false with
        | true => rfl
        | false =>
          exfalso
          have hmem : i ∈ Region.ready .any l.toArray listed := by
            refine mem_ready.2 ⟨?_, l[i], by simp [hi], fun e he hb => ?_⟩
            · have : i < listed.size := by omega
              simp [this] at hL ⊢; exact hL
            · have hlt := ordGo.at hord i l[i] (by simp [hi]) e.on (List.mem_map.2 ⟨e, List.mem_filter.2 ⟨by simpa using he, by simpa using hb⟩, rfl⟩)
              exact ih e.on (by omega) (by omega)
          rw [hr] at hmem
          cases hmem
    have hlen : dsts.length = l.length := by rw [← hds, List.length_map]
    have e : Fr γ (fun j => listed.getD j false) dsts 0 a = Fr γ (fun _ => true) dsts 0 a :=
      Fr_congr _ _ _ _ dsts 0 a fun j _ hj => ⟨hall (j + 1) j (by omega) (by omega), fun _ => rfl⟩
    rw [e]
    exact fin γ w' hb (fun j hj => hFs j (hall (j + 1) j (by omega) hj))
  · unfold unl
    exact Nat.le_trans (List.length_filter_le _ _) (by simp)
  · refine ⟨by simp, fun _ => undef, ?_, (Below.refl _ _).drew, fun j hj => ?_⟩
    · have : ∀ (r : List (Option Tmp)) (k : Nat), Fr (fun _ => undef) (fun j => (Array.replicate l.toArray.size false).getD j false) r k a = a := by
        intro r
        induction r with
        | nil => intro k; rfl
        | cons d r ih =>
          intro k
          unfold Fr
          have e : (Array.replicate l.toArray.size false).getD k false = false := by
            simp only [Array.getD_eq_getD_getElem?, Array.getElem?_replicate]
            split <;> rfl
          rw [e]
          exact ih (k + 1)
      exact (this dsts 0).symm
    · have e : (Array.replicate l.toArray.size false).getD j false = false := by
        simp only [Array.getD_eq_getD_getElem?, Array.getElem?_replicate]
        split <;> rfl
      rw [e] at hj
      cases hj

/-! ## What holds of values -/
def EqV (v : Value) : Value → World → Prop := fun u _ => u = v
abbrev VP := Value → World → Prop
def Keeps (G : VP) : Prop := ∀ u w1 w2, G u w1 → Below w1.heap.size w1 w2 → G u w2
theorem keeps_eq (v : Value) : Keeps (EqV v) := fun _ _ _ h _ => h
def FL (l : List VP) : Nat → VP := fun i => l.getD i fun _ _ => False
def KeepAll : List VP → Prop
  | [] => True
  | G :: r => Keeps G ∧ KeepAll r
theorem FL_keeps : ∀ {l : List VP}, KeepAll l → ∀ j u w1 w2, FL l j u w1 → Below w1.heap.size w1 w2 → FL l j u w2
  | [], _, _, _, _, _, h, _ => h
  | G :: r, hk, 0, u, w1, w2, h, hb => hk.1 u w1 w2 h hb
  | G :: r, hk, j + 1, u, w1, w2, h, hb => by
    have h' : FL r j u w1 := h
    exact FL_keeps hk.2 j u w1 w2 h' hb

section
variable {P : Program} {Q : Exit → Act → World → Prop} {o : Oper} {A : Act} {w : World} {u : Value} {F : Nat → VP} {dsts : List (Option Tmp)} {γ : Nat → Value} {a0 : Act}
theorem gk0 (h : o.guard = none) : GOk F dsts o true := .inl ⟨h, rfl⟩
theorem gkT (j : Nat) (c : Bool) (h : o.guard = some (j, c)) (he : (edgesOf o).contains j = true) (t : Tmp) (ht : dsts[j]? = some (some t)) (hc : ∀ u w, F j u w → u = .bool c) : GOk F dsts o true :=
  .inr ⟨j, c, c, h, he, ⟨t, ht⟩, hc, by cases c <;> rfl⟩
theorem gkF (j : Nat) (c : Bool) (h : o.guard = some (j, c)) (he : (edgesOf o).contains j = true) (t : Tmp) (ht : dsts[j]? = some (some t)) (hc : ∀ u w, F j u w → u = .bool (!c)) : GOk F dsts o false :=
  .inr ⟨j, c, !c, h, he, ⟨t, ht⟩, hc, by cases c <;> rfl⟩
theorem g_of {G : VP} (hG : Keeps G) (h : o.wp P A w (fun a' w'' => a' = A.put o.dst u ∧ Below w.heap.size w w'') Q) (hu : G u w) : o.wp P A w (fun a' w'' => ∃ u, a' = A.put o.dst u ∧ Below w.heap.size w w'' ∧ G u w'') Q := by
  refine Oper.wp_mono ?_ h
  rintro a' w'' ⟨rfl, hb⟩
  exact ⟨u, rfl, hb, hG u w w'' hu hb⟩
theorem g_eq (h : o.wp P A w (fun a' w'' => a' = A.put o.dst u ∧ Below w.heap.size w w'') Q) : o.wp P A w (fun a' w'' => ∃ u', a' = A.put o.dst u' ∧ Below w.heap.size w w'' ∧ EqV u u' w'') Q :=
  g_of (keeps_eq u) h rfl
theorem g_call {G : VP} (f : FuncId) (args : Array Value) (hrun : (execOp A.eval o).run P w = .ok (.enter f args) w) (h : Calls P f args w fun e w' => ∃ u, e = .returned u ∧ Below w.heap.size w w' ∧ G u w') :
    o.wp P A w (fun a' w'' => ∃ u, a' = A.put o.dst u ∧ Below w.heap.size w w'' ∧ G u w'') Q := by
  unfold Oper.wp
  rw [hrun, Oper.upon_enter]
  refine h.mono fun e w'' hh => ?_
  obtain ⟨u, rfl, hb, hG⟩ := hh
  exact ⟨u, rfl, hb, hG⟩
theorem op_pick (c x y : Operand) (b : Bool) (ho : o.op = .pick c x y) (hc : A.eval c = .bool b) (hx : (if b then A.eval x else A.eval y) = u) : o.wp P A w (fun a' w'' => a' = A.put o.dst u ∧ Below w.heap.size w w'') Q := by
  refine op_run ?_
  unfold execOp
  simp only [ho, hc]
  subst hx
  rfl
theorem op_eq_int (t r : TypeId) (x y : Operand) (k : IntKind) (m n : Int) (b : Bool) (ho : o.op = .binOp .eql t x y r) (hx : A.eval x = .int k m) (hy : A.eval y = .int k n) (hb : (m == n) = b) : o.wp P A w (fun a' w'' => a' = A.put o.dst (.bool b) ∧ Below w.heap.size w w'') Q := by
  refine op_run ?_
  generalize A.eval = ρ at *
  unfold execOp
  subst hb
  simp [ho, hx, hy, eqGuard, binOp, Op.intCmp, go_sem]
theorem op_eq_str (t r : TypeId) (x y : Operand) (m n : ByteArray) (b : Bool) (ho : o.op = .binOp .eql t x y r) (hx : A.eval x = .string m) (hy : A.eval y = .string n) (hb : (m.toList == n.toList) = b) : o.wp P A w (fun a' w'' => a' = A.put o.dst (.bool b) ∧ Below w.heap.size w w'') Q := by
  refine op_run ?_
  generalize A.eval = ρ at *
  unfold execOp
  subst hb
  simp [ho, hx, hy, eqGuard, binOp, Op.stringOp, go_sem]
theorem op_eq_agg (t r : TypeId) (x y : Operand) (xs ys : Array Value) (b : Bool) (ho : o.op = .binOp .eql t x y r) (hx : A.eval x = .agg xs) (hy : A.eval y = .agg ys) (hg : P.eqGuardType P.depth t = false)
    (hrun : (Op.equalIn 10000 t (.agg xs) (.agg ys)).run P w = .ok b w) : o.wp P A w (fun a' w'' => a' = A.put o.dst (.bool b) ∧ Below w.heap.size w w'') Q := by
  have hrun' : (Op.equal t (.agg xs) (.agg ys)).run P w = .ok b w := hrun
  refine op_run ?_
  generalize A.eval = ρ at *
  unfold execOp
  simp [ho, hx, hy, eqGuard, binOp, hg, hrun', go_sem]
theorem op_neq_agg (t r : TypeId) (x y : Operand) (xs ys : Array Value) (b : Bool) (ho : o.op = .binOp .neq t x y r) (hx : A.eval x = .agg xs) (hy : A.eval y = .agg ys) (hg : P.eqGuardType P.depth t = false)
    (hrun : (Op.equalIn 10000 t (.agg xs) (.agg ys)).run P w = .ok b w) : o.wp P A w (fun a' w'' => a' = A.put o.dst (.bool (!b)) ∧ Below w.heap.size w w'') Q := by
  have hrun' : (Op.equal t (.agg xs) (.agg ys)).run P w = .ok b w := hrun
  refine op_run ?_
  generalize A.eval = ρ at *
  unfold execOp
  simp [ho, hx, hy, eqGuard, binOp, hg, hrun', go_sem]
theorem op_load_st (ty : TypeId) (x : Operand) (ho : o.op = .load ty x) {g : Nat} (hx : A.eval x = .pointer (some ⟨g, 0, none⟩)) {t : TypeId} {cs : Array Value} {fs : Array Field} (hb : Blk w g t cs) (hu : P.underlying ty = some (.struct fs)) (hi : (P.info? ty).map (·.size) = some cs.size) :
    o.wp P A w (fun a' w'' => a' = A.put o.dst (.agg cs) ∧ Below w.heap.size w w'') Q :=
  wp_load_row ty x ho g hx t cs (0, 0) _ hb hu rfl hi ⟨rfl, Below.refl _ _⟩
theorem op_len (x : Operand) (t e : TypeId) (a : Option Addr) (n k : Nat) (ho : o.op = .call { callee := .builtin .len, args := #[x], argTypes := #[t] }) (hx : A.eval x = .slice a n k) (ht : P.underlying t = some (.slice e)) : o.wp P A w (fun a' w'' => a' = A.put o.dst (.int .i64 n) ∧ Below w.heap.size w w'') Q := by
  refine op_run ?_
  generalize A.eval = ρ at *
  unfold execOp
  simp [ho, hx, Builtin.len_, run_underlying ht, go_sem]
end
end Go.Proofs.YtlegcceaoglpoaaDoor

namespace Go.Proofs.YtlegcceaoglpoaaDoor
open Go.RowKit
set_option linter.unusedVariables false
section
variable {P : Program} {Q : Exit → Act → World → Prop} {o : Oper} {A : Act} {w : World} {u : Value}
theorem op_gtr (t r : TypeId) (x y : Operand) (k : IntKind) (m n : Int) (b : Bool) (ho : o.op = .binOp .gtr t x y r) (hx : A.eval x = .int k m) (hy : A.eval y = .int k n) (hb : decide (n < m) = b) : o.wp P A w (fun a' w'' => a' = A.put o.dst (.bool b) ∧ Below w.heap.size w w'') Q := by
  refine op_run ?_
  generalize A.eval = ρ at *
  unfold execOp
  subst hb
  simp [ho, hx, hy, eqGuard, binOp, Op.intCmp, go_sem]
theorem op_lss (t r : TypeId) (x y : Operand) (k : IntKind) (m n : Int) (b : Bool) (ho : o.op = .binOp .lss t x y r) (hx : A.eval x = .int k m) (hy : A.eval y = .int k n) (hb : decide (m < n) = b) : o.wp P A w (fun a' w'' => a' = A.put o.dst (.bool b) ∧ Below w.heap.size w w'') Q := by
  refine op_run ?_
  generalize A.eval = ρ at *
  unfold execOp
  subst hb
  simp [ho, hx, hy, eqGuard, binOp, Op.intCmp, go_sem]
theorem op_leq (t r : TypeId) (x y : Operand) (k : IntKind) (m n : Int) (b : Bool) (ho : o.op = .binOp .leq t x y r) (hx : A.eval x = .int k m) (hy : A.eval y = .int k n) (hb : decide (m ≤ n) = b) : o.wp P A w (fun a' w'' => a' = A.put o.dst (.bool b) ∧ Below w.heap.size w w'') Q := by
  refine op_run ?_
  generalize A.eval = ρ at *
  unfold execOp
  subst hb
  simp [ho, hx, hy, eqGuard, binOp, Op.intCmp, go_sem]
theorem op_geq (t r : TypeId) (x y : Operand) (k : IntKind) (m n : Int) (b : Bool) (ho : o.op = .binOp .geq t x y r) (hx : A.eval x = .int k m) (hy : A.eval y = .int k n) (hb : decide (n ≤ m) = b) : o.wp P A w (fun a' w'' => a' = A.put o.dst (.bool b) ∧ Below w.heap.size w w'') Q := by
  refine op_run ?_
  generalize A.eval = ρ at *
  unfold execOp
  subst hb
  simp [ho, hx, hy, eqGuard, binOp, Op.intCmp, go_sem]
theorem op_neq_int (t r : TypeId) (x y : Operand) (k : IntKind) (m n : Int) (b : Bool) (ho : o.op = .binOp .neq t x y r) (hx : A.eval x = .int k m) (hy : A.eval y = .int k n) (hb : (m != n) = b) : o.wp P A w (fun a' w'' => a' = A.put o.dst (.bool b) ∧ Below w.heap.size w w'') Q := by
  refine op_run ?_
  generalize A.eval = ρ at *
  unfold execOp
  subst hb
  simp [ho, hx, hy, eqGuard, binOp, Op.intCmp, go_sem]
theorem op_add (t r : TypeId) (x y : Operand) (k : IntKind) (m n s : Int) (ho : o.op = .binOp .add t x y r) (hx : A.eval x = .int k m) (hy : A.eval y = .int k n) (hb : k.wrap (m + n) = s) : o.wp P A w (fun a' w'' => a' = A.put o.dst (.int k s) ∧ Below w.heap.size w w'') Q := by
  refine op_run ?_
  generalize A.eval = ρ at *
  unfold execOp
  subst hb
  simp [ho, hx, hy, eqGuard, binOp, Op.intArith, go_sem]
theorem op_sub (t r : TypeId) (x y : Operand) (k : IntKind) (m n s : Int) (ho : o.op = .binOp .sub t x y r) (hx : A.eval x = .int k m) (hy : A.eval y = .int k n) (hb : k.wrap (m - n) = s) : o.wp P A w (fun a' w'' => a' = A.put o.dst (.int k s) ∧ Below w.heap.size w w'') Q := by
  refine op_run ?_
  generalize A.eval = ρ at *
  unfold execOp
  subst hb
  simp [ho, hx, hy, eqGuard, binOp, Op.intArith, go_sem]
theorem op_not (t : TypeId) (x : Operand) (b : Bool) (ho : o.op = .unOp .not t x) (hx : A.eval x = .bool b) : o.wp P A w (fun a' w'' => a' = A.put o.dst (.bool (!b)) ∧ Below w.heap.size w w'') Q := by
  refine op_run ?_
  generalize A.eval = ρ at *
  unfold execOp
  simp [ho, hx, Op.unary, go_sem]
theorem op_neg (t : TypeId) (x : Operand) (k : IntKind) (m s : Int) (ho : o.op = .unOp .neg t x) (hx : A.eval x = .int k m) (hb : k.wrap (0 - m) = s) : o.wp P A w (fun a' w'' => a' = A.put o.dst (.int k s) ∧ Below w.heap.size w w'') Q := by
  refine op_run ?_
  generalize A.eval = ρ at *
  unfold execOp
  subst hb
  simp [ho, hx, Op.unary, Op.intArith, go_sem]
theorem run_eq_bool {t : TypeId} (ht : P.underlying t = some .bool) (a b : Bool) (w : World) : (Op.equal t (.bool a) (.bool b)).run P w = .ok (a == b) w := by
  unfold Op.equal
  show (Op.equalIn 10000 t (.bool a) (.bool b)).run P w = _
  unfold Op.equalIn
  simp [run_underlying ht, Sem.run_bind]
theorem op_eq_bool (t r : TypeId) (x y : Operand) (a b c : Bool) (ho : o.op = .binOp .eql t x y r) (hx : A.eval x = .bool a) (hy : A.eval y = .bool b) (ht : P.underlying t = some .bool) (hb : (a == b) = c) : o.wp P A w (fun a' w'' => a' = A.put o.dst (.bool c) ∧ Below w.heap.size w w'') Q := by
  refine op_run ?_
  generalize A.eval = ρ at *
  unfold execOp
  subst hb
  simp [ho, hx, hy, eqGuard, binOp, run_eq_bool ht, go_sem]
theorem op_len_str (x : Operand) (t : TypeId) (s : ByteArray) (n : Nat) (ho : o.op = .call { callee := .builtin .len, args := #[x], argTypes := #[t] }) (hx : A.eval x = .string s) (ht : P.underlying t = some .string) (hn : s.size = n) : o.wp P A w (fun a' w'' => a' = A.put o.dst (.int .i64 n) ∧ Below w.heap.size w w'') Q := by
  refine op_run ?_
  generalize A.eval = ρ at *
  unfold execOp
  subst hn
  simp [ho, hx, Builtin.len_, run_underlying ht, go_sem]
theorem op_idx_str (x i : Operand) (t : TypeId) (s : ByteArray) (n : Int) (v : Value) (ho : o.op = .index t x i) (hx : A.eval x = .string s) (hi : A.eval i = .int .i64 n) (hrun : (Instr.index t (.string s) (.int .i64 n)).run P w = .ok v w) : o.wp P A w (fun a' w'' => a' = A.put o.dst v ∧ Below w.heap.size w w'') Q := by
  refine op_run ?_
  generalize A.eval = ρ at *
  unfold execOp
  simp [ho, hx, hi, hrun, go_sem]
end
end Go.Proofs.YtlegcceaoglpoaaDoor

namespace Go.Proofs.YtlegcceaoglpoaaDoor
open Go.RowKit
set_option linter.unusedVariables false

section
variable {P : Program} {Q : Exit → Act → World → Prop} {o : Oper} {A : Act} {w : World} {u : Value}
theorem op_fieldK (T : TypeId) (x : Operand) (k off : Nat) (ho : o.op = .fieldAddr T x k) (g : Nat) (hx : A.eval x = .pointer (some ⟨g, 0, none⟩)) (hf : ∀ (g : Nat) (w : World), (Instr.fieldAt T (.pointer (some ⟨g, 0, none⟩)) k).run P w = .ok (.pointer (some ⟨g, off, none⟩)) w) :
    o.wp P A w (fun a' w'' => a' = A.put o.dst (.pointer (some ⟨g, off, none⟩)) ∧ Below w.heap.size w w'') Q := by
  refine op_run ?_
  unfold execOp
  simp only [ho, hx, Sem.run_bind, hf]
  rfl
theorem op_conv (src dst : TypeId) (x : Operand) {v : Value} (ho : o.op = .convert src dst x) (hx : A.eval x = v) (hrun : (convert src dst v).run P w = .ok u w) : o.wp P A w (fun a' w'' => a' = A.put o.dst u ∧ Below w.heap.size w w'') Q := by
  refine op_run ?_
  unfold execOp
  simp only [ho, hx, Sem.run_bind, hrun]
  rfl
end
theorem str_of {w : World} {a : Option Addr} {r : List UInt8} {len c : Nat} (h : RdS w a r) (hl : r.length = len) : (convert 23 9 (.slice a len c)).run Tryd.prog w = .ok (.string (bstr r)) w := by
  rcases h with rfl | ⟨g, off, rfl, hg, hr⟩
  · subst hl
    cases a with
    | none => exact run_convert_bytes_nil w 23 5 Tryd.underlying23 Tryd.underlying5 0 c 9 Tryd.underlying9
    | some p =>
      have h0 : (loadCells p 0).run Tryd.prog w = .ok #[] w := run_loadCells_list (P := Tryd.prog) w p [] (fun j v hj => by simp at hj)
      have h1 := run_bytesToString (P := Tryd.prog) w p 0 c [] (by simpa using h0)
      rw [List.length_nil, run_convert_bytes_string w 23 9 5 _ 0 c Tryd.underlying23 Tryd.underlying5 Tryd.underlying9, h1]
      rfl
  · have e := run_convert_bytes_arg (P := Tryd.prog) w 23 5 Tryd.underlying23 Tryd.underlying5 g off len c (r.map fun c => (c.toNat : Int)) (by simpa using hl) (fun i hi => ?_) 9 Tryd.underlying9
    · rw [e, strOf_u8]
    · rw [hr i (by omega)]
      have : i < r.length := by omega
      simp [List.getD, List.getElem?_eq_getElem this]
theorem eqW (H : List Wd) (hH : H.length = 8) (w : World) : (Op.equalIn 10000 81 (.agg (u32c H)) (.agg (u32c H))).run Tryd.prog w = .ok true w := by
  obtain ⟨i, hi⟩ := Option.isSome_iff_exists.1 (show (Tryd.prog.info? 22).isSome = true by kernel_rfl)
  exact run_eqInts w .u32 .u32 (by kernel_rfl) Tryd.underlying22 Tryd.underlying81 hi (by kernel_rfl) (fun i => (wn (H.getD i 0) : Int)) (fun i => (wn (H.getD i 0) : Int)) _ _ (fun i hi => ⟨u32c_at H i (by omega), u32c_at H i (by omega)⟩) true (by simp)
theorem isRS (c : Array Value) (h : c.size = 10) : (Tryd.prog.info? 87).map (·.size) = some c.size := by rw [h]; kernel_rfl
theorem Sane_at (v : Value) (txt : List UInt8) (w : World) (h : StAt w v txt) : Calls Tryd.prog 48 #[v] w fun e w' => e = .returned (.bool true) ∧ Below w.heap.size w w' := by
  obtain ⟨a, c, rfl, hr, h1, h2⟩ := h
  exact Sane_any _ (absH_length _ _ HI_length) a _ c _ (Nat.mod_lt _ W64_pos) (by unfold maxLen at h2; omega) true (by rw [absR_length]; simp; unfold W64; omega) w
theorem StAt.cells {w : World} {v : Value} {txt : List UInt8} (h : StAt w v txt) : ∃ S : Array Value, v = .agg S ∧ S.size = 10 ∧ S.all (·.oneCell') = true := by
  obtain ⟨a, c, rfl, hr, h1, h2⟩ := h
  exact ⟨_, rfl, stC_size _ _ _ (absH_length _ _ HI_length), stC_one _ _ _ _ _⟩
theorem keeps_st (txt : List UInt8) : Keeps fun u w => StAt w u txt := fun _ _ _ h hb => h.below hb
theorem Write_ex (v : Value) (txt t2 : List UInt8) (a' : Option Addr) (t : List UInt8) (m c' : Nat) (he : txt ++ t = t2) (hm : t.length = m) (hc : m ≤ c') (hc2 : m ≤ 140737488355328 ∧ c' ≤ 9223372036854775807) (hno : a' = none → m = 0 ∧ c' = 0) (w : World) (hv : StAt w v txt) (hr : RdS w a' t) (hL : Laid w) :
    Calls Tryd.prog 40 #[v, .slice a' m c'] w fun e w' => ∃ v', e = .returned v' ∧ Below w.heap.size w w' ∧ StAt w' v' t2 := by
  subst he
  exact (Write_at v txt a' t m c' hm hc hc2 hno w hv hr hL).mono fun _ _ ⟨v', h1, h2, h3⟩ => ⟨v', h1, h3, h2⟩
theorem Start_st (w : World) (hL : Laid w) : Calls Tryd.prog 41 #[] w fun e w' => ∃ v', e = .returned v' ∧ Below w.heap.size w w' ∧ StAt w' v' [] :=
  (Start_any w hL).mono fun _ w' ⟨he, hb⟩ => ⟨_, he, hb, StAt.start w'⟩
theorem sumC (t : List UInt8) : ∃ C : Array Value, C = u8cells (sumOf t) ∧ C.size = 32 ∧ (∀ w : World, (Op.equalIn 10000 58 (.agg C) (.agg C)).run Tryd.prog w = .ok true w) :=
  ⟨_, rfl, by rw [u8cells_size]; exact sumOf_length t, fun w => eqH _ _ true (sumOf_length t) (sumOf_length t) (by simp) w⟩
end Go.Proofs.YtlegcceaoglpoaaDoor

namespace Go.Proofs.YtlegcceaoglpoaaDoor
open Go.RowKit
set_option linter.unusedVariables false

/-- Block g is an iterator over s that stands at p. -/
def It (w : World) (g : Nat) (s : ByteArray) (p : Nat) : Prop := w.heap[g]? = some (.stringIter s p)
def setIt (w : World) (g : Nat) (s : ByteArray) (p : Nat) : World := { w with heap := w.heap.setIfInBounds g (.stringIter s p) }
section
variable {P : Program} {w w' : World} {g : Nat} {s : ByteArray} {p : Nat} {t : TypeId} {cs : Array Value}
theorem It.lt (h : It w g s p) : g < w.heap.size := by
  rcases Nat.lt_or_ge g w.heap.size with hlt | hge
  · exact hlt
  · unfold It at h; rw [Array.getElem?_eq_none hge] at h; cases h
theorem It.calls (h : It w g s p) (hb : Below w.heap.size w w') : It w' g s p := (hb.block g h.lt).trans h
theorem It.below {B : Nat} (h : It w g s p) (hb : Below B w w') (hg : g < B) : It w' g s p := (hb.block g hg).trans h
theorem It.alloc (h : It w g s p) (o : Obj) : It (w.alloc o) g s p := (Below.heap_alloc w o g h.lt).trans h
theorem It.far (h : It w g s p) {b i : Nat} (hp : g ≠ b) (u : Value) : It (w.setCell ⟨b, i, none⟩ u) g s p := (Below.heap_setCell w ⟨b, i, none⟩ u g hp).trans h
theorem It.drewN (h : It w g s p) (n : Nat) : It (w.drewN n) g s p := h
theorem It.set (h : It w g s p) (q : Nat) : It (setIt w g s q) g s q := by
  have := h.lt
  unfold It setIt
  simp [this]
theorem It.new (w : World) (s : ByteArray) (p : Nat) : It (w.iter s p) w.heap.size s p := World.iter_heap w s p
theorem It.newAt (w : World) (s : ByteArray) (p : Nat) {n : Nat} (h : n = w.heap.size) : It (w.iter s p) n s p := h ▸ It.new w s p
theorem setIt_size : (setIt w g s p).heap.size = w.heap.size := by simp [setIt]
theorem Blk.setIt (h : Blk w g t cs) {b : Nat} (hne : g ≠ b) : Blk (setIt w b s p) g t cs := by
  unfold Blk at h ⊢
  simp [Go.Proofs.YtlegcceaoglpoaaDoor.setIt, Ne.symm hne, h]
theorem below_setIt {B : Nat} {w0 : World} (h : Below B w0 w) (hb : B ≤ g) : Below B w0 (setIt w g s p) :=
  h.trans ⟨rfl, rfl, rfl, by simp [setIt], fun k hk => by simp [setIt, show g ≠ k by omega]⟩
theorem next_at (h : It w g s p) (ty : TypeId) (hp : p < s.size) :
    (Instr.next (.pointer (some ⟨g, 0, none⟩)) true ty).run P w = .ok (.tuple #[.bool true, .int .i64 p, .int .i32 (Utf8.decode s p).1]) (setIt w g s (p + (Utf8.decode s p).2)) := by
  unfold It at h
  simp only [Instr.next, getObj, setObj, Sem.run_bind, Sem.run, h, Result.andThen, hp, if_true]
  simp [goInt, setIt]
theorem next_one (h : It w g s p) (ty : TypeId) (hp : p < s.size) (ha : (s[p]'hp).toNat < 128) :
    (Instr.next (.pointer (some ⟨g, 0, none⟩)) true ty).run P w = .ok (.tuple #[.bool true, .int .i64 p, .int .i32 (s[p]'hp).toNat]) (setIt w g s (p + 1)) := by
  rw [next_at h ty hp, decode_ascii s p hp ha]
theorem next_end (h : It w g s p) (ty : TypeId) (hp : ¬ p < s.size) :
    (Instr.next (.pointer (some ⟨g, 0, none⟩)) true ty).run P w = .ok (.tuple #[.bool false]) w := by
  unfold It at h
  simp [Instr.next, getObj, Sem.run, h, hp]
end

/-- What a hexadecimal digit is worth. -/
def dg (r : Nat) : Option Nat := if 48 ≤ r ∧ r ≤ 57 then some (r - 48) else if 97 ≤ r ∧ r ≤ 102 then some (r - 87) else if 65 ≤ r ∧ r ≤ 70 then some (r - 55) else none
theorem dg_lt {r d : Nat} (h : dg r = some d) : d < 16 := by
  unfold dg at h
  repeat' split at h
  all_goals first | (injection h; omega) | cases h
theorem dg_ascii {r d : Nat} (h : dg r = some d) : r < 128 := by
  unfold dg at h
  repeat' split at h
  all_goals first | omega | cases h

end Go.Proofs.YtlegcceaoglpoaaDoor

namespace Go.Proofs.YtlegcceaoglpoaaDoor
open Go.RowKit
set_option linter.unusedVariables false

/-- The 64 digits of a hash, the highest byte first. -/
def hexT (l : List UInt8) : List UInt8 := (List.range 64).map fun i => if i % 2 = 0 then hx ((l.getD (31 - i / 2) 0).toNat / 16) else hx ((l.getD (31 - i / 2) 0).toNat % 16)
theorem hexT_length (l : List UInt8) : (hexT l).length = 64 := by simp [hexT]
theorem hexT_even (l : List UInt8) (k : Nat) (h : k < 32) : (hexT l).getD (2 * k) 0 = hx ((l.getD (31 - k) 0).toNat / 16) := by
  have h2 : 2 * k < 64 := by omega
  simp [hexT, h2]
theorem hexT_odd (l : List UInt8) (k : Nat) (h : k < 32) : (hexT l).getD (2 * k + 1) 0 = hx ((l.getD (31 - k) 0).toNat % 16) := by
  have h2 : 2 * k + 1 < 64 := by omega
  have h3 : (2 * k + 1) / 2 = k := by omega
  have h4 : (2 * k + 1) % 2 = 1 := by omega
  simp [hexT, h2, h3, h4]
theorem and15 (x : Nat) (h : x < 256) : bits .and .u8 (x : Int) 15 = ((x % 16 : Nat) : Int) := by
  have e := u8_and_nat x 15 h (by decide)
  rw [show ((15 : Nat) : Int) = 15 from rfl] at e
  rw [e, nat_mask4]

theorem make_bytes2 (n c : Nat) (hnc : n ≤ c) (hn : c ≤ 140737488355328) (w : World) :
    (Instr.makeSlice 23 (.int .i64 n) (.int .i64 c)).run Tryd.prog w = .ok (.slice (some ⟨w.heap.size, 0, none⟩) n c) (w.alloc (.cells (Array.replicate c (.int .u8 0)) 5)) := by
  obtain ⟨i0, hi, hz0, hz1, hz2⟩ := info_parts (show (Tryd.prog.info? 5).map (fun i => (i.zero, i.size, i.bytes)) = some (some (.int .u8 0), 1, 1) by kernel_rfl)
  rw [run_make w 23 5 i0 (.int .u8 0) Tryd.underlying23 hi hz0 .i64 .i64 n c (by omega) (by omega) (by rw [hz2]; omega) (by omega), hz1, Int.toNat_natCast, Int.toNat_natCast, Nat.mul_one]
  exact congrArg (fun cs => Result.ok _ (w.alloc (.cells cs 5))) (madeCells_one _ c)

end Go.Proofs.YtlegcceaoglpoaaDoor

namespace Go.Proofs.YtlegcceaoglpoaaDoor
open Go.RowKit
set_option linter.unusedVariables false
theorem bstr_toList (l : List UInt8) : (bstr l).toList = l := by
  rw [Lib.toList_data]
  rfl
set_option maxRecDepth 100000 in
theorem BEq_any (a1 : Option Addr) (l1 : List UInt8) (n1 c1 : Nat) (h1 : l1.length = n1) (a2 : Option Addr) (l2 : List UInt8) (n2 c2 : Nat) (h2 : l2.length = n2) (w : World) (r1 : RdS w a1 l1) (r2 : RdS w a2 l2) (b : Bool) (hb : decide (l1 = l2) = b) :
    Calls Tryd.prog 28 #[.slice a1 n1 c1, .slice a2 n2 c2] w fun e w' => e = .returned (.bool b) ∧ Below w.heap.size w w' := by
  have s1 := str_of (c := c1) r1 h1
  have s2 := str_of (c := c2) r2 h2
  have he : ((bstr l1).toList == (bstr l2).toList) = b := by
    rw [bstr_toList, bstr_toList, ← hb, Bool.eq_iff_iff]
    simp
  obtain ⟨S1, hS1⟩ : ∃ S, S = bstr l1 := ⟨_, rfl⟩
  obtain ⟨S2, hS2⟩ : ∃ S, S = bstr l2 := ⟨_, rfl⟩
  rw [← hS1] at s1 he
  rw [← hS2] at s2 he
  clear hS1 hS2 hb r1 r2 h1 h2
  go_enter Tryd.func28, Tryd.ntmps28
  go_wp2
  go_ret
  exact ⟨by first | rw [he] | simp, Below.refl _ _⟩
/-- Do two unlike texts have one sum? -/
def witB (l1 l2 : List UInt8) : Bool := !decide (l1 = l2) && decide (sumOf l1 = sumOf l2)
end Go.Proofs.YtlegcceaoglpoaaDoor
