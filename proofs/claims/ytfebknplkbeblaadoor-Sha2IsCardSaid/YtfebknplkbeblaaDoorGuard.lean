/- A region whose order is open and whose operations may be guarded ('&&', '||'): each value is known by what holds of it. -/
import Derived.Test.YtfebknplkbeblaaDoorInv
import Derived.Deep.MidRow
import Derived.Conc.EventLaws
namespace Go.Proofs.YtfebknplkbeblaaDoor
open Go.RowKit
set_option linter.unusedVariables false

/-- Is the operation wanted (b), whatever the order? -/
def GOk (F : Nat → Value → World → Prop) (dsts : List (Option Tmp)) (o : Oper) (b : Bool) : Prop :=
  (o.guard = none ∧ b = true) ∨ ∃ j want c, o.guard = some (j, want) ∧ (edgesOf o).contains j = true ∧ (∃ t, dsts[j]? = some (some t)) ∧ (∀ u w, F j u w → u = .bool c) ∧ (c == want) = b
def GStep (P : Program) (Q : Exit → Act → World → Prop) (w0 : World) (dsts : List (Option Tmp)) (F : Nat → Value → World → Prop) (a0 : Act) (i : Nat) (o : Oper) : Prop :=
  (GOk F dsts o false ∧ ∀ w, F i undef w) ∨
  (GOk F dsts o true ∧ ∀ (A : Act) w' (γ : Nat → Value), Below w0.heap.size w0 w' → (∀ j, (edgesOf o).contains j = true → F j (γ j) w') → SlotF dsts γ a0 o A →
    o.wp P A w' (fun a' w'' => ∃ u, a' = A.put o.dst u ∧ Below w'.heap.size w' w'' ∧ F i u w'') Q)
theorem Fr_size (v : Nat → Value) (L : Nat → Bool) : ∀ (r : List (Option Tmp)) (k : Nat) (a : Act), (Fr v L r k a).tmps.size = a.tmps.size
  | [], _, _ => rfl
  | d :: r, k, a => by
    unfold Fr
    rw [Fr_size v L r]
    split
    · exact put_size a d _
    · rfl
theorem GOk.wanted {F : Nat → Value → World → Prop} {l : List Oper} {dsts : List (Option Tmp)} {o : Oper} {b : Bool} (h : GOk F dsts o b) (hds : l.map (·.dst) = dsts) {tmps : Array Value} {γ : Nat → Value} {w : World}
    (hF : ∀ j, (edgesOf o).contains j = true → F j (γ j) w) (hs : ∀ j, (edgesOf o).contains j = true → ∀ t, dsts[j]? = some (some t) → t < tmps.size ∧ tmps.getD t undef = γ j) : Region.wanted o (yielded l.toArray tmps) = b := by
  rcases h with ⟨hg, rfl⟩ | ⟨j, want, c, hg, he, ⟨t, ht⟩, hc, rfl⟩
  · simp [Region.wanted, hg]
  · obtain ⟨h1, h2⟩ := hs j he t ht
    rw [hc _ _ (hF j he)] at h2
    have h3 : tmps[t]? = some (.bool c) := by
      rw [Array.getD_eq_getD_getElem?, Array.getElem?_eq_getElem h1] at h2
      rw [Array.getElem?_eq_getElem h1]
      exact congrArg some h2
    have h4 : ((l[j]?).bind (·.dst)) = some t := by
      rw [← hds, List.getElem?_map] at ht
      cases hl : l[j]? with
      | none => rw [hl] at ht; cases ht
      | some o' =>
        rw [hl] at ht
        simpa using ht
    have h5 : yielded l.toArray tmps j = some c := by
      unfold yielded
      rw [List.getElem?_toArray, h4, Option.bind_some, h3]
    simp only [Region.wanted, hg, h5]
    cases c <;> cases want <;> rfl

theorem wp_region_g {P : Program} {Q : Exit → Act → World → Prop} {id : Nat} {l : List Oper} {a : Act} {w : World} (dsts : List (Option Tmp)) (F : Nat → Value → World → Prop)
    (hF : ∀ j u w1 w2, F j u w1 → Below w1.heap.size w1 w2 → F j u w2)
    (hm : P.follows .mixedOrders = true) (hds : l.map (·.dst) = dsts) (hnd : nodupD dsts = true) (hord : ordGo 0 l = true) (hin : inD a.tmps.size dsts = true)
    (step : StepAll (GStep P Q w dsts F a) 0 l)
    (fin : ∀ γ w', Below w.heap.size w w' → (∀ j, j < l.length → F j (γ j) w') → Q .normal (Fr γ (fun _ => true) dsts 0 a) w') : (Code.region id l.toArray true).wp P Q a w := by
  refine wp_region_any hm ?_
  refine wpAny_inv (fun listed a' w' => listed.size = l.length ∧ ∃ γ : Nat → Value, a' = Fr γ (fun j => listed.getD j false) dsts 0 a ∧ Below w.heap.size w w' ∧ ∀ j, listed.getD j false = true → F j (γ j) w') ?_ ?_ l.toArray.size _ _ _ ?_ ?_
  · rintro listed a' w' i ⟨hsz, γ, rfl, hb, hFs⟩ hr
    obtain ⟨h0, o, ho, hall⟩ := mem_ready.1 hr
    have ho' : l[i]? = some o := by simpa using ho
    have hlt : i < l.length := (List.getElem?_eq_some_iff.1 ho').1
    have hLi : listed.getD i false = false := by
      have : i < listed.size := by omega
      simp [this] at h0 ⊢; exact h0
    have hdep : ∀ j, (edgesOf o).contains j = true → listed.getD j false = true := fun j hj => by
      obtain ⟨e, he1, he2⟩ := List.mem_map.1 (List.contains_iff_mem.1 hj)
      obtain ⟨he3, he4⟩ := List.mem_filter.1 he1
      rw [← he2]
      exact hall e (by simpa using he3) (by simpa using he4)
    have hSF : SlotF dsts γ a o (Fr γ (fun j => listed.getD j false) dsts 0 a) :=
      ⟨fun j hj t ht => Fr_get γ _ t j (hdep j hj) dsts 0 a hnd (Nat.zero_le _) (by simpa using ht) (inD_lt hin ht), fun t ht => Fr_old γ _ t dsts 0 a ht⟩
    have hwant : ∀ {b}, GOk F dsts o b → Region.wanted o (yielded l.toArray (Fr γ (fun j => listed.getD j false) dsts 0 a).tmps) = b := fun h =>
      h.wanted hds (fun j hj => hFs j (hdep j hj)) (fun j hj t ht => ⟨by rw [Fr_size]; exact inD_lt hin ht, hSF.1 j hj t ht⟩)
    have hon : (fun j => (listed.setIfInBounds i true).getD j false) = onL (fun j => listed.getD j false) i := by
      funext j
      have hi : i < listed.size := by omega
      unfold onL
      by_cases e : j = i
      · subst e; simp [hi]
      · rw [getD_set_ne false (Ne.symm e)]
        simp [e]
    have hd : dsts[i]? = some o.dst := by rw [← hds, List.getElem?_map, ho']; rfl
    have key : ∀ u w'', Below w'.heap.size w' w'' → F i u w'' → (listed.setIfInBounds i true).size = l.length ∧ ∃ γ' : Nat → Value, (Fr γ (fun j => listed.getD j false) dsts 0 a).put o.dst u = Fr γ' (fun j => (listed.setIfInBounds i true).getD j false) dsts 0 a ∧ Below w.heap.size w w'' ∧ ∀ j, (listed.setIfInBounds i true).getD j false = true → F j (γ' j) w'' := by
      intro u w'' hb2 hFu
      refine ⟨by simpa using hsz, fun j => if j = i then u else γ j, ?_, bt hb hb2, fun j hj => ?_⟩
      · rw [hon, Fr_on _ _ i hLi dsts 0 a o.dst hnd (Nat.zero_le _) (by simpa using hd)]
        simp only [if_true]
        congr 1
        refine Fr_congr _ _ _ _ dsts 0 a fun j _ _ => ⟨rfl, fun hj => ?_⟩
        by_cases e : j = i
        · subst e
          rw [hLi] at hj; cases hj
        · simp [e]
      · by_cases e : j = i
        · subst e; simpa using hFu
        · have hj' : listed.getD j false = true := by rw [getD_set_ne false (Ne.symm e)] at hj; exact hj
          simp only [e, if_false]
          exact hF j _ _ _ (hFs j hj') hb2
    have st := step.at i o ho'
    simp only [Nat.zero_add] at st
    unfold wpOp
    rw [ho]
    rcases st with ⟨hg, hu⟩ | ⟨hg, hq⟩
    · simp only [hwant hg, Bool.false_eq_true, if_false]
      exact key undef w' (Below.refl _ _) (hu w')
    · simp only [hwant hg, if_true]
      left
      refine Oper.wp_mono ?_ (hq _ w' γ hb (fun j hj => hFs j (hdep j hj)) hSF)
      rintro a'' w'' ⟨u, rfl, hbel, hFu⟩
      exact key u w'' hbel hFu
  · rintro listed a' w' ⟨hsz, γ, rfl, hb, hFs⟩ hr
    have hall : ∀ n i, i < n → i < l.length → listed.getD i false = true := by
      intro n
      induction n with
      | zero => intro i hi; omega
      | succ n ih =>
        intro i hin' hi
        cases hL : listed.getD i false with
        | true => rfl
        | false =>
          exfalso
          have hmem : i ∈ Region.ready .any l.toArray listed := by
            refine mem_ready.2 ⟨?_, l[i], by simp [hi], fun e he hb => ?_⟩
            · have : i < listed.size := by omega
              simp [this] at hL ⊢; exact hL
            · have hlt := ordGo.at hord i l[i] (by simp [hi]) e.on (List.mem_map.2 ⟨e, List.mem_filter.2 ⟨by simpa using he, by simpa using hb⟩, rfl⟩)
              exact ih e.on (by omega) (by omega)
          rw [hr] at hmem
          cases hmem
    have hlen : dsts.length = l.length := by rw [← hds, List.length_map]
    have e : Fr γ (fun j => listed.getD j false) dsts 0 a = Fr γ (fun _ => true) dsts 0 a :=
      Fr_congr _ _ _ _ dsts 0 a fun j _ hj => ⟨hall (j + 1) j (by omega) (by omega), fun _ => rfl⟩
    rw [e]
    exact fin γ w' hb (fun j hj => hFs j (hall (j + 1) j (by omega) hj))
  · unfold unl
    exact Nat.le_trans (List.length_filter_le _ _) (by simp)
  · refine ⟨by simp, fun _ => undef, ?_, (Below.refl _ _).drew, fun j hj => ?_⟩
    · have : ∀ (r : List (Option Tmp)) (k : Nat), Fr (fun _ => undef) (fun j => (Array.replicate l.toArray.size false).getD j false) r k a = a := by
        intro r
        induction r with
        | nil => intro k; rfl
        | cons d r ih =>
          intro k
          unfold Fr
          have e : (Array.replicate l.toArray.size false).getD k false = false := by
            simp only [Array.getD_eq_getD_getElem?, Array.getElem?_replicate]
            split <;> rfl
          rw [e]
          exact ih (k + 1)
      exact (this dsts 0).symm
    · have e : (Array.replicate l.toArray.size false).getD j false = false := by
        simp only [Array.getD_eq_getD_getElem?, Array.getElem?_replicate]
        split <;> rfl
      rw [e] at hj
      cases hj

/-! ## What holds of values -/
def EqV (v : Value) : Value → World → Prop := fun u _ => u = v
abbrev VP := Value → World → Prop
def Keeps (G : VP) : Prop := ∀ u w1 w2, G u w1 → Below w1.heap.size w1 w2 → G u w2
theorem keeps_eq (v : Value) : Keeps (EqV v) := fun _ _ _ h _ => h
def FL (l : List VP) : Nat → VP := fun i => l.getD i fun _ _ => False
def KeepAll : List VP → Prop
  | [] => True
  | G :: r => Keeps G ∧ KeepAll r
theorem FL_keeps : ∀ {l : List VP}, KeepAll l → ∀ j u w1 w2, FL l j u w1 → Below w1.heap.size w1 w2 → FL l j u w2
  | [], _, _, _, _, _, h, _ => h
  | G :: r, hk, 0, u, w1, w2, h, hb => hk.1 u w1 w2 h hb
  | G :: r, hk, j + 1, u, w1, w2, h, hb => by
    have h' : FL r j u w1 := h
    exact FL_keeps hk.2 j u w1 w2 h' hb

section
variable {P : Program} {Q : Exit → Act → World → Prop} {o : Oper} {A : Act} {w : World} {u : Value} {F : Nat → VP} {dsts : List (Option Tmp)} {γ : Nat → Value} {a0 : Act}
theorem gk0 (h : o.guard = none) : GOk F dsts o true := .inl ⟨h, rfl⟩
theorem gkT (j : Nat) (c : Bool) (h : o.guard = some (j, c)) (he : (edgesOf o).contains j = true) (t : Tmp) (ht : dsts[j]? = some (some t)) (hc : ∀ u w, F j u w → u = .bool c) : GOk F dsts o true :=
  .inr ⟨j, c, c, h, he, ⟨t, ht⟩, hc, by cases c <;> rfl⟩
theorem gkF (j : Nat) (c : Bool) (h : o.guard = some (j, c)) (he : (edgesOf o).contains j = true) (t : Tmp) (ht : dsts[j]? = some (some t)) (hc : ∀ u w, F j u w → u = .bool (!c)) : GOk F dsts o false :=
  .inr ⟨j, c, !c, h, he, ⟨t, ht⟩, hc, by cases c <;> rfl⟩
theorem g_of {G : VP} (hG : Keeps G) (h : o.wp P A w (fun a' w'' => a' = A.put o.dst u ∧ Below w.heap.size w w'') Q) (hu : G u w) : o.wp P A w (fun a' w'' => ∃ u, a' = A.put o.dst u ∧ Below w.heap.size w w'' ∧ G u w'') Q := by
  refine Oper.wp_mono ?_ h
  rintro a' w'' ⟨rfl, hb⟩
  exact ⟨u, rfl, hb, hG u w w'' hu hb⟩
theorem g_eq (h : o.wp P A w (fun a' w'' => a' = A.put o.dst u ∧ Below w.heap.size w w'') Q) : o.wp P A w (fun a' w'' => ∃ u', a' = A.put o.dst u' ∧ Below w.heap.size w w'' ∧ EqV u u' w'') Q :=
  g_of (keeps_eq u) h rfl
theorem g_call {G : VP} (f : FuncId) (args : Array Value) (hrun : (execOp A.eval o).run P w = .ok (.enter f args) w) (h : Calls P f args w fun e w' => ∃ u, e = .returned u ∧ Below w.heap.size w w' ∧ G u w') :
    o.wp P A w (fun a' w'' => ∃ u, a' = A.put o.dst u ∧ Below w.heap.size w w'' ∧ G u w'') Q := by
  unfold Oper.wp
  rw [hrun, Oper.upon_enter]
  refine h.mono fun e w'' hh => ?_
  obtain ⟨u, rfl, hb, hG⟩ := hh
  exact ⟨u, rfl, hb, hG⟩
theorem op_pick (c x y : Operand) (b : Bool) (ho : o.op = .pick c x y) (hc : A.eval c = .bool b) (hx : (if b then A.eval x else A.eval y) = u) : o.wp P A w (fun a' w'' => a' = A.put o.dst u ∧ Below w.heap.size w w'') Q := by
  refine op_run ?_
  unfold execOp
  simp only [ho, hc]
  subst hx
  rfl
theorem op_eq_int (t r : TypeId) (x y : Operand) (k : IntKind) (m n : Int) (b : Bool) (ho : o.op = .binOp .eql t x y r) (hx : A.eval x = .int k m) (hy : A.eval y = .int k n) (hb : (m == n) = b) : o.wp P A w (fun a' w'' => a' = A.put o.dst (.bool b) ∧ Below w.heap.size w w'') Q := by
  refine op_run ?_
  generalize A.eval = ρ at *
  unfold execOp
  subst hb
  simp [ho, hx, hy, eqGuard, binOp, Op.intCmp, go_sem]
theorem op_eq_str (t r : TypeId) (x y : Operand) (m n : ByteArray) (b : Bool) (ho : o.op = .binOp .eql t x y r) (hx : A.eval x = .string m) (hy : A.eval y = .string n) (hb : (m.toList == n.toList) = b) : o.wp P A w (fun a' w'' => a' = A.put o.dst (.bool b) ∧ Below w.heap.size w w'') Q := by
  refine op_run ?_
  generalize A.eval = ρ at *
  unfold execOp
  subst hb
  simp [ho, hx, hy, eqGuard, binOp, Op.stringOp, go_sem]
theorem op_eq_agg (t r : TypeId) (x y : Operand) (xs ys : Array Value) (b : Bool) (ho : o.op = .binOp .eql t x y r) (hx : A.eval x = .agg xs) (hy : A.eval y = .agg ys) (hg : P.eqGuardType P.depth t = false)
    (hrun : (Op.equalIn 10000 t (.agg xs) (.agg ys)).run P w = .ok b w) : o.wp P A w (fun a' w'' => a' = A.put o.dst (.bool b) ∧ Below w.heap.size w w'') Q := by
  have hrun' : (Op.equal t (.agg xs) (.agg ys)).run P w = .ok b w := hrun
  refine op_run ?_
  generalize A.eval = ρ at *
  unfold execOp
  simp [ho, hx, hy, eqGuard, binOp, hg, hrun', go_sem]
theorem op_neq_agg (t r : TypeId) (x y : Operand) (xs ys : Array Value) (b : Bool) (ho : o.op = .binOp .neq t x y r) (hx : A.eval x = .agg xs) (hy : A.eval y = .agg ys) (hg : P.eqGuardType P.depth t = false)
    (hrun : (Op.equalIn 10000 t (.agg xs) (.agg ys)).run P w = .ok b w) : o.wp P A w (fun a' w'' => a' = A.put o.dst (.bool (!b)) ∧ Below w.heap.size w w'') Q := by
  have hrun' : (Op.equal t (.agg xs) (.agg ys)).run P w = .ok b w := hrun
  refine op_run ?_
  generalize A.eval = ρ at *
  unfold execOp
  simp [ho, hx, hy, eqGuard, binOp, hg, hrun', go_sem]
theorem op_load_st (ty : TypeId) (x : Operand) (ho : o.op = .load ty x) {g : Nat} (hx : A.eval x = .pointer (some ⟨g, 0, none⟩)) {t : TypeId} {cs : Array Value} {fs : Array Field} (hb : Blk w g t cs) (hu : P.underlying ty = some (.struct fs)) (hi : (P.info? ty).map (·.size) = some cs.size) :
    o.wp P A w (fun a' w'' => a' = A.put o.dst (.agg cs) ∧ Below w.heap.size w w'') Q :=
  wp_load_row ty x ho g hx t cs (0, 0) _ hb hu rfl hi ⟨rfl, Below.refl _ _⟩
theorem op_len (x : Operand) (t e : TypeId) (a : Option Addr) (n k : Nat) (ho : o.op = .call { callee := .builtin .len, args := #[x], argTypes := #[t] }) (hx : A.eval x = .slice a n k) (ht : P.underlying t = some (.slice e)) : o.wp P A w (fun a' w'' => a' = A.put o.dst (.int .i64 n) ∧ Below w.heap.size w w'') Q := by
  refine op_run ?_
  generalize A.eval = ρ at *
  unfold execOp
  simp [ho, hx, ht, Builtin.len_, run_underlying ht, go_sem]
end
end Go.Proofs.YtfebknplkbeblaaDoor
