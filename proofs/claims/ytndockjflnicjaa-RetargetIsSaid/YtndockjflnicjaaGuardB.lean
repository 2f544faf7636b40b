/- A region that is walked in the text's order, by what holds of its values; guards may be letters. -/
import Derived.Test.YtndockjflnicjaaOpsC
import Derived.Laws.Small
namespace Go.Proofs.Ytndockjflnicjaa
open Go.RowKit
set_option linter.unusedVariables false
def GStep2 (P : Program) (Q : Exit → Act → World → Prop) (w0 : World) (dsts : List (Option Tmp)) (F : Nat → Value → World → Prop) (a0 : Act) (i : Nat) (o : Oper) : Prop :=
  ∃ b : Bool, GOk F dsts o b ∧ (b = false → ∀ w, F i undef w) ∧ (b = true → ∀ (A : Act) w' (γ : Nat → Value), Below w0.heap.size w0 w' → (∀ j, (edgesOf o).contains j = true → F j (γ j) w') → SlotF dsts γ a0 o A →
    o.wp P A w' (fun a' w'' => ∃ u, a' = A.put o.dst u ∧ Below w'.heap.size w' w'' ∧ F i u w'') Q)
theorem wp_region_q {P : Program} {Q : Exit → Act → World → Prop} {id : Nat} {l : List Oper} {a : Act} {w : World} (dsts : List (Option Tmp)) (F : Nat → Value → World → Prop)
    (hF : ∀ j u w1 w2, F j u w1 → Below w1.heap.size w1 w2 → F j u w2)
    (hds : l.map (·.dst) = dsts) (hnd : nodupD dsts = true) (hord : ordGo 0 l = true) (hin : inD a.tmps.size dsts = true)
    (step : StepAll (GStep2 P Q w dsts F a) 0 l)
    (fin : ∀ γ w', Below w.heap.size w w' → (∀ j, j < l.length → F j (γ j) w') → Q .normal (Fr γ (fun _ => true) dsts 0 a) w') : (Code.region id l.toArray false).wp P Q a w := by
  refine wp_region_lit ?_
  have hlen : dsts.length = l.length := by rw [← hds, List.length_map]
  have main : ∀ (n k : Nat), l.length - k = n → k ≤ l.length → ∀ γ w', Below w.heap.size w w' → (∀ j, j < k → F j (γ j) w') → wpList P l.toArray Q (l.drop k) (Fr γ (fun j => decide (j < k)) dsts 0 a) w' := by
    intro n
    induction n with
    | zero =>
      intro k hk hkl γ w' hb hFs
      obtain rfl : k = l.length := by omega
      rw [List.drop_length]
      have e : Fr γ (fun j => decide (j < l.length)) dsts 0 a = Fr γ (fun _ => true) dsts 0 a :=
        Fr_congr _ _ _ _ dsts 0 a fun j _ hj => ⟨decide_eq_true (by omega), fun _ => rfl⟩
      rw [e]
      exact wpList_nil (fin γ w' hb hFs)
    | succ n ih =>
      intro k hk hkl γ w' hb hFs
      have hlt : k < l.length := by omega
      have ho : l[k]? = some l[k] := List.getElem?_eq_getElem hlt
      rw [List.drop_eq_getElem_cons hlt]
      generalize l[k] = o at ho
      have hdep : ∀ j, (edgesOf o).contains j = true → j < k := fun j hj => by
        have := ordGo.at hord k o ho j (List.contains_iff_mem.1 hj)
        omega
      have hSF : SlotF dsts γ a o (Fr γ (fun j => decide (j < k)) dsts 0 a) :=
        ⟨fun j hj t ht => Fr_get γ _ t j (decide_eq_true (hdep j hj)) dsts 0 a hnd (Nat.zero_le _) (by simpa using ht) (inD_lt hin ht), fun t ht => Fr_old γ _ t dsts 0 a ht⟩
      have hd : dsts[k]? = some o.dst := by rw [← hds, List.getElem?_map, ho]; rfl
      have hon : (fun j => decide (j < k + 1)) = onL (fun j => decide (j < k)) k := by
        funext j
        unfold onL
        by_cases e : j = k
        · subst e; simp
        · have : decide (j < k + 1) = decide (j < k) := by simp; omega
          rw [this]
          simp [e]
      have key : ∀ u w'', Below w'.heap.size w' w'' → F k u w'' → wpList P l.toArray Q (l.drop (k + 1)) ((Fr γ (fun j => decide (j < k)) dsts 0 a).put o.dst u) w'' := by
        intro u w'' hb2 hFu
        have e : (Fr γ (fun j => decide (j < k)) dsts 0 a).put o.dst u = Fr (fun j => if j = k then u else γ j) (fun j => decide (j < k + 1)) dsts 0 a := by
          rw [hon, Fr_on _ _ k (by simp) dsts 0 a o.dst hnd (Nat.zero_le _) (by simpa using hd)]
          simp only [if_true]
          congr 1
          refine Fr_congr _ _ _ _ dsts 0 a fun j _ _ => ⟨rfl, fun hj => ?_⟩
          have : j < k := of_decide_eq_true hj
          rw [if_neg (by omega)]
        rw [e]
        refine ih (k + 1) (by omega) (by omega) _ w'' (bt hb hb2) fun j hj => ?_
        by_cases e2 : j = k
        · subst e2; simpa using hFu
        · simp only [e2, if_false]
          exact hF j _ _ _ (hFs j (by omega)) hb2
      have st := step.at k o ho
      simp only [Nat.zero_add] at st
      obtain ⟨b, hg, h0, h1⟩ := st
      have hwant : Region.wanted o (yielded l.toArray (Fr γ (fun j => decide (j < k)) dsts 0 a).tmps) = b :=
        hg.wanted hds (fun j hj => hFs j (hdep j hj)) (fun j hj t ht => ⟨by rw [Fr_size]; exact inD_lt hin ht, hSF.1 j hj t ht⟩)
      unfold wpList
      rw [hwant]
      cases b
      · rw [if_neg (by decide)]
        exact key undef w' (Below.refl _ _) (h0 rfl w')
      · rw [if_pos rfl]
        left
        refine Oper.wp_mono ?_ (h1 rfl _ w' γ hb (fun j hj => hFs j (hdep j hj)) hSF)
        rintro a'' w'' ⟨u, rfl, hbel, hFu⟩
        exact key u w'' hbel hFu
  have h := main l.length 0 (by omega) (Nat.zero_le _) (fun _ => undef) w (Below.refl _ _) (fun j hj => by omega)
  have e0 : ∀ (r : List (Option Tmp)) (k : Nat), Fr (fun _ => undef) (fun j => decide (j < 0)) r k a = a := by
    intro r
    induction r with
    | nil => intro k; rfl
    | cons d r ih =>
      intro k
      unfold Fr
      simp only [Nat.not_lt_zero, decide_false]
      exact ih (k + 1)
  rw [e0] at h
  exact h
section
variable {P : Program} {Q : Exit → Act → World → Prop} {o : Oper} {w0 w : World} {dsts : List (Option Tmp)} {F : Nat → Value → World → Prop} {a0 : Act} {i : Nat}
/-- An operation without a guard, or whose guard is known. -/
theorem q_of (h : GStep P Q w0 dsts F a0 i o) : GStep2 P Q w0 dsts F a0 i o := by
  rcases h with ⟨h1, h2⟩ | ⟨h1, h2⟩
  · exact ⟨false, h1, fun _ => h2, fun h => by cases h⟩
  · exact ⟨true, h1, fun h => by (cases h), fun _ => h2⟩
/-- An operation whose guard is a letter c. -/
theorem q_if (j : Nat) (want c : Bool) (h : o.guard = some (j, want)) (he : (edgesOf o).contains j = true) (t : Tmp) (ht : dsts[j]? = some (some t)) (hc : ∀ u w, F j u w → u = .bool c)
    (h0 : (c == want) = false → ∀ w, F i undef w) (h1 : (c == want) = true → ∀ (A : Act) w' (γ : Nat → Value), Below w0.heap.size w0 w' → (∀ j, (edgesOf o).contains j = true → F j (γ j) w') → SlotF dsts γ a0 o A →
      o.wp P A w' (fun a' w'' => ∃ u, a' = A.put o.dst u ∧ Below w'.heap.size w' w'' ∧ F i u w'') Q) : GStep2 P Q w0 dsts F a0 i o :=
  ⟨c == want, .inr ⟨j, want, c, h, he, ⟨t, ht⟩, hc, rfl⟩, h0, h1⟩
end
/-- v, where c is as wanted. -/
def IfV (c : Bool) (v : Value) : VP := fun u _ => c = true → u = v
section
variable {P : Program} {Q : Exit → Act → World → Prop} {o : Oper} {A : Act} {w : World}
theorem g_if {c : Bool} {v : Value} (h : o.wp P A w (fun a' w'' => ∃ u, a' = A.put o.dst u ∧ Below w.heap.size w w'' ∧ EqV v u w'') Q) : o.wp P A w (fun a' w'' => ∃ u, a' = A.put o.dst u ∧ Below w.heap.size w w'' ∧ IfV c v u w'') Q :=
  Oper.wp_mono (fun _ _ ⟨u, h1, h2, h3⟩ => ⟨u, h1, h2, fun _ => h3⟩) h
theorem op_pick_or (c x : Operand) (p q r : Bool) (ho : o.op = .pick c (.const (.bool true)) x) (hc : A.eval c = .bool p) (hx : (p == false) = true → A.eval x = .bool q) (hr : (p || q) = r) : o.wp P A w (fun a' w'' => a' = A.put o.dst (.bool r) ∧ Below w.heap.size w w'') Q := by
  refine op_pick c _ x p ho hc ?_
  subst hr
  cases p
  · exact hx rfl
  · rfl
theorem op_pick_and (c x : Operand) (p q r : Bool) (ho : o.op = .pick c x (.const (.bool false))) (hc : A.eval c = .bool p) (hx : (p == true) = true → A.eval x = .bool q) (hr : (p && q) = r) : o.wp P A w (fun a' w'' => a' = A.put o.dst (.bool r) ∧ Below w.heap.size w w'') Q := by
  refine op_pick c x _ p ho hc ?_
  subst hr
  cases p
  · rfl
  · exact hx rfl
theorem op_quo (t r : TypeId) (x y : Operand) (k : IntKind) (m n s : Int) (ho : o.op = .binOp .quo t x y r) (hx : A.eval x = .int k m) (hy : A.eval y = .int k n) (hn : ¬ n = 0) (hb : k.wrap (Int.tdiv m n) = s) : o.wp P A w (fun a' w'' => a' = A.put o.dst (.int k s) ∧ Below w.heap.size w w'') Q := by
  refine op_run ?_
  generalize A.eval = ρ at *
  unfold execOp
  subst hb
  simp [ho, hx, hy, eqGuard, binOp, Op.intDiv, hn, go_sem]
theorem op_max (x y : Operand) (k : IntKind) (m n s : Int) (t : TypeId) (ho : o.op = .call { callee := .builtin .max, args := #[x, y], argTypes := #[t, t] }) (hx : A.eval x = .int k m) (hy : A.eval y = .int k n) (hs : max m n = s) : o.wp P A w (fun a' w'' => a' = A.put o.dst (.int k s) ∧ Below w.heap.size w w'') Q := by
  refine op_run ?_
  generalize A.eval = ρ at *
  unfold execOp
  subst hs
  simp [ho, hx, hy, go_sem]
  omega
end
theorem keeps_if (c : Bool) (v : Value) : Keeps (IfV c v) := fun _ _ _ h _ => h
end Go.Proofs.Ytndockjflnicjaa
