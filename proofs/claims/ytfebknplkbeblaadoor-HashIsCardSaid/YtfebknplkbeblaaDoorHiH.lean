/- A region whose order is open, whose last operations lay a slice of new values, append it to a row of the call's own, and assign the row. Rows of bytes of the call's own: one byte more; a row that is laid with one byte. Single operations of regions: comparisons, signs, lengths of strings. A region whose order is open and that fills several old blocks, each once. Single operations of regions: a cell is stored; an element's address; a cell is loaded. The document's numbers: rows of 256 digits; digits and number. The document's numbers: Add, Sub, Cmp, Len, Not, Of. The document's Add and Sub. The document's Cmp, Len, Not, Of. -/
import Derived.Test.YtfebknplkbeblaaDoorHiG
import Derived.Test.YtfebknplkbeblaaDoorHiE
import Derived.Test.YtfebknplkbeblaaDoorHiB
import Derived.Test.YtfebknplkbeblaaDoorHiD
namespace Go.Proofs.YtfebknplkbeblaaDoor
open Go.RowKit
set_option linter.unusedVariables false
theorem Fr_off (v : Nat → Value) (L : Nat → Bool) (t : Tmp) : ∀ (r : List (Option Tmp)) (k : Nat) (a : Act), (∀ j, r[j]? = some (some t) → L (k + j) = false) → (Fr v L r k a).tmps.getD t undef = a.tmps.getD t undef
  | [], _, _, _ => rfl
  | d :: r, k, a, h => by
    unfold Fr
    rw [Fr_off v L t r (k + 1) _ (fun j hj => by rw [show k + 1 + j = k + (j + 1) by omega]; exact h (j + 1) (by simpa using hj))]
    split
    · rename_i hL
      refine put_other a d _ t ?_
      cases d with
      | none => rfl
      | some x =>
        by_cases e : x = t
        · subst e
          have := h 0 rfl
          rw [Nat.add_zero, hL] at this
          cases this
        · simpa [apartD] using e
    · rfl
def OldAt (dsts : List (Option Tmp)) (p : Nat) (a0 A : Act) : Prop := ∀ t, dsts[p + 1]? = some (some t) → A.tmps.getD t undef = a0.tmps.getD t undef
/-- What each operation yields: p - 1 lays the slice (of m values, in block g), p appends (u), p + 1 assigns. -/
def vApp (vals : Nat → Value) (p m : Nat) (γ : Nat × Value) (i : Nat) : Value :=
  if Nat.beq (i + 1) p then .slice (some ⟨γ.1, 0, none⟩) m m else if Nat.beq i p || Nat.beq i (p + 1) then γ.2 else vals i
def AppI (p : Nat) (K R : World → Prop) (C : Nat → World → Prop) (T : Value → World → Prop) (γ : Nat × Value) (L : Nat → Bool) (w : World) : Prop :=
  K w ∧ (L p = true → L (p - 1) = true) ∧ (L (p + 1) = true → ∀ j, j ≤ p → L j = true) ∧ (L p = false → R w ∧ (L (p - 1) = true → C γ.1 w)) ∧ (L p = true → T γ.2 w)
def AppStep (P : Program) (Q : Exit → Act → World → Prop) (dsts : List (Option Tmp)) (vals : Nat → Value) (a0 : Act) (p m : Nat) (K R : World → Prop) (C : Nat → World → Prop) (T : Value → World → Prop) (i : Nat) (o : Oper) : Prop :=
  (Nat.beq (i + 1) p = false ∧ Nat.beq i p = false ∧ ∀ (γ : Nat × Value) (A : Act) w, K w → SlotF dsts (vApp vals p m γ) a0 o A → (Nat.ble i p = true → OldAt dsts p a0 A) → o.wp P A w (fun a' w' => a' = A.put o.dst (vApp vals p m γ i) ∧ Below w.heap.size w w') Q) ∨
  (Nat.beq (i + 1) p = true ∧ ∀ (γ : Nat × Value) (A : Act) w, K w → SlotF dsts (vApp vals p m γ) a0 o A → o.wp P A w (fun a' w' => ∃ g, a' = A.put o.dst (.slice (some ⟨g, 0, none⟩) m m) ∧ Below w.heap.size w w' ∧ C g w') Q) ∨
  (Nat.beq i p = true ∧ (edgesOf o).contains (p - 1) = true ∧ ∀ (γ : Nat × Value) (A : Act) w, K w → R w → C γ.1 w → SlotF dsts (vApp vals p m γ) a0 o A → o.wp P A w (fun a' w' => ∃ u, a' = A.put o.dst u ∧ T u w' ∧ K w') Q)
theorem wp_region_app {P : Program} {Q : Exit → Act → World → Prop} {id : Nat} {l : List Oper} {a : Act} {w : World} (dsts : List (Option Tmp)) (vals : Nat → Value) (p m : Nat) (K R : World → Prop) (C : Nat → World → Prop) (T : Value → World → Prop)
    (hK : ∀ w1 w2, Below w1.heap.size w1 w2 → (K w1 → K w2) ∧ (R w1 → R w2) ∧ (∀ g, C g w1 → C g w2) ∧ (∀ u, T u w1 → T u w2))
    (hm : P.follows .mixedOrders = true) (hds : l.map (·.dst) = dsts) (hnd : nodupD dsts = true) (hng : (l.all fun o => o.guard.isNone) = true) (hord : ordGo 0 l = true) (hin : inD a.tmps.size dsts = true) (hp : 0 < p) (hlen : l.length = p + 2) (hasg : ∀ o, l[p + 1]? = some o → ((List.range (p + 1)).all fun j => (edgesOf o).contains j) = true) (hone : ((dsts.take (p + 1)).all fun d => apartD d (dsts.getD (p + 1) none)) = true)
    (k0 : K w) (r0 : R w)
    (step : StepAll (AppStep P Q dsts vals a p m K R C T) 0 l)
    (fin : ∀ γ w', T γ.2 w' → K w' → Q .normal (Fr (vApp vals p m γ) (fun _ => true) dsts 0 a) w') : (Code.region id l.toArray true).wp P Q a w := by
  have hd0 : Below w.heap.size w w.drew := (Below.refl _ _).drew
  refine wp_region_inv (Γ := Nat × Value) dsts (vApp vals p m) (AppI p K R C T) hm hds hnd hng hord (0, undef) ⟨(hK _ _ hd0).1 k0, fun h => (by cases h), fun h => (by cases h), fun _ => ⟨(hK _ _ hd0).2.1 r0, fun h => (by cases h)⟩, fun h => by cases h⟩ ?_ ?_
  · have key : ∀ (l' : List Oper) (k : Nat), k + l'.length = p + 2 → (∀ j, l'[j]? = l[k + j]?) → StepAll (AppStep P Q dsts vals a p m K R C T) k l' → StepAll (fun i o => ∀ γ L w', AppI p K R C T γ L w' → L i = false → (∀ j ∈ edgesOf o, L j = true) →
      o.wp P (Fr (vApp vals p m γ) L dsts 0 a) w' (fun a' w'' => ∃ γ', (∀ j, L j = true → vApp vals p m γ' j = vApp vals p m γ j) ∧ a' = (Fr (vApp vals p m γ) L dsts 0 a).put o.dst (vApp vals p m γ' i) ∧ AppI p K R C T γ' (onL L i) w'') Q) k l' := by
      intro l'
      induction l' with
      | nil => intro k hk _ hs; trivial
      | cons o l' ih =>
        intro k hk hg hs
        refine ⟨?_, ih (k + 1) (by simp at hk; omega) (fun j => by have := hg (j + 1); rw [List.getElem?_cons_succ] at this; rw [this]; congr 1; omega) hs.2⟩
        rintro γ L w' ⟨hk0, hcl, hcl2, h1, h2⟩ hL hdep
        have hSF : SlotF dsts (vApp vals p m γ) a o (Fr (vApp vals p m γ) L dsts 0 a) :=
          ⟨fun j hj t ht => Fr_get (vApp vals p m γ) L t j (hdep j (List.contains_iff_mem.1 hj)) dsts 0 a hnd (Nat.zero_le _) (by simpa using ht) (inD_lt hin ht), fun t ht => Fr_old (vApp vals p m γ) L t dsts 0 a ht⟩
        have hlt : k < p + 2 := by simp at hk; omega
        have hold : Nat.ble k p = true → OldAt dsts p a (Fr (vApp vals p m γ) L dsts 0 a) := fun hkp t ht => by
          have hkp' : k ≤ p := Nat.le_of_ble_eq_true hkp
          have hLp1 : L (p + 1) = false := by
            cases h : L (p + 1) with
            | false => rfl
            | true => have := hcl2 h k hkp'; rw [hL] at this; cases this
          refine Fr_off _ L t dsts 0 a fun j hj => ?_
          rw [Nat.zero_add]
          by_cases e : j = p + 1
          · rw [e]; exact hLp1
          · have hjl : j < dsts.length := (List.getElem?_eq_some_iff.1 hj).1
            have hdl : dsts.length = p + 2 := by rw [← hds, List.length_map, hlen]
            have hm := List.all_eq_true.1 hone (some t) (List.mem_of_getElem? (i := j) (by rw [List.getElem?_take_of_lt (by omega)]; exact hj))
            rw [List.getD, ht] at hm
            simp [apartD] at hm
        rcases hs.1 with ⟨n1, n2, hq⟩ | ⟨e1, hq⟩ | ⟨e2, he, hq⟩
        · have n1' : k + 1 ≠ p := fun e => by rw [e, Nat.beq_refl] at n1; cases n1
          have n2' : p ≠ k := fun e => by rw [← e, Nat.beq_refl] at n2; cases n2
          have n3' : p - 1 ≠ k := by omega
          refine Oper.wp_mono ?_ (hq γ _ w' hk0 hSF hold)
          rintro a' w'' ⟨rfl, hb⟩
          obtain ⟨q1, q2, q3, q4⟩ := hK _ _ hb
          refine ⟨γ, fun _ _ => rfl, rfl, q1 hk0, ?_, ?_, ?_, ?_⟩
          · rw [onL_ne n2', onL_ne n3']; exact hcl
          · by_cases e : k = p + 1
            · subst e
              intro _
              have := hg 0
              rw [List.getElem?_cons_zero, Nat.add_zero] at this
              intro j hj
              by_cases ej : j = p + 1
              · omega
              · rw [onL_ne ej]; exact hdep j (List.contains_iff_mem.1 (List.all_eq_true.1 (hasg o this.symm) j (List.mem_range.2 (by omega))))
            · rw [onL_ne (Ne.symm e)]
              intro h j hj
              unfold onL
              rw [hcl2 h j hj]
              rfl
          · rw [onL_ne n2', onL_ne n3']; exact fun h => ⟨q2 (h1 h).1, fun h' => q3 _ ((h1 h).2 h')⟩
          · rw [onL_ne n2']; exact fun h => q4 _ (h2 h)
        · have e1' : k + 1 = p := Nat.eq_of_beq_eq_true e1
          have n2' : p ≠ k := by omega
          have e3' : p - 1 = k := by omega
          have hLp : L p = false := by
            cases h : L p with
            | false => rfl
            | true => have := hcl h; rw [e3', hL] at this; cases this
          refine Oper.wp_mono ?_ (hq γ _ w' hk0 hSF)
          rintro a' w'' ⟨g, rfl, hb, hC⟩
          obtain ⟨q1, q2, q3, q4⟩ := hK _ _ hb
          refine ⟨(g, γ.2), fun j hj => ?_, ?_, q1 hk0, ?_, ?_, ?_, ?_⟩
          · have nj : Nat.beq (j + 1) p = false := by
              cases h : Nat.beq (j + 1) p with
              | false => rfl
              | true =>
                have : j = k := by have := Nat.eq_of_beq_eq_true h; omega
                rw [this, hL] at hj; cases hj
            simp only [vApp, nj, Bool.false_eq_true, if_false]
          · simp only [vApp, e1, if_true]
          · rw [onL_ne n2', hLp]; exact fun h => by cases h
          · rw [onL_ne (show p + 1 ≠ k by omega)]
            intro h j hj
            unfold onL
            rw [hcl2 h j hj]
            rfl
          · intro _; exact ⟨q2 (h1 hLp).1, fun _ => hC⟩
          · rw [onL_ne n2', hLp]; exact fun h => by cases h
        · have e2' : k = p := Nat.eq_of_beq_eq_true e2
          subst e2'
          have hLq := hdep (k - 1) (List.contains_iff_mem.1 he)
          refine Oper.wp_mono ?_ (hq γ _ w' hk0 (h1 hL).1 ((h1 hL).2 hLq) hSF)
          rintro a' w'' ⟨u, rfl, hT, hk1⟩
          refine ⟨(γ.1, u), fun j hj => ?_, ?_, hk1, ?_, ?_, ?_, fun _ => hT⟩
          · have nj : Nat.beq j k = false := by
              cases h : Nat.beq j k with
              | false => rfl
              | true => rw [Nat.eq_of_beq_eq_true h, hL] at hj; cases hj
            have nj2 : Nat.beq j (k + 1) = false := by
              cases h : Nat.beq j (k + 1) with
              | false => rfl
              | true => have := hcl2 (by rw [← Nat.eq_of_beq_eq_true h]; exact hj) k (Nat.le_refl _); rw [hL] at this; cases this
            simp only [vApp, nj, nj2, Bool.or_self, Bool.false_eq_true, if_false]
          · have n : Nat.beq (k + 1) k = false := by
              cases h : Nat.beq (k + 1) k with
              | false => rfl
              | true => have := Nat.eq_of_beq_eq_true h; omega
            simp only [vApp, n, Nat.beq_refl, Bool.true_or, if_true]
            rfl
          · intro _
            rw [onL_ne (by omega)]
            exact hLq
          · rw [onL_ne (show k + 1 ≠ k by omega)]
            intro h j hj
            unfold onL
            rw [hcl2 h j hj]
            rfl
          · rw [onL_same]; exact fun h => by cases h
    exact key l 0 (by omega) (fun j => by rw [Nat.zero_add]) step
  · rintro γ L w' hL ⟨hk0, _, _, _, h2⟩
    exact fin γ w' (h2 (hL p (by omega))) hk0
end Go.Proofs.YtfebknplkbeblaaDoor

namespace Go.Proofs.YtfebknplkbeblaaDoor
open Go.RowKit
set_option linter.unusedVariables false
/-- 'append(v, c)' where v is the call's own row of bytes. -/
theorem wl_one {P : Program} {w : World} {ops : Array Oper} {rest : List Oper} {o : Oper} {a : Act} {Q : Exit → Act → World → Prop} {base : Nat} {e : TypeId} {v : Value} {n : Nat} {xs : List UInt8} (hown : w.ownsRow base e 1 v n (xs.map fun c => Value.int .u8 (c.toNat : Int)))
    (hgd : o.guard = none) (s x : Operand) (t : TypeId) (ho : o.op = .call { callee := .builtin .append, args := #[s, x], argTypes := #[t, t] }) (ht : P.underlying t = some (.slice e)) (i : TypeInfo) (hi : P.info? e = some i) (hz : i.zero = some (.int .u8 0)) (h1 : i.size = 1) (hby : i.bytes = 1)
    (hs : a.eval s = v) (g c : Nat) (ch : UInt8) (hx : a.eval x = .slice (some ⟨g, 0, none⟩) 1 c) (hc : w.cell? ⟨g, 0, none⟩ = some (.int .u8 ch.toNat)) (hn : n + 1 ≤ 140737488355328) (hbase : base ≤ w.heap.size)
    (k : ∀ v' w', w'.ownsRow base e 1 v' (n + 1) ((xs ++ [ch]).map fun c => Value.int .u8 (c.toNat : Int)) → w.grownBy w' v.ownBlock → ¬ v' = .slice none 0 0 → wpList P ops Q rest (a.put o.dst v') w') : wpList P ops Q (o :: rest) a w := by
  refine wpList_append_own w hgd s x t ho base e i (.int .u8 0) 1 1 ht hi hz h1 hby rfl (by omega) v n _ hs hown ⟨g, 0, none⟩ 1 c [Value.int .u8 (ch.toNat : Int)] hx rfl (fun j u hu => ?_) (fun u hu => ?_) (by unfold maxLen; omega) (by omega) hbase fun v' w' h2 h3 h4 => ?_
  · match j with
    | 0 => injection hu with hu; subst hu; exact hc
    | j + 1 => cases hu
  · obtain rfl := List.mem_singleton.1 hu
    rfl
  · refine k v' w' (by rw [List.map_append]; exact h2) h3 fun h5 => by have := (h4.1 h5).2; omega
/-- What a row of one's own is, as a slice. -/
theorem own_slice {w : World} {base : Nat} {e : TypeId} {v : Value} {n : Nat} {xs : List Value} (h : w.ownsRow base e 1 v n xs) : ∃ a c, v = .slice a n c := by
  obtain ⟨_, ⟨rfl, rfl⟩ | ⟨g, cap, _, rfl, _⟩⟩ := h
  · exact ⟨_, _, rfl⟩
  · exact ⟨_, _, rfl⟩
/-- A row that is laid with its bytes. -/
theorem own_laid (w : World) (l : List UInt8) (e : TypeId) (n : Nat) (hn : l.length = n) (hm : n ≤ maxLen) {base : Nat} (hb : base ≤ w.heap.size) :
    (w.alloc (.cells (l.map fun c => Value.int .u8 (c.toNat : Int)).toArray e)).ownsRow base e 1 (.slice (some ⟨w.heap.size, 0, none⟩) n n) n (l.map fun c => Value.int .u8 (c.toNat : Int)) :=
  ⟨by simp [hn], .inr ⟨w.heap.size, n, _, rfl, hb, heap_alloc_new w _, Nat.le_refl _, hm, by simp [hn], List.take_of_length_le (by simp [hn])⟩⟩
/-- What is read of a row of one's own. -/
theorem own_rds {w : World} {base : Nat} {e : TypeId} {v : Value} {n : Nat} {l : List UInt8} (h : w.ownsRow base e 1 v n (l.map fun c => Value.int .u8 (c.toNat : Int))) :
    ∃ (a : Option Addr) (c : Nat), v = .slice a n c ∧ l.length = n ∧ RdS w a l ∧ n ≤ c ∧ c ≤ maxLen ∧ (a = none → n = 0 ∧ c = 0) := by
  by_cases hv : v = .slice none 0 0
  · obtain ⟨h1, h2 | ⟨g, cap, cur, h3, _⟩⟩ := h
    · obtain ⟨h3, rfl⟩ := h2
      refine ⟨none, 0, hv, by simpa using h1, .inl ?_, Nat.le_refl _, Nat.zero_le _, fun _ => ⟨rfl, rfl⟩⟩
      simpa using h1
    · rw [hv] at h3; cases h3
  · obtain ⟨g, cap, cur, rfl, hb, hbg, h1, h2, h3, h4⟩ := own_blk h hv
    exact ⟨some ⟨g, 0, none⟩, cap, rfl, h3, .inr ⟨g, 0, rfl, hbg.lt, fun i hi => (hbg.cell (0 + i)).trans (by rw [Nat.zero_add]; exact h4 i hi)⟩, h1, h2, fun h => by cases h⟩
end Go.Proofs.YtfebknplkbeblaaDoor

namespace Go.Proofs.YtfebknplkbeblaaDoor
open Go.RowKit
set_option linter.unusedVariables false
section
variable {P : Program} {Q : Exit → Act → World → Prop} {o : Oper} {A : Act} {w : World} {u : Value}
theorem op_gtr (t r : TypeId) (x y : Operand) (k : IntKind) (m n : Int) (b : Bool) (ho : o.op = .binOp .gtr t x y r) (hx : A.eval x = .int k m) (hy : A.eval y = .int k n) (hb : decide (n < m) = b) : o.wp P A w (fun a' w'' => a' = A.put o.dst (.bool b) ∧ Below w.heap.size w w'') Q := by
  refine op_run ?_
  generalize A.eval = ρ at *
  unfold execOp
  subst hb
  simp [ho, hx, hy, eqGuard, binOp, Op.intCmp, go_sem]
theorem op_lss (t r : TypeId) (x y : Operand) (k : IntKind) (m n : Int) (b : Bool) (ho : o.op = .binOp .lss t x y r) (hx : A.eval x = .int k m) (hy : A.eval y = .int k n) (hb : decide (m < n) = b) : o.wp P A w (fun a' w'' => a' = A.put o.dst (.bool b) ∧ Below w.heap.size w w'') Q := by
  refine op_run ?_
  generalize A.eval = ρ at *
  unfold execOp
  subst hb
  simp [ho, hx, hy, eqGuard, binOp, Op.intCmp, go_sem]
theorem op_leq (t r : TypeId) (x y : Operand) (k : IntKind) (m n : Int) (b : Bool) (ho : o.op = .binOp .leq t x y r) (hx : A.eval x = .int k m) (hy : A.eval y = .int k n) (hb : decide (m ≤ n) = b) : o.wp P A w (fun a' w'' => a' = A.put o.dst (.bool b) ∧ Below w.heap.size w w'') Q := by
  refine op_run ?_
  generalize A.eval = ρ at *
  unfold execOp
  subst hb
  simp [ho, hx, hy, eqGuard, binOp, Op.intCmp, go_sem]
theorem op_geq (t r : TypeId) (x y : Operand) (k : IntKind) (m n : Int) (b : Bool) (ho : o.op = .binOp .geq t x y r) (hx : A.eval x = .int k m) (hy : A.eval y = .int k n) (hb : decide (n ≤ m) = b) : o.wp P A w (fun a' w'' => a' = A.put o.dst (.bool b) ∧ Below w.heap.size w w'') Q := by
  refine op_run ?_
  generalize A.eval = ρ at *
  unfold execOp
  subst hb
  simp [ho, hx, hy, eqGuard, binOp, Op.intCmp, go_sem]
theorem op_neq_int (t r : TypeId) (x y : Operand) (k : IntKind) (m n : Int) (b : Bool) (ho : o.op = .binOp .neq t x y r) (hx : A.eval x = .int k m) (hy : A.eval y = .int k n) (hb : (m != n) = b) : o.wp P A w (fun a' w'' => a' = A.put o.dst (.bool b) ∧ Below w.heap.size w w'') Q := by
  refine op_run ?_
  generalize A.eval = ρ at *
  unfold execOp
  subst hb
  simp [ho, hx, hy, eqGuard, binOp, Op.intCmp, go_sem]
theorem op_add (t r : TypeId) (x y : Operand) (k : IntKind) (m n s : Int) (ho : o.op = .binOp .add t x y r) (hx : A.eval x = .int k m) (hy : A.eval y = .int k n) (hb : k.wrap (m + n) = s) : o.wp P A w (fun a' w'' => a' = A.put o.dst (.int k s) ∧ Below w.heap.size w w'') Q := by
  refine op_run ?_
  generalize A.eval = ρ at *
  unfold execOp
  subst hb
  simp [ho, hx, hy, eqGuard, binOp, Op.intArith, go_sem]
theorem op_sub (t r : TypeId) (x y : Operand) (k : IntKind) (m n s : Int) (ho : o.op = .binOp .sub t x y r) (hx : A.eval x = .int k m) (hy : A.eval y = .int k n) (hb : k.wrap (m - n) = s) : o.wp P A w (fun a' w'' => a' = A.put o.dst (.int k s) ∧ Below w.heap.size w w'') Q := by
  refine op_run ?_
  generalize A.eval = ρ at *
  unfold execOp
  subst hb
  simp [ho, hx, hy, eqGuard, binOp, Op.intArith, go_sem]
theorem op_not (t : TypeId) (x : Operand) (b : Bool) (ho : o.op = .unOp .not t x) (hx : A.eval x = .bool b) : o.wp P A w (fun a' w'' => a' = A.put o.dst (.bool (!b)) ∧ Below w.heap.size w w'') Q := by
  refine op_run ?_
  generalize A.eval = ρ at *
  unfold execOp
  simp [ho, hx, Op.unary, go_sem]
theorem op_neg (t : TypeId) (x : Operand) (k : IntKind) (m s : Int) (ho : o.op = .unOp .neg t x) (hx : A.eval x = .int k m) (hb : k.wrap (0 - m) = s) : o.wp P A w (fun a' w'' => a' = A.put o.dst (.int k s) ∧ Below w.heap.size w w'') Q := by
  refine op_run ?_
  generalize A.eval = ρ at *
  unfold execOp
  subst hb
  simp [ho, hx, Op.unary, Op.intArith, go_sem]
theorem run_eq_bool {t : TypeId} (ht : P.underlying t = some .bool) (a b : Bool) (w : World) : (Op.equal t (.bool a) (.bool b)).run P w = .ok (a == b) w := by
  unfold Op.equal
  show (Op.equalIn 10000 t (.bool a) (.bool b)).run P w = _
  unfold Op.equalIn
  simp [run_underlying ht, Sem.run_bind]
theorem op_eq_bool (t r : TypeId) (x y : Operand) (a b c : Bool) (ho : o.op = .binOp .eql t x y r) (hx : A.eval x = .bool a) (hy : A.eval y = .bool b) (ht : P.underlying t = some .bool) (hb : (a == b) = c) : o.wp P A w (fun a' w'' => a' = A.put o.dst (.bool c) ∧ Below w.heap.size w w'') Q := by
  refine op_run ?_
  generalize A.eval = ρ at *
  unfold execOp
  subst hb
  simp [ho, hx, hy, eqGuard, binOp, run_eq_bool ht, go_sem]
theorem op_len_str (x : Operand) (t : TypeId) (s : ByteArray) (n : Nat) (ho : o.op = .call { callee := .builtin .len, args := #[x], argTypes := #[t] }) (hx : A.eval x = .string s) (ht : P.underlying t = some .string) (hn : s.size = n) : o.wp P A w (fun a' w'' => a' = A.put o.dst (.int .i64 n) ∧ Below w.heap.size w w'') Q := by
  refine op_run ?_
  generalize A.eval = ρ at *
  unfold execOp
  subst hn
  simp [ho, hx, ht, Builtin.len_, run_underlying ht, go_sem]
theorem op_idx_str (x i : Operand) (t : TypeId) (s : ByteArray) (n : Int) (v : Value) (ho : o.op = .index t x i) (hx : A.eval x = .string s) (hi : A.eval i = .int .i64 n) (hrun : (Instr.index t (.string s) (.int .i64 n)).run P w = .ok v w) : o.wp P A w (fun a' w'' => a' = A.put o.dst v ∧ Below w.heap.size w w'') Q := by
  refine op_run ?_
  generalize A.eval = ρ at *
  unfold execOp
  simp [ho, hx, hi, hrun, go_sem]
end
end Go.Proofs.YtfebknplkbeblaaDoor

namespace Go.Proofs.YtfebknplkbeblaaDoor
open Go.RowKit
set_option linter.unusedVariables false

/-- i: the operation that fills block g; t: its type; z, c: its cells before and behind. -/
structure SB where
  i : Nat
  g : Nat
  t : TypeId
  z : Array Value
  c : Array Value
def Kept (w w' : World) (sts : List SB) : Prop := ∀ k, k < w.heap.size → (∀ s, s ∈ sts → s.g ≠ k) → w'.heap[k]? = w.heap[k]?
theorem Kept.blk {w w' : World} {sts : List SB} (h : Kept w w' sts) {g : Nat} {t : TypeId} {cs : Array Value} (hb : Blk w g t cs) (hne : (sts.all fun s => !Nat.beq s.g g) = true ∨ ∀ s, s ∈ sts → s.g ≠ g) : Blk w' g t cs := by
  refine (h g hb.lt ?_).trans hb
  rcases hne with hne | hne
  · intro s hs
    have := List.all_eq_true.1 hne s hs
    exact Nat.ne_of_beq_eq_false (by simpa using this)
  · exact hne
def StI (B : Nat) (w : World) (sts : List SB) (L : Nat → Bool) (w' : World) : Prop :=
  Below B w w' ∧ w.heap.size ≤ w'.heap.size ∧ Kept w w' sts ∧ ∀ s, s ∈ sts → Blk w' s.g s.t (if L s.i then s.c else s.z)
section
variable {B : Nat} {w w' w'' : World} {sts : List SB} {L : Nat → Bool} {i : Nat}
theorem StI.quiet (h : StI B w sts L w') (hi : (sts.all fun s => !Nat.beq s.i i) = true) (hb : Below w'.heap.size w' w'') (hB : B ≤ w.heap.size) : StI B w sts (onL L i) w'' := by
  obtain ⟨h1, h2, h3, h4⟩ := h
  refine ⟨h1.trans (hb.mono (by omega)), Nat.le_trans h2 hb.size, fun k hk hs => ?_, fun s hs => ?_⟩
  · rw [hb.block k (by omega)]
    exact h3 k hk hs
  · have e : s.i ≠ i := by have := List.all_eq_true.1 hi s hs; exact Nat.ne_of_beq_eq_false (by simpa using this)
    rw [onL_ne e]
    exact (h4 s hs).calls hb
theorem StI.store (h : StI B w sts L w') (hnd : (sts.map (·.i)).Nodup) (hgd : (sts.map (·.g)).Nodup) {s : SB} (hs : s ∈ sts) (hi : s.i = i) (hB : B ≤ s.g) : StI B w sts (onL L i) (w'.setRow s.g s.c) := by
  obtain ⟨h1, h2, h3, h4⟩ := h
  refine ⟨setRow_below h1 hB _, by simpa [World.setRow] using h2, fun k hk hne => ?_, fun r hr => ?_⟩
  · have : s.g ≠ k := hne s hs
    rw [← h3 k hk hne]
    simp [World.setRow, Array.getElem?_modify, this]
  · by_cases e : r.i = i
    · have : r = s := inj_nodup hnd hr hs (e.trans hi.symm)
      subst this
      rw [e, onL_same]
      exact (h4 r hr).row _
    · rw [onL_ne e]
      have : r.g ≠ s.g := fun hg => e ((inj_nodup hgd hr hs hg) ▸ hi)
      exact (h4 r hr).rowFar this _
end
def StStep (P : Program) (Q : Exit → Act → World → Prop) (B : Nat) (w0 : World) (sts : List SB) (dsts : List (Option Tmp)) (vals : Nat → Value) (a0 : Act) (i : Nat) (o : Oper) : Prop :=
  ((sts.all fun s => !Nat.beq s.i i) = true ∧ ∀ (A : Act) w', Below B w0 w' → Kept w0 w' sts → w0.heap.size ≤ w'.heap.size → SlotF dsts vals a0 o A → o.wp P A w' (fun a' w'' => a' = A.put o.dst (vals i) ∧ Below w'.heap.size w' w'') Q) ∨
  (∃ s, s ∈ sts ∧ s.i = i ∧ vals i = undef ∧ ∃ ty x y, o.op = .store ty x y ∧ (∀ A, SlotF dsts vals a0 o A → A.eval x = .pointer (some ⟨s.g, 0, none⟩) ∧ A.eval y = .agg s.c) ∧ (P.info? ty).map (·.size) = some s.c.size ∧ s.z.size = s.c.size ∧ s.c.all (·.oneCell') = true ∧ B ≤ s.g)
theorem wp_region_st {P : Program} {Q : Exit → Act → World → Prop} {id : Nat} {l : List Oper} {a : Act} {w : World} (B : Nat) (dsts : List (Option Tmp)) (sts : List SB) (vals : Nat → Value) (hB : B ≤ w.heap.size)
    (hm : P.follows .mixedOrders = true) (hds : l.map (·.dst) = dsts) (hnd : nodupD dsts = true) (hng : (l.all fun o => o.guard.isNone) = true) (hord : ordGo 0 l = true) (hin : inD a.tmps.size dsts = true)
    (hsi : nodupB (sts.map (·.i)) = true) (hsg : (sts.map (·.g)).Nodup) (hlen : (sts.all fun s => Nat.blt s.i l.length) = true) (h0 : ∀ s, s ∈ sts → Blk w s.g s.t s.z)
    (step : StepAll (StStep P Q B w sts dsts vals a) 0 l)
    (fin : ∀ w', Below B w w' → w.heap.size ≤ w'.heap.size → Kept w w' sts → (∀ s, s ∈ sts → Blk w' s.g s.t s.c) → Q .normal (Fr vals (fun _ => true) dsts 0 a) w') : (Code.region id l.toArray true).wp P Q a w := by
  refine wp_region_inv (Γ := Unit) dsts (fun _ => vals) (fun _ L w' => StI B w sts L w') hm hds hnd hng hord () ?_ ?_ ?_
  · exact ⟨(Below.refl B w).drew, Nat.le_refl _, fun _ _ _ => rfl, fun s hs => by simpa using (h0 s hs).drew⟩
  · refine StepAll.imp ?_ step
    rintro i o hst γ L w' hI hL hdep
    have hSF : SlotF dsts vals a o (Fr vals L dsts 0 a) :=
      ⟨fun j hj t ht => Fr_get vals L t j (hdep j (List.contains_iff_mem.1 hj)) dsts 0 a hnd (Nat.zero_le _) (by simpa using ht) (inD_lt hin ht), fun t ht => Fr_old vals L t dsts 0 a ht⟩
    rcases hst with ⟨hq, hw⟩ | ⟨s, hs, hi, hv, ty, x, y, ho, hxy, h1, h2, h3, h4⟩
    · refine Oper.wp_mono ?_ (hw _ w' hI.1 hI.2.2.1 hI.2.1 hSF)
      rintro a' w'' ⟨rfl, hb⟩
      exact ⟨(), fun _ _ => rfl, rfl, hI.quiet hq hb hB⟩
    · obtain ⟨hx, hy⟩ := hxy _ hSF
      have hb : Blk w' s.g s.t s.z := by have hb := hI.2.2.2 s hs; rw [hi, hL] at hb; exact hb
      refine wp_store_row ty x y ho s.g s.c hx hy s.t s.z hb h1 h2 h3 ⟨(), fun _ _ => rfl, ?_, hI.store (nodupB_spec hsi) hsg hs hi h4⟩
      rw [hv]
  · rintro γ L w' hL ⟨h1, h2, h3, h4⟩
    refine fin w' h1 h2 h3 fun s hs => ?_
    have := h4 s hs
    have hl := List.all_eq_true.1 hlen s hs
    simp only [Nat.blt_eq] at hl
    rw [hL _ hl] at this
    exact this
end Go.Proofs.YtfebknplkbeblaaDoor

namespace Go.Proofs.YtfebknplkbeblaaDoor
open Go.RowKit
set_option linter.unusedVariables false
section
variable {P : Program} {Q : Exit → Act → World → Prop} {o : Oper} {A : Act} {w : World} {u : Value}
theorem wp_store_int {K : Act → World → Prop} (ty : TypeId) (x y : Operand) (ho : o.op = .store ty x y) (g i : Nat) (hx : A.eval x = .pointer (some ⟨g, i, none⟩)) (k k' : IntKind) (v : Int) (hy : A.eval y = .int k v) (u : Value)
    (hc : w.cell? ⟨g, i, none⟩ = some u) (hf : w.frozen? ⟨g, i, none⟩ = false) (hu : P.underlying ty = some (.int k')) (hs : ∀ w, (sizeOf ty).run P w = .ok 1 w) (hK : K (A.put o.dst undef) (w.setCell ⟨g, i, none⟩ (.int k v))) : o.wp P A w K Q := by
  have h : (execOp A.eval o).run P w = .ok .skip (w.setCell ⟨g, i, none⟩ (.int k v)) := by
    generalize A.eval = ρ at *
    unfold execOp
    simp [ho, hx, hy, hc, hf, run_underlying hu, isAgg, stored, hs, go_sem]
  unfold Oper.wp
  rw [h]
  exact hK
theorem run_loadVar_cellv (w : World) (a : Addr) (ty : TypeId) (v : Value) (d : TypeDesc) (hc : w.cell? a = some v) (hu : P.underlying ty = some d) (hd : (match d with | .struct _ | .array _ _ => false | _ => true) = true) :
    (loadVar ty a).run P w = .ok v w := by
  have hagg : (isAgg ty).run P w = .ok false w := by
    unfold isAgg
    rw [Sem.run_bind, run_underlying hu w]
    cases d <;> simp_all
  simp [loadVar, Sem.run_bind, hagg, hc]
theorem op_cellv (ty : TypeId) (x : Operand) (ho : o.op = .load ty x) (b : Addr) (hx : A.eval x = .pointer (some b)) (v : Value) (hc : w.cell? b = some v) (d : TypeDesc) (hu : P.underlying ty = some d)
    (hd : (match d with | .struct _ | .array _ _ => false | _ => true) = true) : o.wp P A w (fun a' w'' => a' = A.put o.dst v ∧ Below w.heap.size w w'') Q := by
  refine op_run ?_
  unfold execOp
  simp only [ho, hx, Instr.loadAt, Instr.sureAddr, Sem.run_bind, Sem.run_pure, Result.andThen_ok, run_loadVar_cellv w b ty v d hc hu hd]
theorem op_idxa (t : TypeId) (x i : Operand) (ho : o.op = .indexAddr t x i) {vx vi : Value} (hx : A.eval x = vx) (hi : A.eval i = vi) (hrun : (Instr.indexAt t vx vi).run P w = .ok u w) : o.wp P A w (fun a' w'' => a' = A.put o.dst u ∧ Below w.heap.size w w'') Q := by
  refine op_run ?_
  unfold execOp
  simp only [ho, hx, hi, Sem.run_bind, hrun]
  rfl
theorem op_cvt (src dst : TypeId) (x : Operand) {v : Value} (ho : o.op = .convert src dst x) (hx : A.eval x = v) (hrun : (convert src dst v).run P w = .ok u w) : o.wp P A w (fun a' w'' => a' = A.put o.dst u ∧ Below w.heap.size w w'') Q := by
  refine op_run ?_
  unfold execOp
  simp only [ho, hx, Sem.run_bind, hrun]
  rfl
theorem op_or (t r : TypeId) (x y : Operand) (k : IntKind) (m n s : Int) (ho : o.op = .binOp .or t x y r) (hx : A.eval x = .int k m) (hy : A.eval y = .int k n) (hb : bits .or k m n = s) : o.wp P A w (fun a' w'' => a' = A.put o.dst (.int k s) ∧ Below w.heap.size w w'') Q := by
  refine op_run ?_
  generalize A.eval = ρ at *
  unfold execOp
  subst hb
  simp [ho, hx, hy, eqGuard, binOp, Op.intBits, bits, go_sem]
end
end Go.Proofs.YtfebknplkbeblaaDoor

namespace Go.Proofs.YtfebknplkbeblaaDoor
open Go.RowKit
set_option linter.unusedVariables false

theorem Blk.snd (w : World) (o : Obj) (t : TypeId) (cs : Array Value) : Blk ((w.alloc o).alloc (.cells cs t)) (w.heap.size + 1) t cs := Blk.newAt _ _ _ (by simp)
/-- A row of 256 integers. -/
def bc (f : Nat → Int) : Array Value := ((List.range 256).map fun i => Value.int .i64 (f i)).toArray
theorem bc_size (f : Nat → Int) : (bc f).size = 256 := by simp [bc]
theorem bc_at (f : Nat → Int) (i : Nat) (h : i < 256) : (bc f)[i]? = some (.int .i64 (f i)) := by
  unfold bc
  rw [List.getElem?_toArray, List.getElem?_map, List.getElem?_range h]
  rfl
theorem bc_one (f : Nat → Int) : (bc f).all (·.oneCell') = true := by
  rw [Array.all_eq_true]
  intro i hi
  simp [bc, Value.oneCell']
theorem bc_ext {f g : Nat → Int} (h : ∀ i, i < 256 → f i = g i) : bc f = bc g := by
  unfold bc
  congr 1
  apply List.map_congr_left
  intro i hi
  rw [h i (List.mem_range.1 hi)]
theorem bc_set (f : Nat → Int) (i : Nat) (h : i < 256) (v : Int) : (bc f).setIfInBounds i (.int .i64 v) = bc fun j => if j = i then v else f j := by
  apply Array.ext
  · simp [bc]
  · intro j h1 h2
    have hj : j < 256 := by simpa [bc] using h1
    simp only [bc, Array.getElem_setIfInBounds, List.getElem_toArray, List.getElem_map, List.getElem_range]
    by_cases e : j = i
    · subst e; simp
    · simp [e, Ne.symm e]
/-- Digit i of m. -/
def dig (m i : Nat) : Int := ((m / 2 ^ i % 2 : Nat) : Int)
theorem dig_01 (m i : Nat) : dig m i = 0 ∨ dig m i = 1 := by
  unfold dig
  have := Nat.mod_lt (m / 2 ^ i) (show 0 < 2 by decide)
  omega
theorem mod_succ (N k : Nat) : N % 2 ^ (k + 1) = N % 2 ^ k + N / 2 ^ k % 2 * 2 ^ k := by
  rw [Nat.pow_succ, Nat.mod_mul, Nat.mul_comm (2 ^ k)]
theorem T_pow : T = 2 ^ 256 := by decide
theorem W64_pow : W64 = 2 ^ 64 := by decide
theorem lim_bitAt (N x k : Nat) (hN : N < 2 ^ k) (hx : x ≤ 1) : lim (N + x * 2 ^ k) (k / 64) = lim N (k / 64) + x * 2 ^ (k % 64) ∧ lim N (k / 64) < 2 ^ (k % 64) ∧ ∀ j, j ≠ k / 64 → lim (N + x * 2 ^ k) j = lim N j := by
  have hk : 2 ^ k = W64 ^ (k / 64) * 2 ^ (k % 64) := by rw [W64_pow, ← Nat.pow_mul, ← Nat.pow_add]; congr 1; omega
  have hs : 2 ^ (k % 64) * 2 ≤ W64 := by rw [W64_pow, ← Nat.pow_succ]; exact Nat.pow_le_pow_right (by decide) (by omega)
  have hd : N / W64 ^ (k / 64) < 2 ^ (k % 64) := by
    rw [Nat.div_lt_iff_lt_mul (pow_pos' _), Nat.mul_comm, ← hk]; exact hN
  have hxs : x * 2 ^ (k % 64) ≤ 2 ^ (k % 64) := by
    rcases (show x = 0 ∨ x = 1 by omega) with rfl | rfl <;> simp
  refine ⟨?_, ?_, ?_⟩
  · unfold lim
    have e : x * 2 ^ k = W64 ^ (k / 64) * (x * 2 ^ (k % 64)) := by rw [hk, Nat.mul_left_comm]
    rw [e, Nat.add_mul_div_left _ _ (pow_pos' _)]
    rw [Nat.mod_eq_of_lt (a := N / W64 ^ (k / 64)) (by omega), Nat.mod_eq_of_lt (by omega)]
  · unfold lim
    rw [Nat.mod_eq_of_lt (a := N / W64 ^ (k / 64)) (by omega)]
    exact hd
  · intro j hj
    by_cases hlt : k / 64 < j
    · have hb : N + x * 2 ^ k < W64 ^ (k / 64 + 1) := by
        have h1 : x * 2 ^ k ≤ 2 ^ k := by rcases (show x = 0 ∨ x = 1 by omega) with rfl | rfl <;> simp
        have h2 : 2 ^ k * 2 ≤ W64 ^ (k / 64 + 1) := by
          rw [hk, Nat.mul_assoc, Nat.pow_succ]
          exact Nat.mul_le_mul_left _ hs
        omega
      rw [lim_high _ j (k / 64 + 1) hb hlt, lim_high N j (k / 64 + 1) (by omega) hlt]
    · have e : x * 2 ^ k = (x * 2 ^ (k % 64) * W64 ^ (k / 64 - j - 1) * W64) * W64 ^ j := by
        rw [hk, Nat.mul_assoc, Nat.mul_assoc, Nat.mul_assoc, ← Nat.pow_succ', ← Nat.pow_add, Nat.mul_comm (W64 ^ (k / 64))]
        congr 3
        omega
      unfold lim
      rw [e, Nat.add_mul_div_right _ _ (pow_pos' _), Nat.add_mul_mod_self_right]
theorem or_bitAt (a x s : Nat) (ha : a < 2 ^ s) (hx : x ≤ 1) (hs : s < 64) : bits .or .u64 (a : Int) (IntKind.u64.wrap ((x : Int) * 2 ^ s)) = ((a + x * 2 ^ s : Nat) : Int) := by
  have h2 : 2 ^ s * 2 ≤ 18446744073709551616 := by rw [← Nat.pow_succ]; exact Nat.pow_le_pow_right (show 0 < 2 by decide) (show s + 1 ≤ 64 by omega)
  have hx2 : x * 2 ^ s ≤ 2 ^ s := by rcases (show x = 0 ∨ x = 1 by omega) with rfl | rfl <;> simp
  have hp : 0 < 2 ^ s := Nat.two_pow_pos s
  have w2 : IntKind.u64.wrap ((x : Int) * 2 ^ s) = ((x * 2 ^ s : Nat) : Int) := by
    have e : (x : Int) * 2 ^ s = ((x * 2 ^ s : Nat) : Int) := by push_cast; rfl
    rw [e]
    generalize x * 2 ^ s = y at *
    generalize 2 ^ s = z at *
    simp [IntKind.wrap, IntKind.signed, IntKind.bits]; omega
  rw [w2]
  have e2 := u64_or_nat a (x * 2 ^ s) (by omega) (by omega)
  rw [e2]
  congr 1
  rw [Nat.or_comm, ← Nat.shiftLeft_eq, ← Nat.shiftLeft_add_eq_or_of_lt ha]
  omega
/-- The first k digits. -/
def digK (m k i : Nat) : Int := if i < k then dig m i else 0
theorem digK_set (m k : Nat) (h : k < 256) : (bc (digK m k)).setIfInBounds k (.int .i64 (dig m k)) = bc (digK m (k + 1)) := by
  rw [bc_set _ _ h]
  apply bc_ext
  intro i hi
  unfold digK
  by_cases e : i = k
  · subst e; simp
  · simp [e]
    by_cases h1 : i < k
    · simp [h1, show i < k + 1 by omega]
    · simp [h1, show ¬ i < k + 1 by omega]
theorem digK_full (m : Nat) : bc (digK m 256) = bc (dig m) := bc_ext fun i hi => by unfold digK; rw [if_pos hi]
theorem digK_zero (m : Nat) : bc (digK m 0) = bc fun _ => 0 := bc_ext fun i _ => by unfold digK; simp
theorem isB (c : Array Value) (h : c.size = 256) : (Tryd.prog.info? 101).map (·.size) = some c.size := by rw [h]; kernel_rfl
theorem isR4 (c : Array Value) (h : c.size = 4) : (Tryd.prog.info? 58).map (·.size) = some c.size := by rw [h]; kernel_rfl
theorem alloc_runB (A : Act) (o : Oper) (ho : o.op = .alloc 101) (w : World) : (execOp A.eval o).run Tryd.prog w = .ok (.value (.pointer (some ⟨w.heap.size, 0, none⟩))) (w.alloc (.cells (bc fun _ => 0) 101)) := by
  unfold execOp
  simp only [ho]
  kernel_rfl
theorem wl_allocB {ops : Array Oper} {rest : List Oper} {o : Oper} {a : Act} {w : World} {Q : Exit → Act → World → Prop} (hgd : o.guard = none) (ho : o.op = .alloc 101)
    (k : wpList Tryd.prog ops Q rest (a.put o.dst (.pointer (some ⟨w.heap.size, 0, none⟩))) (w.alloc (.cells (bc fun _ => 0) 101))) : wpList Tryd.prog ops Q (o :: rest) a w :=
  wpList_plain hgd fun _ hK => by
    unfold Oper.wp
    rw [alloc_runB a o ho w]
    exact hK _ _ k
/-- A new row of digits holds Z. -/
def AllocZ (Z : Array Value) : Prop := ∀ (ops : Array Oper) (rest : List Oper) (o : Oper) (a : Act) (w : World) (Q : Exit → Act → World → Prop), o.guard = none → o.op = .alloc 101 → wpList Tryd.prog ops Q rest (a.put o.dst (.pointer (some ⟨w.heap.size, 0, none⟩))) (w.alloc (.cells Z 101)) → wpList Tryd.prog ops Q (o :: rest) a w
theorem AllocZ.out {Z : Array Value} (h : AllocZ Z) {ops : Array Oper} {rest : List Oper} {o : Oper} {a : Act} {w : World} {Q : Exit → Act → World → Prop} (h1 : o.guard = none) (h2 : o.op = .alloc 101)
    (k : wpList Tryd.prog ops Q rest (a.put o.dst (.pointer (some ⟨w.heap.size, 0, none⟩))) (w.alloc (.cells Z 101))) : wpList Tryd.prog ops Q (o :: rest) a w := h _ _ _ _ _ _ h1 h2 k
theorem allocZ_of {Z : Array Value} (hZ : Z = bc fun _ => 0) : AllocZ Z := fun _ _ _ _ _ _ h1 h2 k => by subst hZ; exact wl_allocB h1 h2 k
theorem and1 (a s : Nat) (ha : a < W64) : bits .and .u64 ((a : Nat) / 2 ^ s : Int) 1 = ((a / 2 ^ s % 2 : Nat) : Int) := bit_u64 a s ha
set_option maxRecDepth 100000 in
set_option maxHeartbeats 1000000 in
theorem digits_any (m : Nat) (w : World) : Calls Tryd.prog 79 #[uval m] w fun e w' => e = .returned (.agg (bc (dig m))) ∧ Below w.heap.size w w' := by
  obtain ⟨Z, hZ⟩ : ∃ Z, Z = bc fun _ => 0 := ⟨_, rfl⟩
  have HA := allocZ_of hZ
  have HZ := Lib.hid hZ; clear hZ
  unfold uval
  go_enter Tryd.func79, Tryd.ntmps79
  go_wp2_with (with_reducible refine HA.out rfl rfl ?_)
  go_loopw [4] (fun i wr => ∃ k : Nat, k ≤ 256 ∧ i = .int .i64 k ∧ Blk wr w.heap.size 58 (ucells m) ∧ Blk wr (w.heap.size + 1) 101 Z ∧ Blk wr (w.heap.size + 2) 101 (bc (digK m k)) ∧ Below w.heap.size w wr) (fun i _ => 256 - (intOf i).toNat)
  case atStart =>
    refine ⟨0, by omega, rfl, ((Blk.newAt _ _ _ rfl).alloc _).alloc _, (Blk.snd _ _ _ _).alloc _, ?_, ba (ba (ba (Below.refl _ _) _) _) _⟩
    rw [digK_zero, ← HZ.out]
    exact Blk.newAt _ _ _ (by simp)
  case round =>
    obtain ⟨k, hk, rfl, h0, h1, h2, hb⟩ := hrel
    by_cases hlt : k < 256
    · obtain ⟨x, hx⟩ : ∃ x, x = m / 2 ^ k % 2 := ⟨_, rfl⟩
      have hx1 : x ≤ 1 := by omega
      have vb : bits .and .u64 ((lim m (k / 64) : Nat) / 2 ^ (k % 64) : Int) 1 = (x : Int) := by
        rw [bit_u64 _ _ (lim_lt _ _), lim_bit, hx]
      have ca := blk_get h0 (k / 64) _ (ucells_at m (k / 64) (by omega))
      have c2 := blk_get h2 k _ (bc_at _ k hlt)
      have f2 := h2.frozen k
      have i4 : k / 64 < 4 := by omega
      have k2 : (k : Int) < 256 := by omega
      have J := Lib.hid (And.intro h0 (And.intro h1 (And.intro h2 (And.intro hb hx)))); clear h0 h1 h2 hb hx
      go_wp2
      go_roundw
      case rel =>
        refine ⟨k + 1, by omega, by go_num, J.out.1.far (by omega) _, J.out.2.1.far (by omega) _, ?_, J.out.2.2.2.1.setCell (by simp; omega) _⟩
        have e : (x : Int) = dig m k := by rw [J.out.2.2.2.2]; rfl
        rw [e]
        exact (J.out.2.2.1.set_ k _).to (digK_set m k hlt)
      case measure => simp [intOf]; omega
    · obtain rfl : k = 256 := by omega
      rw [digK_full] at h2
      obtain ⟨D, hD⟩ : ∃ D, D = bc (dig m) := ⟨_, rfl⟩
      rw [← hD] at h2
      have sD : D.size = 256 := by rw [hD]; exact bc_size _
      have aD : D.all (·.oneCell') = true := by rw [hD]; exact bc_one _
      have iD := isB D sD
      have sZ : Z.size = D.size := by rw [sD, HZ.out]; exact bc_size _
      have J := Lib.hid (And.intro h1 (And.intro h2 (And.intro hb hD))); clear h0 h1 h2 hb hD
      go_wp2_with (first | with_reducible refine wl_row J.out.2.1 _ _ rfl rfl rfl _ _ Tryd.underlying101 iD ?_ | with_reducible refine ws_row J.out.1 _ _ _ _ rfl rfl rfl rfl iD sZ aD ?_)
      refine bodyPost_ret (v := .agg D) ?_ rfl ⟨by rw [J.out.2.2.2], setRow_below J.out.2.2.1 (by omega) _⟩
      exact results_cell_row rfl _ _ _ _ _ (0, 0) _ rfl (J.out.1.row _) Tryd.underlying101 rfl iD
/-- The number of a row of digits. -/
theorem number_step (N k : Nat) (hk : k < 256) : lim (N % 2 ^ (k + 1)) (k / 64) = lim (N % 2 ^ k) (k / 64) + N / 2 ^ k % 2 * 2 ^ (k % 64) ∧ lim (N % 2 ^ k) (k / 64) < 2 ^ (k % 64) ∧ ∀ j, j ≠ k / 64 → lim (N % 2 ^ (k + 1)) j = lim (N % 2 ^ k) j := by
  rw [mod_succ]
  exact lim_bitAt _ _ k (Nat.mod_lt _ (Nat.two_pow_pos k)) (by omega)
set_option maxRecDepth 100000 in
set_option maxHeartbeats 1000000 in
theorem number_any (N : Nat) (hN : N < T) (w : World) : Calls Tryd.prog 81 #[.agg (bc (dig N))] w fun e w' => e = .returned (uval N) ∧ Below w.heap.size w w' := by
  obtain ⟨D, hD⟩ : ∃ D, D = bc (dig N) := ⟨_, rfl⟩
  have atD : ∀ i, i < 256 → D[i]? = some (.int .i64 (N / 2 ^ i % 2 : Nat)) := fun i hi => by rw [hD]; exact bc_at _ i hi
  rw [← hD]
  have HD := Lib.hid (And.intro hD atD); clear hD atD
  have hu : uval N = .agg (ucells N) := rfl
  rw [hu]
  go_enter Tryd.func81, Tryd.ntmps81
  go_wp2
  go_loopw [4] (fun i wr => ∃ k : Nat, k ≤ 256 ∧ i = .int .i64 k ∧ Blk wr w.heap.size 101 D ∧ Blk wr (w.heap.size + 1) 58 (ucells 0) ∧ Blk wr (w.heap.size + 2) 58 (ucells (N % 2 ^ k)) ∧ Below w.heap.size w wr) (fun i _ => 256 - (intOf i).toNat)
  case atStart =>
    refine ⟨0, by omega, rfl, ((Blk.newAt _ _ _ rfl).alloc _).alloc _, (Blk.snd _ _ _ _).alloc _, ?_, ba (ba (ba (Below.refl _ _) _) _) _⟩
    rw [Nat.pow_zero, Nat.mod_one]
    exact Blk.newAt _ _ _ (by simp)
  case round =>
    obtain ⟨k, hk, rfl, h0, h1, h2, hb⟩ := hrel
    by_cases hlt : k < 256
    · obtain ⟨x, hx⟩ : ∃ x, x = N / 2 ^ k % 2 := ⟨_, rfl⟩
      obtain ⟨M, hM⟩ : ∃ M, M = N % 2 ^ k := ⟨_, rfl⟩
      obtain ⟨M2, hM2⟩ : ∃ M, M = N % 2 ^ (k + 1) := ⟨_, rfl⟩
      have hx1 : x ≤ 1 := by omega
      have st := number_step N k hlt
      rw [← hx, ← hM, ← hM2] at st
      obtain ⟨st1, st2, st3⟩ := st
      have vo := or_bitAt (lim M (k / 64)) x (k % 64) st2 hx1 (by omega)
      rw [← st1] at vo
      have cx := blk_get h0 k _ (HD.out.2 k hlt)
      rw [← hx] at cx
      rw [← hM] at h2
      have ca := blk_get h2 (k / 64) _ (ucells_at M (k / 64) (by omega))
      have fa := h2.frozen (k / 64)
      have i4 : k / 64 < 4 := by omega
      have k2 : (k : Int) < 256 := by omega
      have J := Lib.hid (And.intro h0 (And.intro h1 (And.intro h2 (And.intro hb (And.intro hM2 st3))))); clear h0 h1 h2 hb hM2 st1 st2 st3 hx hM
      go_wp2
      go_region
      go_wp2
      go_roundw
      case rel =>
        refine ⟨k + 1, by omega, by go_num, (J.out.1.far (by omega) _).drew, (J.out.2.1.far (by omega) _).drew, ?_, (J.out.2.2.2.1.setCell (by simp; omega) _).drew⟩
        have e := ucells_put M M2 (k / 64) i4 (fun j _ hj => J.out.2.2.2.2.2 j hj)
        rw [← J.out.2.2.2.2.1]
        exact ((J.out.2.2.1.set_ (k / 64) _).to e).drew
      case measure => simp [intOf]; omega
    · obtain rfl : k = 256 := by omega
      have e256 : N % 2 ^ 256 = N := Nat.mod_eq_of_lt (by rw [← T_pow]; exact hN)
      rw [e256] at h2
      obtain ⟨U, hU⟩ : ∃ U, U = ucells N := ⟨_, rfl⟩
      rw [← hU] at h2
      have sU : U.size = 4 := by rw [hU]; rfl
      have aU : U.all (·.oneCell') = true := by rw [hU]; simp [ucells, Value.oneCell']
      have iU := isR4 U sU
      have sZ : (ucells 0).size = U.size := by rw [sU]; rfl
      have J := Lib.hid (And.intro h1 (And.intro h2 (And.intro hb hU))); clear h0 h1 h2 hb hU e256
      go_wp2_with (first | with_reducible refine wl_row J.out.2.1 _ _ rfl rfl rfl _ _ Tryd.underlying58 iU ?_ | with_reducible refine ws_row J.out.1 _ _ _ _ rfl rfl rfl rfl iU sZ aU ?_)
      refine bodyPost_ret (v := .agg U) ?_ rfl ⟨by rw [J.out.2.2.2], setRow_below J.out.2.2.1 (by omega) _⟩
      exact results_cell_row rfl _ _ _ _ _ (0, 0) _ rfl (J.out.1.row _) Tryd.underlying58 rfl iU
end Go.Proofs.YtfebknplkbeblaaDoor

namespace Go.Proofs.YtfebknplkbeblaaDoor
open Go.RowKit
set_option linter.unusedVariables false

theorem dig_mod (m i : Nat) (h : i < 256) : dig (m % T) i = dig m i := by
  unfold dig
  have e : m % T / 2 ^ i % 2 = m / 2 ^ i % 2 := by
    have hT : T = 2 ^ i * 2 ^ (256 - i) := by rw [← Nat.pow_add, T_pow]; congr 1; omega
    have h2 : 2 ^ (256 - i) = 2 * 2 ^ (256 - i - 1) := by rw [← Nat.pow_succ']; congr 1; omega
    rw [hT, Nat.mod_mul_right_div_self, h2, Nat.mod_mul_right_mod]
  rw [e]
theorem dig_ext (m n : Nat) (hm : m < T) (hn : n < T) (h : ∀ i, i < 256 → dig m i = dig n i) : m = n := by
  apply Nat.eq_of_testBit_eq
  intro i
  by_cases hi : i < 256
  · have := h i hi
    unfold dig at this
    have e : m / 2 ^ i % 2 = n / 2 ^ i % 2 := by omega
    simp only [Nat.testBit_eq_decide_div_mod_eq, e]
  · have hp : (2 : Nat) ^ 256 ≤ 2 ^ i := Nat.pow_le_pow_right (by decide) (by omega)
    rw [T_pow] at hm hn
    rw [Nat.testBit_lt_two_pow (by omega), Nat.testBit_lt_two_pow (by omega)]
/-- The carry out of the first k digits. -/
def cryD (m n k : Nat) : Nat := (m % 2 ^ k + n % 2 ^ k) / 2 ^ k
theorem cryD_le (m n k : Nat) : cryD m n k ≤ 1 := by
  unfold cryD
  have h1 := Nat.mod_lt m (Nat.two_pow_pos k)
  have h2 := Nat.mod_lt n (Nat.two_pow_pos k)
  have : (m % 2 ^ k + n % 2 ^ k) / 2 ^ k < 2 := by rw [Nat.div_lt_iff_lt_mul (Nat.two_pow_pos k)]; omega
  omega
theorem cryD_zero (m n : Nat) : cryD m n 0 = 0 := by simp [cryD, Nat.mod_one]
theorem cryD_step (m n k : Nat) : m / 2 ^ k % 2 + n / 2 ^ k % 2 + cryD m n k = (m + n) / 2 ^ k % 2 + 2 * cryD m n (k + 1) := by
  have hp := Nat.two_pow_pos k
  have e1 : (m + n) / 2 ^ k = m / 2 ^ k + n / 2 ^ k + cryD m n k := by
    unfold cryD
    rw [Nat.add_div hp]
    have h1 := Nat.mod_lt m hp
    have h2 := Nat.mod_lt n hp
    generalize m % 2 ^ k = a at *
    generalize n % 2 ^ k = b at *
    by_cases h : 2 ^ k ≤ a + b
    · rw [if_pos h]
      have : (a + b) / 2 ^ k = 1 := by
        rw [show a + b = (a + b - 2 ^ k) + 1 * 2 ^ k by omega, Nat.add_mul_div_right _ _ hp, Nat.div_eq_of_lt (by omega)]
      omega
    · rw [if_neg h, Nat.div_eq_of_lt (a := a + b) (by omega)]
  have e2 : cryD m n (k + 1) = (m / 2 ^ k % 2 + n / 2 ^ k % 2 + cryD m n k) / 2 := by
    unfold cryD
    rw [mod_succ m k, mod_succ n k, Nat.pow_succ]
    have : m % 2 ^ k + m / 2 ^ k % 2 * 2 ^ k + (n % 2 ^ k + n / 2 ^ k % 2 * 2 ^ k) = m % 2 ^ k + n % 2 ^ k + (m / 2 ^ k % 2 + n / 2 ^ k % 2) * 2 ^ k := by
      rw [Nat.add_mul]; omega
    rw [this, ← Nat.div_div_eq_div_mul, Nat.add_mul_div_right _ _ hp]
    congr 1
    omega
  rw [e1, e2]
  omega
/-- The borrow out of the first k digits. -/
def boD (m n k : Nat) : Nat := if m % 2 ^ k < n % 2 ^ k then 1 else 0
theorem boD_le (m n k : Nat) : boD m n k ≤ 1 := by unfold boD; split <;> omega
theorem boD_zero (m n : Nat) : boD m n 0 = 0 := by simp [boD, Nat.mod_one]
theorem sub_div (P m n t : Nat) (hp : 0 < P) (hn : n < P * (2 * t)) : (m + (P * (2 * t) - n)) / P = m / P + (2 * t - n / P) - (if m % P < n % P then 1 else 0) ∧ n / P < 2 * t := by
  have e1 := Nat.div_add_mod m P
  have e2 := Nat.div_add_mod n P
  have h1 := Nat.mod_lt m hp
  have h2 := Nat.mod_lt n hp
  have hnq : n / P < 2 * t := by rw [Nat.div_lt_iff_lt_mul hp, Nat.mul_comm]; exact hn
  generalize m / P = a at *
  generalize n / P = b at *
  generalize m % P = x at *
  generalize n % P = y at *
  refine ⟨?_, hnq⟩
  have e4 : P * (2 * t) = P * b + P * (2 * t - b) := by rw [← Nat.mul_add]; congr 1; omega
  have e5 : P * (a + (2 * t - b)) = P * a + P * (2 * t - b) := Nat.mul_add _ _ _
  have e6 : P * (a + (2 * t - b)) = (a + (2 * t - b) - 1) * P + P := by
    rw [← Nat.succ_mul, Nat.mul_comm]; congr 1; omega
  by_cases h : x < y
  · rw [if_pos h]
    have e7 : m + (P * (2 * t) - n) = (P + x - y) + (a + (2 * t - b) - 1) * P := by omega
    rw [e7, Nat.add_mul_div_right _ _ hp, Nat.div_eq_of_lt (by omega)]
    omega
  · rw [if_neg h]
    have e7 : m + (P * (2 * t) - n) = (x - y) + P * (a + (2 * t - b)) := by omega
    rw [e7, Nat.add_mul_div_left _ _ hp, Nat.div_eq_of_lt (by omega)]
    omega
theorem bo_arith (a b t x y c : Nat) (hx : a % 2 = x) (hy : b % 2 = y) (hb : b < 2 * t) (hc : c ≤ 1) : (x : Int) - y - c = ((a + (2 * t - b) - c) % 2 : Nat) - 2 * ((if x < y then 1 else if y < x then 0 else c : Nat) : Int) := by
  split
  · omega
  · split <;> omega
theorem boD_step (m n k : Nat) (hn : n < T) (hk : k < 256) : ((m / 2 ^ k % 2 : Nat) : Int) - (n / 2 ^ k % 2 : Nat) - boD m n k = ((m + (T - n)) / 2 ^ k % 2 : Nat) - 2 * (boD m n (k + 1) : Int) := by
  have hp := Nat.two_pow_pos k
  have hT : T = 2 ^ k * (2 * 2 ^ (256 - k - 1)) := by rw [← Nat.pow_succ', ← Nat.pow_add, T_pow]; congr 1; omega
  generalize 2 ^ (256 - k - 1) = t at hT
  have hn' := hn
  rw [hT] at hn'
  obtain ⟨e3, hb⟩ := sub_div (2 ^ k) m n t hp hn'
  have e4 : boD m n (k + 1) = if m / 2 ^ k % 2 < n / 2 ^ k % 2 then 1 else if n / 2 ^ k % 2 < m / 2 ^ k % 2 then 0 else boD m n k := by
    have h1 := Nat.mod_lt m hp
    have h2 := Nat.mod_lt n hp
    unfold boD
    rw [mod_succ m k, mod_succ n k]
    rcases (show m / 2 ^ k % 2 = 0 ∨ m / 2 ^ k % 2 = 1 by omega) with x | x <;> rcases (show n / 2 ^ k % 2 = 0 ∨ n / 2 ^ k % 2 = 1 by omega) with y | y <;> rw [x, y] <;> simp <;> omega
  rw [hT, e3, e4]
  exact bo_arith _ _ t _ _ _ rfl rfl hb (boD_le m n k)
theorem half_lt (m n i : Nat) (h : m / 2 ^ (i + 1) = n / 2 ^ (i + 1)) (hd : m / 2 ^ i % 2 < n / 2 ^ i % 2) : m < n := by
  rw [Nat.pow_succ, ← Nat.div_div_eq_div_mul, ← Nat.div_div_eq_div_mul] at h
  have h1 : m / 2 ^ i < n / 2 ^ i := by omega
  rcases Nat.lt_or_ge m n with h2 | h2
  · exact h2
  · have := Nat.div_le_div_right (c := 2 ^ i) h2
    omega
theorem half_eq (m n i : Nat) (h : m / 2 ^ (i + 1) = n / 2 ^ (i + 1)) (hd : m / 2 ^ i % 2 = n / 2 ^ i % 2) : m / 2 ^ i = n / 2 ^ i := by
  rw [Nat.pow_succ, ← Nat.div_div_eq_div_mul, ← Nat.div_div_eq_div_mul] at h
  omega
def mixD (f g : Nat → Int) (k i : Nat) : Int := if i < k then f i else g i
theorem mixD_set (f g : Nat → Int) (k : Nat) (h : k < 256) : (bc (mixD f g k)).setIfInBounds k (.int .i64 (f k)) = bc (mixD f g (k + 1)) := by
  rw [bc_set _ _ h]
  apply bc_ext
  intro i hi
  unfold mixD
  by_cases e : i = k
  · subst e; simp
  · simp [e]
    by_cases h1 : i < k
    · simp [h1, show i < k + 1 by omega]
    · simp [h1, show ¬ i < k + 1 by omega]
theorem mixD_full (f g : Nat → Int) : bc (mixD f g 256) = bc f := bc_ext fun i hi => by unfold mixD; rw [if_pos hi]
theorem mixD_zero (f g : Nat → Int) : bc (mixD f g 0) = bc g := bc_ext fun i _ => by unfold mixD; simp
theorem mixD_at (f g : Nat → Int) (k : Nat) : mixD f g k k = g k := by unfold mixD; simp
theorem u_one (n : Nat) : (ucells n).all (·.oneCell') = true := by simp [ucells, Value.oneCell']
end Go.Proofs.YtfebknplkbeblaaDoor

namespace Go.Proofs.YtfebknplkbeblaaDoor
open Go.RowKit
set_option linter.unusedVariables false
theorem results_cs {fn : Func} {p s : Tmp} {ty : TypeId} (h : fn.results = #[.cell p ty, .tmp s]) {P : Program} (tmps : Array Value) (w : World) (g : Nat) (t : TypeId) (cs : Array Value) {n : Nat} {e : TypeId}
    (hp : tmps.getD p undef = .pointer (some ⟨g, 0, none⟩)) (hg : Blk w g t cs) (hu : P.underlying ty = some (.array n e)) (hi : (P.info? ty).map (·.size) = some cs.size) : (results fn tmps).run P w = .ok (.tuple #[.agg cs, tmps.getD s undef]) w := by
  have hp' : tmps[p]?.getD undef = .pointer (some ⟨g, 0, none⟩) := by simpa using hp
  simp [results, h, hp', asAddr, run_loadVar_row w g t ty cs (0, 0) _ hg hu rfl hi]
end Go.Proofs.YtfebknplkbeblaaDoor

namespace Go.Proofs.YtfebknplkbeblaaDoor
open Go.RowKit
set_option linter.unusedVariables false
set_option maxRecDepth 100000 in
set_option maxHeartbeats 2000000 in
theorem RCmp_any (m n : Nat) (c : Int) (w : World) (h : CmpIs m n c) :
    Calls Tryd.prog 72 #[uval m, uval n] w fun e w' => e = .returned (.int .i64 c) ∧ Below w.heap.size w w' := by
  obtain ⟨hm, hn, hc⟩ := h
  obtain ⟨D0, hD0⟩ : ∃ D, D = bc (dig m) := ⟨_, rfl⟩
  have sD0 : D0.size = 256 := by rw [hD0]; exact bc_size _
  have aD0 : D0.all (·.oneCell') = true := by rw [hD0]; exact bc_one _
  have iD0 := isB D0 sD0
  have cD0 := fun w => digits_any m w
  rw [← hD0] at cD0
  obtain ⟨D1, hD1⟩ : ∃ D, D = bc (dig n) := ⟨_, rfl⟩
  have sD1 : D1.size = 256 := by rw [hD1]; exact bc_size _
  have aD1 : D1.all (·.oneCell') = true := by rw [hD1]; exact bc_one _
  have iD1 := isB D1 sD1
  have cD1 := fun w => digits_any n w
  rw [← hD1] at cD1
  obtain ⟨Z, hZ⟩ : ∃ Z, Z = bc fun _ => 0 := ⟨_, rfl⟩
  have HA := allocZ_of hZ
  have sZ0 : Z.size = D0.size := by rw [sD0, hZ]; exact bc_size _
  have sZ1 : Z.size = D1.size := by rw [sD1, hZ]; exact bc_size _
  have P := Lib.hid (And.intro hZ (And.intro hD0 (And.intro cD0 (And.intro hD1 (And.intro cD1 trivial))))); clear hZ hD0 cD0 sD0 hD1 cD1 sD1
  have HC := Lib.hid (And.intro hc (And.intro hm hn)); clear hc hm hn
  unfold uval
  go_enter Tryd.func72, Tryd.ntmps72
  go_wp2_with fail
  refine (P.out.2.2.1 _).mono ?_
  rintro e w1 ⟨rfl, hb1⟩
  have A1 : Blk w1 (w.heap.size) 58 (ucells m) := ((Blk.newAt _ _ _ rfl).alloc _).calls hb1
  have A2 : Blk w1 (w.heap.size + 1) 58 (ucells n) := (Blk.snd _ _ _ _).calls hb1
  have AB : Below w.heap.size w w1 := bt (ba (ba (Below.refl _ _) _) _) hb1
  clear hb1
  have l3 := A2.lt
  have N1 : Blk _ w1.heap.size 101 Z := Blk.new w1 101 Z
  have X1 := N1.row D0
  have B1 := (A1.alloc (.cells Z 101)).rowFar (b := w1.heap.size) (by omega) D0
  have B2 := (A2.alloc (.cells Z 101)).rowFar (b := w1.heap.size) (by omega) D0
  have BB := setRow_below (g := w1.heap.size) (ba AB (.cells Z 101)) AB.size D0
  have c2 := cl4 B2
  have K := Lib.hid (And.intro X1 BB); clear A1 A2 AB X1 B1 B2 BB
  go_wp2_with (first | with_reducible refine HA.out rfl rfl ?_ | with_reducible refine ws_row N1 _ _ _ _ rfl rfl rfl rfl iD0 sZ0 aD0 ?_)
  refine (P.out.2.2.2.2.1 _).mono ?_
  rintro e w2 ⟨rfl, hb2⟩
  clear c2 N1
  have zz : w1.heap.size < w2.heap.size := (K.out.1.calls hb2).lt
  have N2 : Blk _ w2.heap.size 101 Z := Blk.new w2 101 Z
  have Y := N2.row D1
  have X := ((K.out.1.calls hb2).alloc (.cells Z 101)).rowFar (b := w2.heap.size) (by omega) D1
  have BB := setRow_below (g := w2.heap.size) (ba (bt K.out.2 hb2) (.cells Z 101)) (by omega) D1
  have J := Lib.hid (And.intro X (And.intro Y BB)); clear X Y BB hb2 K
  go_wp2_with (first | with_reducible refine HA.out rfl rfl ?_ | with_reducible refine ws_row N2 _ _ _ _ rfl rfl rfl rfl iD1 sZ1 aD1 ?_)
  clear N2
  generalize World.setRow _ _ _ = w3 at *
  go_loopw [7] (fun i wr => ∃ j : Nat, j ≤ 256 ∧ i = .int .i64 ((j : Int) - 1) ∧ m / 2 ^ j = n / 2 ^ j ∧ Blk wr w1.heap.size 101 D0 ∧ Blk wr w2.heap.size 101 D1 ∧ Below w.heap.size w wr) (fun i _ => (intOf i + 1).toNat)
  case atStart =>
    refine ⟨256, by omega, rfl, ?_, J.out.1, J.out.2.1, J.out.2.2⟩
    rw [← T_pow, Nat.div_eq_of_lt HC.out.2.1, Nat.div_eq_of_lt HC.out.2.2]
  case round =>
    obtain ⟨j, hj, rfl, heq, h1, h2, hb⟩ := hrel
    by_cases hlt : 0 < j
    · obtain ⟨i, rfl⟩ : ∃ i, j = i + 1 := ⟨j - 1, by omega⟩
      have hi : i < 256 := by omega
      obtain ⟨x, hx⟩ : ∃ x, x = m / 2 ^ i % 2 := ⟨_, rfl⟩
      obtain ⟨y, hy⟩ : ∃ y, y = n / 2 ^ i % 2 := ⟨_, rfl⟩
      have ex : D0[i]? = some (.int .i64 (x : Nat)) := by rw [P.out.2.1, hx]; exact bc_at _ i hi
      have ey : D1[i]? = some (.int .i64 (y : Nat)) := by rw [P.out.2.2.2.1, hy]; exact bc_at _ i hi
      have cx := blk_get h1 i _ ex
      have cy := blk_get h2 i _ ey
      have i2 : (i : Int) < 256 := by omega
      have H := Lib.hid (And.intro h1 (And.intro h2 (And.intro hb (And.intro hx (And.intro hy heq))))); clear h1 h2 hb hx hy heq ex ey
      rw [show ((i + 1 : Nat) : Int) - 1 = (i : Int) by omega]
      by_cases hl : x < y
      · have hl' : (x : Int) < (y : Int) := by omega
        go_wp2
        go_quiet (fail)
        go_wp2
        obtain ⟨h1, h2, hb, hx, hy, heq⟩ := H.out
        have hlt' := half_lt m n i heq (by omega)
        go_ret
        exact ⟨ret_int (by rw [HC.out.1, if_pos hlt']), bdN hb _⟩
      · have hl' : ¬ (x : Int) < (y : Int) := by omega
        by_cases hg : y < x
        · have hg' : (y : Int) < (x : Int) := by omega
          go_wp2
          go_quiet (fail)
          go_wp2
          go_quiet (fail)
          go_wp2
          obtain ⟨h1, h2, hb, hx, hy, heq⟩ := H.out
          have hlt' := half_lt n m i heq.symm (by omega)
          go_ret
          exact ⟨ret_int (by rw [HC.out.1, if_neg (by omega), if_pos hlt']), bdN (bdN hb _) _⟩
        · have hg' : ¬ (y : Int) < (x : Int) := by omega
          go_wp2
          go_quiet (fail)
          go_wp2
          go_quiet (fail)
          go_wp2
          obtain ⟨h1, h2, hb, hx, hy, heq⟩ := H.out
          go_roundw
          case rel => exact ⟨i, by omega, rfl, half_eq m n i heq (by omega), h1.drewN _, h2.drewN _, bdN hb _⟩
          case measure => simp [intOf]
    · obtain rfl : j = 0 := by omega
      have e : m = n := by simpa using heq
      have HB := Lib.hid (And.intro hb e)
      clear hb h1 h2 heq e
      go_wp2
      go_ret
      exact ⟨ret_int (by rw [HC.out.1, HB.out.2]; simp), HB.out.1⟩
theorem dig_not (m r i : Nat) (h : m + r + 1 = T) (hi : i < 256) : (1 : Int) - dig m i = dig r i := by
  have e : r = 2 ^ 256 - (m + 1) := by rw [← T_pow]; omega
  have ht := Nat.testBit_two_pow_sub_succ (show m < 2 ^ 256 by rw [← T_pow]; omega) i
  rw [← e] at ht
  simp only [Nat.testBit_eq_decide_div_mod_eq, hi, decide_true, Bool.true_and] at ht
  unfold dig
  have h1 := Nat.mod_lt (m / 2 ^ i) (show 0 < 2 by decide)
  have h2 := Nat.mod_lt (r / 2 ^ i) (show 0 < 2 by decide)
  rcases (show m / 2 ^ i % 2 = 0 ∨ m / 2 ^ i % 2 = 1 by omega) with a | a <;> rw [a] at ht ⊢ <;> simp at ht <;> omega
end Go.Proofs.YtfebknplkbeblaaDoor
