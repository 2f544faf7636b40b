/- A region whose order is open, by an invariant: one obligation an operation, whatever the order. SHA-256: words, and what is turned. What u256's sums, differences, turned numbers and comparisons come to. What math/bits' Len64 and Mul64 come to (by the library's own text, walked). What u256's turned numbers, comparisons and lengths come to. What u256's texts and bytes come to. A number as bytes. What u256's product with a small number comes to. -/
import Derived.Test.YtlegcceaoglpoaaDoorIsA
import Derived.Test.YtlegcceaoglpoaaDoorProg
import Derived.Deep.RegionHeld3
import Derived.Outline
import Derived.Deep.QuietTactic
import Derived.BigQuiet
import Derived.Lib.Strings
import Derived.Lib.Slices
import Derived.Lib.Small
import Derived.Lib.Walk
import Derived.Lib.BitFns
import Derived.Lib.Mul64
import Derived.Laws.Bits64b
import Derived.Laws.DeepNot64
import Derived.Laws.BytesArg
namespace Go.Proofs.YtlegcceaoglpoaaDoor
open Go.RowKit
set_option linter.unusedVariables false

theorem filter_len_le (p q : Nat → Bool) (h : ∀ j, q j = true → p j = true) : ∀ l : List Nat, (l.filter q).length ≤ (l.filter p).length
  | [] => Nat.le_refl _
  | x :: l => by
    have ih := filter_len_le p q h l
    simp only [List.filter_cons]
    cases hq : q x with
    | true => rw [h x hq]; simpa using ih
    | false =>
      cases hp : p x
      · simpa using ih
      · simp; omega
theorem filter_len_lt (p q : Nat → Bool) (h : ∀ j, q j = true → p j = true) (i : Nat) (hp : p i = true) (hq : q i = false) : ∀ l : List Nat, i ∈ l → (l.filter q).length < (l.filter p).length
  | [], hi => by cases hi
  | x :: l, hi => by
    have le := filter_len_le p q h l
    simp only [List.filter_cons]
    rcases List.mem_cons.1 hi with rfl | hi
    · rw [hp, hq]; simp; omega
    · have ih := filter_len_lt p q h i hp hq l hi
      cases hx : q x with
      | true => rw [h x hx]; simpa using ih
      | false =>
        cases hp' : p x
        · simpa using ih
        · simp; omega
/-- How many operations are still to come. -/
def unl (n : Nat) (listed : Array Bool) : Nat := ((List.range n).filter fun i => !listed.getD i true).length

section
variable {P : Program} {ops : Array Oper} {Q : Exit → Act → World → Prop}
theorem wpAny_inv (Inv : Array Bool → Act → World → Prop)
    (hs : ∀ listed a w i, Inv listed a w → i ∈ Region.ready .any ops listed → wpOp P ops Q i (Inv (listed.setIfInBounds i true)) a w)
    (he : ∀ listed a w, Inv listed a w → Region.ready .any ops listed = [] → Q .normal a w) :
    ∀ (fuel : Nat) (listed : Array Bool) (a : Act) (w : World), unl ops.size listed ≤ fuel → Inv listed a w → wpAny P .any ops Q fuel listed a w := by
  intro fuel
  induction fuel with
  | zero =>
    intro listed a w hf hi
    have hr : Region.ready .any ops listed = [] := by
      apply List.eq_nil_iff_forall_not_mem.2
      intro j hj
      obtain ⟨h0, o, ho, _⟩ := mem_ready.1 hj
      have hlt : j < ops.size := (Array.getElem?_eq_some_iff.1 ho).1
      have hm : j ∈ (List.range ops.size).filter fun i => !listed.getD i true := List.mem_filter.2 ⟨List.mem_range.2 hlt, by rw [h0]; rfl⟩
      unfold unl at hf
      have := List.length_pos_of_mem hm
      omega
    exact ⟨hr, he _ _ _ hi hr⟩
  | succ fuel ih =>
    intro listed a w hf hi
    refine ⟨fun hr => he _ _ _ hi hr, fun i hr => wpOp_mono (fun a' w' h' => ih _ a' w' ?_ h') (hs listed a w i hi hr)⟩
    obtain ⟨h0, o, ho, _⟩ := mem_ready.1 hr
    have hlt : i < ops.size := (Array.getElem?_eq_some_iff.1 ho).1
    have hsz : i < listed.size := by
      rcases Nat.lt_or_ge i listed.size with h | h
      · exact h
      · simp [Array.getElem?_eq_none h] at h0
    have := filter_len_lt (fun i => !listed.getD i true) (fun j => !(listed.setIfInBounds i true).getD j true) (fun j hj => by
      by_cases e : i = j
      · subst e; simp [hsz] at hj
      · rw [getD_set_ne true e] at hj; exact hj) i (by rw [h0]; rfl) (by simp [hsz]) (List.range ops.size) (List.mem_range.2 hlt)
    unfold unl at hf ⊢
    omega
end

/-! ## The frame of what has been done -/
def Fr (v : Nat → Value) (L : Nat → Bool) : List (Option Tmp) → Nat → Act → Act
  | [], _, a => a
  | d :: r, k, a => Fr v L r (k + 1) (if L k then a.put d (v k) else a)
def apartD (d e : Option Tmp) : Bool := match d, e with | some x, some y => x != y | _, _ => true
def nodupD : List (Option Tmp) → Bool
  | [] => true
  | d :: r => r.all (apartD d) && nodupD r
theorem put_comm {d e : Option Tmp} (h : apartD d e = true) (a : Act) (x y : Value) : (a.put d x).put e y = (a.put e y).put d x := by
  cases d <;> cases e <;> simp [Act.put]
  rename_i p q
  have : p ≠ q := by simpa [apartD] using h
  exact Array.setIfInBounds_comm _ _ this
theorem Fr_put (v : Nat → Value) (L : Nat → Bool) (d : Option Tmp) (x : Value) : ∀ (r : List (Option Tmp)) (k : Nat) (a : Act), r.all (apartD d) = true → Fr v L r k (a.put d x) = (Fr v L r k a).put d x
  | [], _, _, _ => rfl
  | e :: r, k, a, h => by
    simp only [List.all_cons, Bool.and_eq_true] at h
    unfold Fr
    cases hk : L k
    · simp only [Bool.false_eq_true, if_false]
      exact Fr_put v L d x r (k + 1) a h.2
    · simp only [if_true]
      rw [put_comm h.1, Fr_put v L d x r (k + 1) _ h.2]
theorem Fr_congr (v v' : Nat → Value) (L L' : Nat → Bool) : ∀ (r : List (Option Tmp)) (k : Nat) (a : Act), (∀ j, k ≤ j → j < k + r.length → L j = L' j ∧ (L j = true → v j = v' j)) → Fr v L r k a = Fr v' L' r k a
  | [], _, _, _ => rfl
  | d :: r, k, a, h => by
    unfold Fr
    obtain ⟨h1, h2⟩ := h k (Nat.le_refl _) (by simp)
    rw [← h1]
    cases hk : L k
    · simp only [Bool.false_eq_true, if_false]
      exact Fr_congr v v' L L' r (k + 1) a fun j hj hj2 => h j (by omega) (by simp; omega)
    · simp only [if_true]
      rw [h2 hk]
      exact Fr_congr v v' L L' r (k + 1) _ fun j hj hj2 => h j (by omega) (by simp; omega)
def onL (L : Nat → Bool) (i : Nat) : Nat → Bool := fun j => L j || j == i
theorem Fr_on (v : Nat → Value) (L : Nat → Bool) (i : Nat) (hL : L i = false) : ∀ (r : List (Option Tmp)) (k : Nat) (a : Act) (d : Option Tmp), nodupD r = true → k ≤ i → r[i - k]? = some d → Fr v (onL L i) r k a = (Fr v L r k a).put d (v i)
  | [], _, _, _, _, _, h => by simp at h
  | e :: r, k, a, d, hn, hk, h => by
    simp only [nodupD, Bool.and_eq_true] at hn
    unfold Fr
    by_cases he : k = i
    · subst he
      have hd : e = d := by simpa using h
      subst hd
      have h1 : onL L k k = true := by simp [onL]
      rw [h1, hL]
      simp only [if_true, Bool.false_eq_true, if_false]
      rw [Fr_put v _ e _ r (k + 1) a hn.1]
      congr 1
      exact Fr_congr v v _ _ r (k + 1) a fun j hj _ => ⟨by simp [onL]; omega, fun _ => rfl⟩
    · have h1 : onL L i k = L k := by simp [onL, he]
      rw [h1]
      refine Fr_on v L i hL r (k + 1) _ d hn.2 (by omega) ?_
      rw [show i - k = (i - (k + 1)) + 1 by omega, List.getElem?_cons_succ] at h
      exact h
theorem put_size (a : Act) (d : Option Tmp) (x : Value) : (a.put d x).tmps.size = a.tmps.size := by cases d <;> simp [Act.put]
theorem put_defers (a : Act) (d : Option Tmp) (x : Value) : (a.put d x).defers = a.defers := by cases d <;> rfl
theorem put_other (a : Act) (d : Option Tmp) (x : Value) (t : Tmp) (h : apartD d (some t) = true) : (a.put d x).tmps.getD t undef = a.tmps.getD t undef := by
  cases d with
  | none => rfl
  | some p =>
    have : p ≠ t := by simpa [apartD] using h
    simp [Act.put, Array.getElem?_setIfInBounds_ne this]
theorem put_same (a : Act) (x : Value) (t : Tmp) (h : t < a.tmps.size) : (a.put (some t) x).tmps.getD t undef = x := by simp [Act.put, h]
theorem Fr_old (v : Nat → Value) (L : Nat → Bool) (t : Tmp) : ∀ (r : List (Option Tmp)) (k : Nat) (a : Act), (r.all fun d => apartD d (some t)) = true → (Fr v L r k a).tmps.getD t undef = a.tmps.getD t undef
  | [], _, _, _ => rfl
  | e :: r, k, a, h => by
    simp only [List.all_cons, Bool.and_eq_true] at h
    unfold Fr
    rw [Fr_old v L t r (k + 1) _ h.2]
    cases L k
    · rfl
    · simp only [if_true]
      exact put_other a e _ t h.1
theorem Fr_get (v : Nat → Value) (L : Nat → Bool) (t : Tmp) (j : Nat) (hL : L j = true) : ∀ (r : List (Option Tmp)) (k : Nat) (a : Act), nodupD r = true → k ≤ j → r[j - k]? = some (some t) → t < a.tmps.size → (Fr v L r k a).tmps.getD t undef = v j
  | [], _, _, _, _, h, _ => by simp at h
  | e :: r, k, a, hn, hk, h, ht => by
    simp only [nodupD, Bool.and_eq_true] at hn
    unfold Fr
    by_cases he : k = j
    · subst he
      have hd : e = some t := by simpa using h
      subst hd
      rw [hL]
      simp only [if_true]
      rw [Fr_old v L t r (k + 1) _ ?_, put_same _ _ _ ht]
      have := hn.1
      simp only [List.all_eq_true] at this ⊢
      intro d hd
      have h1 := this d hd
      cases d with
      | none => rfl
      | some q => simp [apartD] at h1 ⊢; exact fun e => h1 e.symm
    · refine Fr_get v L t j hL r (k + 1) _ hn.2 (by omega) ?_ ?_
      · rw [show j - k = (j - (k + 1)) + 1 by omega, List.getElem?_cons_succ] at h
        exact h
      · cases L k <;> simp [put_size, ht]

/-! ## The rule -/
def StepAll (R : Nat → Oper → Prop) : Nat → List Oper → Prop
  | _, [] => True
  | k, o :: r => R k o ∧ StepAll R (k + 1) r
theorem StepAll.at {R : Nat → Oper → Prop} : ∀ {l : List Oper} {k : Nat}, StepAll R k l → ∀ i o, l[i]? = some o → R (k + i) o
  | [], _, _, i, o, h => by simp at h
  | x :: l, k, hs, i, o, h => by
    unfold StepAll at hs
    cases i with
    | zero => have : x = o := by simpa using h
              subst this; exact hs.1
    | succ i =>
      rw [List.getElem?_cons_succ] at h
      have := hs.2.at i o h
      rw [show k + 1 + i = k + (i + 1) by omega] at this
      exact this
def ordGo : Nat → List Oper → Bool
  | _, [] => true
  | k, o :: r => (edgesOf o).all (fun j => Nat.blt j k) && ordGo (k + 1) r
theorem ordGo.at : ∀ {l : List Oper} {k : Nat}, ordGo k l = true → ∀ i o, l[i]? = some o → ∀ j ∈ edgesOf o, j < k + i
  | [], _, _, i, o, h => by simp at h
  | x :: l, k, hs, i, o, h => by
    simp only [ordGo, Bool.and_eq_true] at hs
    cases i with
    | zero =>
      have : x = o := by simpa using h
      subst this
      intro j hj
      have := List.all_eq_true.1 hs.1 j hj
      simpa using this
    | succ i =>
      rw [List.getElem?_cons_succ] at h
      intro j hj
      have := ordGo.at hs.2 i o h j hj
      omega
/-- The rule: v: what each operation yields, by the numbers that new blocks got; I: what holds of the world by what has been done. -/
theorem wp_region_inv {P : Program} {Q : Exit → Act → World → Prop} {Γ : Type} {id : Nat} {l : List Oper} {a : Act} {w : World} (dsts : List (Option Tmp)) (v : Γ → Nat → Value) (I : Γ → (Nat → Bool) → World → Prop)
    (hm : P.follows .mixedOrders = true) (hds : l.map (·.dst) = dsts) (hnd : nodupD dsts = true) (hng : (l.all fun o => o.guard.isNone) = true) (hord : ordGo 0 l = true) (γ0 : Γ) (h0 : I γ0 (fun _ => false) w.drew)
    (step : StepAll (fun i o => ∀ γ L w', I γ L w' → L i = false → (∀ j ∈ edgesOf o, L j = true) →
      o.wp P (Fr (v γ) L dsts 0 a) w' (fun a' w'' => ∃ γ', (∀ j, L j = true → v γ' j = v γ j) ∧ a' = (Fr (v γ) L dsts 0 a).put o.dst (v γ' i) ∧ I γ' (onL L i) w'') Q) 0 l)
    (fin : ∀ γ L w', (∀ i, i < l.length → L i = true) → I γ L w' → Q .normal (Fr (v γ) (fun _ => true) dsts 0 a) w') : (Code.region id l.toArray true).wp P Q a w := by
  refine wp_region_any hm ?_
  refine wpAny_inv (fun listed a' w' => listed.size = l.length ∧ ∃ γ, a' = Fr (v γ) (fun j => listed.getD j false) dsts 0 a ∧ I γ (fun j => listed.getD j false) w') ?_ ?_ l.toArray.size _ _ _ ?_ ?_
  · rintro listed a' w' i ⟨hsz, γ, rfl, hI⟩ hr
    obtain ⟨h0, o, ho, hall⟩ := mem_ready.1 hr
    have ho' : l[i]? = some o := by simpa using ho
    have hlt : i < l.length := (List.getElem?_eq_some_iff.1 ho').1
    have hgd : o.guard = none := by
      have := List.all_eq_true.1 hng o (List.mem_of_getElem? ho')
      simpa using this
    have hLi : listed.getD i false = false := by
      have : i < listed.size := by omega
      simp [this] at h0 ⊢; exact h0
    have st := step.at i o ho'
    simp only [Nat.zero_add] at st
    have st' := st γ _ w' hI hLi (fun j hj => by
      obtain ⟨e, he1, he2⟩ := List.mem_map.1 hj
      obtain ⟨he3, he4⟩ := List.mem_filter.1 he1
      rw [← he2]
      exact hall e (by simpa using he3) (by simpa using he4))
    unfold wpOp
    rw [ho]
    have hw : Region.wanted o (yielded l.toArray (Fr (v γ) (fun j => listed.getD j false) dsts 0 a).tmps) = true := by simp [Region.wanted, hgd]
    simp only [hw, if_true]
    left
    refine Oper.wp_mono ?_ st'
    rintro a'' w'' ⟨γ', hv, rfl, hI'⟩
    have hon : (fun j => (listed.setIfInBounds i true).getD j false) = onL (fun j => listed.getD j false) i := by
      funext j
      have hi : i < listed.size := by omega
      unfold onL
      by_cases e : j = i
      · subst e; simp [hi]
      · rw [getD_set_ne false (Ne.symm e)]
        simp [e]
    have hd : dsts[i]? = some o.dst := by rw [← hds, List.getElem?_map, ho']; rfl
    refine ⟨by simpa using hsz, γ', ?_, by rw [hon]; exact hI'⟩
    rw [hon, Fr_on (v γ') _ i hLi dsts 0 a o.dst hnd (Nat.zero_le _) (by simpa using hd)]
    congr 1
    exact Fr_congr _ _ _ _ dsts 0 a fun j _ _ => ⟨rfl, fun hj => (hv j hj).symm⟩
  · rintro listed a' w' ⟨hsz, γ, rfl, hI⟩ hr
    have hall : ∀ n i, i < n → i < l.length → listed.getD i false = true := by
      intro n
      induction n with
      | zero => intro i hi; omega
      | succ n ih =>
        intro i hin hi
        cases hL : listed.getD i false with
        | true => rfl
        | false =>
          exfalso
          have hmem : i ∈ Region.ready .any l.toArray listed := by
            refine mem_ready.2 ⟨?_, l[i], by simp [hi], fun e he hb => ?_⟩
            · have : i < listed.size := by omega
              simp [this] at hL ⊢; exact hL
            · have hlt := ordGo.at hord i l[i] (by simp [hi]) e.on (List.mem_map.2 ⟨e, List.mem_filter.2 ⟨by simpa using he, by simpa using hb⟩, rfl⟩)
              exact ih e.on (by omega) (by omega)
          rw [hr] at hmem
          cases hmem
    have hlen : dsts.length = l.length := by rw [← hds, List.length_map]
    have e : Fr (v γ) (fun j => listed.getD j false) dsts 0 a = Fr (v γ) (fun _ => true) dsts 0 a :=
      Fr_congr _ _ _ _ dsts 0 a fun j _ hj => ⟨hall (j + 1) j (by omega) (by omega), fun _ => rfl⟩
    rw [e]
    exact fin γ _ w' (fun i hi => hall (i + 1) i (by omega) hi) hI
  · unfold unl
    exact Nat.le_trans (List.length_filter_le _ _) (by simp)
  · refine ⟨by simp, γ0, ?_, ?_⟩
    · have : ∀ (r : List (Option Tmp)) (k : Nat), Fr (v γ0) (fun j => (Array.replicate l.toArray.size false).getD j false) r k a = a := by
        intro r
        induction r with
        | nil => intro k; rfl
        | cons d r ih =>
          intro k
          unfold Fr
          have e : (Array.replicate l.toArray.size false).getD k false = false := by
            simp only [Array.getD_eq_getD_getElem?, Array.getElem?_replicate]
            split <;> rfl
          rw [e]
          exact ih (k + 1)
      exact (this dsts 0).symm
    · have e : (fun j => (Array.replicate l.toArray.size false).getD j false) = fun _ => false := by
        funext j
        simp only [Array.getD_eq_getD_getElem?, Array.getElem?_replicate]
        split <;> rfl
      rw [e]
      exact h0

theorem inj_nodup {α β : Type} {f : α → β} {l : List α} (h : (l.map f).Nodup) {x y : α} (hx : x ∈ l) (hy : y ∈ l) (e : f x = f y) : x = y := by
  induction l with
  | nil => cases hx
  | cons a l ih =>
    rw [List.map_cons, List.nodup_cons] at h
    rcases List.mem_cons.1 hx with hx | hx <;> rcases List.mem_cons.1 hy with hy | hy
    · rw [hx, hy]
    · exact absurd (List.mem_map.2 ⟨y, hy, by rw [← e, hx]⟩) h.1
    · exact absurd (List.mem_map.2 ⟨x, hx, by rw [e, hy]⟩) h.1
    · exact ih h.2 hx hy
def gset (γ : Nat → Nat) (i n : Nat) : Nat → Nat := fun j => if j = i then n else γ j
theorem gset_same (γ : Nat → Nat) (i n : Nat) : gset γ i n i = n := if_pos rfl
theorem gset_ne (γ : Nat → Nat) {i j : Nat} (n : Nat) (h : ¬ j = i) : gset γ i n j = γ j := if_neg h

/-! ## New blocks whose place in the order is open: each is made once and filled once -/
/-- al, st: the operations that make and fill it; t: its type; z, c: its cells before and behind. -/
structure NB where
  al : Nat
  st : Nat
  t : TypeId
  z : Array Value
  c : Array Value
def NewI (B : Nat) (w0 : World) (nbs : List NB) (γ : Nat → Nat) (L : Nat → Bool) (w : World) : Prop :=
  Below B w0 w ∧ (∀ b ∈ nbs, (L b.st = true → L b.al = true) ∧ (L b.al = true → B ≤ γ b.al ∧ Blk w (γ b.al) b.t (if L b.st then b.c else b.z))) ∧
    ∀ b ∈ nbs, ∀ c ∈ nbs, L b.al = true → L c.al = true → γ b.al = γ c.al → b.al = c.al
def isAl (nbs : List NB) (i : Nat) : Bool := nbs.any (·.al == i)
def isSt (nbs : List NB) (i : Nat) : Bool := nbs.any (·.st == i)
def vN (nbs : List NB) (vals : Nat → Value) (γ : Nat → Nat) (i : Nat) : Value := if isAl nbs i then .pointer (some ⟨γ i, 0, none⟩) else vals i
theorem onL_ne {L : Nat → Bool} {i j : Nat} (h : j ≠ i) : onL L i j = L j := by simp [onL, h]
theorem onL_same {L : Nat → Bool} {i : Nat} : onL L i i = true := by simp [onL]
section
variable {B : Nat} {w0 w w' : World} {nbs : List NB} {γ : Nat → Nat} {L : Nat → Bool} {i : Nat}
theorem isAl_no (h : isAl nbs i = false) {b : NB} (hb : b ∈ nbs) : b.al ≠ i := fun e => by
  have : isAl nbs i = true := List.any_eq_true.2 ⟨b, hb, by simp [e]⟩
  rw [h] at this; cases this
theorem isSt_no (h : isSt nbs i = false) {b : NB} (hb : b ∈ nbs) : b.st ≠ i := fun e => by
  have : isSt nbs i = true := List.any_eq_true.2 ⟨b, hb, by simp [e]⟩
  rw [h] at this; cases this
theorem NewI.quiet (h : NewI B w0 nbs γ L w) (hB : B ≤ w0.heap.size) (ha : isAl nbs i = false) (hs : isSt nbs i = false) (hb : Below w.heap.size w w') : NewI B w0 nbs γ (onL L i) w' := by
  obtain ⟨h1, h2, h3⟩ := h
  refine ⟨h1.trans (hb.mono (Nat.le_trans hB h1.size)), fun b hm => ?_, fun b hm c hc k1 k2 => ?_⟩
  · rw [onL_ne (isAl_no ha hm), onL_ne (isSt_no hs hm)]
    obtain ⟨g1, g2⟩ := h2 b hm
    exact ⟨g1, fun k => ⟨(g2 k).1, (g2 k).2.calls hb⟩⟩
  · rw [onL_ne (isAl_no ha hm)] at k1
    rw [onL_ne (isAl_no ha hc)] at k2
    exact h3 b hm c hc k1 k2
theorem NewI.alloc (h : NewI B w0 nbs γ L w) (hnd : (nbs.map (·.al) ++ nbs.map (·.st)).Nodup) (hB : B ≤ w0.heap.size) {b : NB} (hm : b ∈ nbs) (hi : b.al = i) (hL : L i = false) :
    NewI B w0 nbs (gset γ i w.heap.size) (onL L i) (w.alloc (.cells b.z b.t)) := by
  obtain ⟨h1, h2, h3⟩ := h
  have hsz : B ≤ w.heap.size := Nat.le_trans hB h1.size
  have hal : ∀ c ∈ nbs, c.al = i → c = b := fun c hc e => by
    have h4 := (List.nodup_append.1 hnd).1
    exact inj_nodup h4 hc hm (e.trans hi.symm)
  have hst : ∀ c ∈ nbs, c.st ≠ i := fun c hc e => by
    have h4 := (List.nodup_append.1 hnd).2.2
    exact h4 b.al (List.mem_map.2 ⟨b, hm, rfl⟩) c.st (List.mem_map.2 ⟨c, hc, rfl⟩) (hi.trans e.symm)
  refine ⟨h1.alloc hsz _, fun c hc => ?_, fun c hc d hd k1 k2 => ?_⟩
  · rw [onL_ne (hst c hc)]
    by_cases e : c.al = i
    · obtain rfl := hal c hc e
      rw [e, onL_same, gset_same]
      have hs : L c.st = false := by
        cases hs : L c.st with
        | false => rfl
        | true => have := (h2 c hc).1 hs; rw [e, hL] at this; cases this
      rw [hs]
      exact ⟨fun k => (by cases k), fun _ => ⟨hsz, Blk.new w c.t c.z⟩⟩
    · rw [onL_ne e, gset_ne _ _ e]
      obtain ⟨g1, g2⟩ := h2 c hc
      exact ⟨g1, fun k => ⟨(g2 k).1, (g2 k).2.alloc _⟩⟩
  · by_cases e1 : c.al = i
    · by_cases e2 : d.al = i
      · intro _; exact e1.trans e2.symm
      · rw [e1, gset_same, gset_ne _ _ e2]
        rw [onL_ne e2] at k2
        have := ((h2 d hd).2 k2).2.lt
        intro e; omega
    · by_cases e2 : d.al = i
      · rw [e2, gset_same, gset_ne _ _ e1]
        rw [onL_ne e1] at k1
        have := ((h2 c hc).2 k1).2.lt
        intro e; omega
      · rw [gset_ne _ _ e1, gset_ne _ _ e2]
        rw [onL_ne e1] at k1
        rw [onL_ne e2] at k2
        exact h3 c hc d hd k1 k2
theorem setRow_below {g : Nat} (h : Below B w0 w) (hg : B ≤ g) (c : Array Value) : Below B w0 (w.setRow g c) :=
  h.trans ⟨rfl, rfl, rfl, by simp [World.setRow], fun k hk => by simp [World.setRow, Array.getElem?_modify, show g ≠ k by omega]⟩
theorem NewI.store (h : NewI B w0 nbs γ L w) (hnd : (nbs.map (·.al) ++ nbs.map (·.st)).Nodup) {b : NB} (hm : b ∈ nbs) (hi : b.st = i) (hL : L i = false) (hal : L b.al = true) :
    Blk w (γ b.al) b.t b.z ∧ NewI B w0 nbs γ (onL L i) (w.setRow (γ b.al) b.c) := by
  obtain ⟨h1, h2, h3⟩ := h
  obtain ⟨g1, g2⟩ := h2 b hm
  obtain ⟨g3, g4⟩ := g2 hal
  have hst : ∀ c ∈ nbs, c.st = i → c = b := fun c hc e => by
    have h4 := (List.nodup_append.1 hnd).2.1
    exact inj_nodup h4 hc hm (e.trans hi.symm)
  have hali : ∀ c ∈ nbs, c.al ≠ i := fun c hc e => by
    have h4 := (List.nodup_append.1 hnd).2.2
    exact h4 c.al (List.mem_map.2 ⟨c, hc, rfl⟩) b.st (List.mem_map.2 ⟨b, hm, rfl⟩) (e.trans hi.symm)
  rw [hi, hL] at g4
  refine ⟨g4, setRow_below h1 g3 _, fun c hc => ?_, fun c hc d hd k1 k2 => ?_⟩
  · rw [onL_ne (hali c hc)]
    by_cases e : c.st = i
    · obtain rfl := hst c hc e
      rw [e, onL_same]
      exact ⟨fun _ => hal, fun _ => ⟨g3, g4.row _⟩⟩
    · rw [onL_ne e]
      obtain ⟨p1, p2⟩ := h2 c hc
      refine ⟨p1, fun k => ⟨(p2 k).1, (p2 k).2.rowFar (fun hh => ?_) _⟩⟩
      have h5 := h3 c hc b hm k hal hh
      have h6 := (List.nodup_append.1 hnd).1
      exact e ((inj_nodup h6 hc hm h5) ▸ hi)
  · rw [onL_ne (hali c hc)] at k1
    rw [onL_ne (hali d hd)] at k2
    exact h3 c hc d hd k1 k2
end

def nodupB : List Nat → Bool
  | [] => true
  | x :: r => r.all (fun y => !Nat.beq x y) && nodupB r
theorem nodupB_spec : ∀ {l : List Nat}, nodupB l = true → l.Nodup
  | [], _ => List.nodup_nil
  | x :: r, h => by
    simp only [nodupB, Bool.and_eq_true] at h
    refine List.nodup_cons.2 ⟨fun hm => ?_, nodupB_spec h.2⟩
    have := List.all_eq_true.1 h.1 x hm
    simp at this
/-- What is owed at operation i: it makes a block; it fills one; or it leaves all that is old alone, and yields what is told. -/
def NewStep (P : Program) (Q : Exit → Act → World → Prop) (B : Nat) (w0 : World) (nbs : List NB) (dsts : List (Option Tmp)) (vals : Nat → Value) (a0 : Act) (i : Nat) (o : Oper) : Prop :=
  (∃ b, b ∈ nbs ∧ b.al = i ∧ ∀ (A : Act) w, (execOp A.eval o).run P w = .ok (.value (.pointer (some ⟨w.heap.size, 0, none⟩))) (w.alloc (.cells b.z b.t))) ∨
  (∃ b, b ∈ nbs ∧ b.st = i ∧ vals i = undef ∧ (edgesOf o).contains b.al = true ∧ ∃ ty t x k, o.op = .store ty (.tmp t) (.tmp x) ∧ dsts[b.al]? = some (some t) ∧ dsts[k]? = some (some x) ∧ (edgesOf o).contains k = true ∧ vals k = .agg b.c ∧ isAl nbs k = false ∧ isAl nbs i = false ∧
    (P.info? ty).map (·.size) = some b.c.size ∧ b.z.size = b.c.size ∧ b.c.all (·.oneCell') = true) ∨
  (isAl nbs i = false ∧ isSt nbs i = false ∧ ∀ (A : Act) w', Below B w0 w' → (∀ j, (edgesOf o).contains j = true → isAl nbs j = false → ∀ t, dsts[j]? = some (some t) → A.tmps.getD t undef = vals j) →
    (∀ t, (dsts.all fun d => apartD d (some t)) = true → A.tmps.getD t undef = a0.tmps.getD t undef) → o.wp P A w' (fun a' w'' => a' = A.put o.dst (vals i) ∧ Below w'.heap.size w' w'') Q)
def inD (n : Nat) (dsts : List (Option Tmp)) : Bool := dsts.all fun d => match d with | some t => Nat.blt t n | none => true
theorem inD_lt {n : Nat} {dsts : List (Option Tmp)} (h : inD n dsts = true) {j : Nat} {t : Tmp} (hj : dsts[j]? = some (some t)) : t < n := by
  have := List.all_eq_true.1 h _ (List.mem_of_getElem? hj)
  simpa using this
theorem StepAll.imp {R S : Nat → Oper → Prop} (h : ∀ i o, R i o → S i o) : ∀ {l : List Oper} {k : Nat}, StepAll R k l → StepAll S k l
  | [], _, _ => trivial
  | _ :: _, _, hs => ⟨h _ _ hs.1, hs.2.imp h⟩
theorem wp_region_new {P : Program} {Q : Exit → Act → World → Prop} {id : Nat} {l : List Oper} {a : Act} {w : World} (dsts : List (Option Tmp)) (nbs : List NB) (vals : Nat → Value)
    (hm : P.follows .mixedOrders = true) (hds : l.map (·.dst) = dsts) (hnd : nodupD dsts = true) (hng : (l.all fun o => o.guard.isNone) = true) (hord : ordGo 0 l = true)
    (hN' : nodupB (nbs.map (·.al) ++ nbs.map (·.st)) = true) (hin : inD a.tmps.size dsts = true) (hlen : (nbs.all fun b => Nat.blt b.al l.length && Nat.blt b.st l.length) = true)
    (step : StepAll (NewStep P Q w.heap.size w nbs dsts vals a) 0 l)
    (fin : ∀ γ w', Below w.heap.size w w' → (∀ b, b ∈ nbs → w.heap.size ≤ γ b.al ∧ Blk w' (γ b.al) b.t b.c) → (∀ b, b ∈ nbs → ∀ c, c ∈ nbs → γ b.al = γ c.al → b.al = c.al) →
      Q .normal (Fr (vN nbs vals γ) (fun _ => true) dsts 0 a) w') : (Code.region id l.toArray true).wp P Q a w := by
  have hN := nodupB_spec hN'
  refine wp_region_inv dsts (vN nbs vals) (NewI w.heap.size w nbs) hm hds hnd hng hord (fun _ => 0) ?_ ?_ ?_
  · exact ⟨(Below.refl w.heap.size w).drew, fun b _ => ⟨fun h => (by cases h), fun h => (by cases h)⟩, fun b _ c _ h => (by cases h)⟩
  · refine StepAll.imp ?_ step
    rintro i o hst γ L w' hI hL hdep
    have hw : ∀ j, L j = true → j ≠ i := fun j hj e => by rw [e, hL] at hj; cases hj
    rcases hst with ⟨b, hb, hi, hrun⟩ | ⟨b, hb, hi, hvi, hal, ty, t, x, k, ho, hdt, hdx, hk, hvk, hnk, hni, hs1, hs2, hs3⟩ | ⟨ha, hs, hq⟩
    · unfold Oper.wp
      rw [hrun]
      refine ⟨gset γ i w'.heap.size, fun j hj => ?_, ?_, hI.alloc hN (Nat.le_refl _) hb hi hL⟩
      · unfold vN
        rw [gset_ne _ _ (hw j hj)]
      · have : isAl nbs i = true := List.any_eq_true.2 ⟨b, hb, by simp [hi]⟩
        unfold vN
        rw [if_pos this, gset_same]
    · have hLal := hdep b.al (List.contains_iff_mem.1 hal)
      have hLk := hdep k (List.contains_iff_mem.1 hk)
      obtain ⟨hblk, hI'⟩ := hI.store hN hb hi hL hLal
      have ht : (Fr (vN nbs vals γ) L dsts 0 a).eval (.tmp t) = .pointer (some ⟨γ b.al, 0, none⟩) := by
        have := Fr_get (vN nbs vals γ) L t b.al hLal dsts 0 a hnd (Nat.zero_le _) (by simpa using hdt) (inD_lt hin hdt)
        refine this.trans ?_
        have h1 : isAl nbs b.al = true := List.any_eq_true.2 ⟨b, hb, by simp⟩
        unfold vN
        rw [if_pos h1]
      have hx : (Fr (vN nbs vals γ) L dsts 0 a).eval (.tmp x) = .agg b.c := by
        have := Fr_get (vN nbs vals γ) L x k hLk dsts 0 a hnd (Nat.zero_le _) (by simpa using hdx) (inD_lt hin hdx)
        refine this.trans ?_
        unfold vN
        rw [if_neg (by rw [hnk]; decide), hvk]
      refine wp_store_row ty _ _ ho (γ b.al) b.c ht hx b.t b.z hblk hs1 hs2 hs3 ⟨γ, fun _ _ => rfl, ?_, hI'⟩
      unfold vN
      rw [if_neg (by rw [hni]; decide), hvi]
    · refine Oper.wp_mono ?_ (hq _ w' hI.1 (fun j hj hna t ht => ?_) (fun t ht => Fr_old _ L t dsts 0 a ht))
      · rintro a' w'' ⟨rfl, hbel⟩
        refine ⟨γ, fun _ _ => rfl, ?_, hI.quiet (Nat.le_refl _) ha hs hbel⟩
        unfold vN
        rw [if_neg (by rw [ha]; decide)]
      · have := Fr_get (vN nbs vals γ) L t j (hdep j (List.contains_iff_mem.1 hj)) dsts 0 a hnd (Nat.zero_le _) (by simpa using ht) (inD_lt hin ht)
        refine this.trans ?_
        unfold vN
        rw [if_neg (by rw [hna]; decide)]
  · rintro γ L w' hL ⟨h1, h2, h3⟩
    have hlt : ∀ b, b ∈ nbs → L b.al = true ∧ L b.st = true := fun b hb => by
      have := List.all_eq_true.1 hlen b hb
      simp only [Bool.and_eq_true, Nat.blt_eq] at this
      exact ⟨hL _ this.1, hL _ this.2⟩
    refine fin γ w' h1 (fun b hb => ?_) (fun b hb c hc => h3 b hb c hc (hlt b hb).1 (hlt c hc).1)
    have := (h2 b hb).2 (hlt b hb).1
    rw [(hlt b hb).2] at this
    exact this

/-- What an operation may take for granted of the frame: the slots of those it waits for, and the old ones. -/
def SlotF (dsts : List (Option Tmp)) (vals : Nat → Value) (a0 : Act) (o : Oper) (A : Act) : Prop :=
  (∀ j, (edgesOf o).contains j = true → ∀ t, dsts[j]? = some (some t) → A.tmps.getD t undef = vals j) ∧ (∀ t, (dsts.all fun d => apartD d (some t)) = true → A.tmps.getD t undef = a0.tmps.getD t undef)
/-- All operations but the last leave what is old alone; the last waits for all. -/
def TailStep (P : Program) (Q : Exit → Act → World → Prop) (w0 : World) (dsts : List (Option Tmp)) (vals : Nat → Value) (a0 : Act) (n : Nat) (T : World → Prop) (i : Nat) (o : Oper) : Prop :=
  (i = n ∧ ((List.range n).all fun j => (edgesOf o).contains j) = true ∧ ∀ (A : Act) w', Below w0.heap.size w0 w' → SlotF dsts vals a0 o A → o.wp P A w' (fun a' w'' => a' = A.put o.dst (vals i) ∧ T w'') Q) ∨
  (Nat.beq i n = false ∧ ∀ (A : Act) w', Below w0.heap.size w0 w' → SlotF dsts vals a0 o A → o.wp P A w' (fun a' w'' => a' = A.put o.dst (vals i) ∧ Below w'.heap.size w' w'') Q)
theorem wp_region_tail {P : Program} {Q : Exit → Act → World → Prop} {id : Nat} {l : List Oper} {a : Act} {w : World} (dsts : List (Option Tmp)) (vals : Nat → Value) (n : Nat) (T : World → Prop)
    (hm : P.follows .mixedOrders = true) (hds : l.map (·.dst) = dsts) (hnd : nodupD dsts = true) (hng : (l.all fun o => o.guard.isNone) = true) (hord : ordGo 0 l = true) (hin : inD a.tmps.size dsts = true) (hn : l.length = n + 1)
    (step : StepAll (TailStep P Q w dsts vals a n T) 0 l) (fin : ∀ w', T w' → Q .normal (Fr vals (fun _ => true) dsts 0 a) w') : (Code.region id l.toArray true).wp P Q a w := by
  refine wp_region_inv (Γ := Unit) dsts (fun _ => vals) (fun _ L w' => (L n = false ∧ Below w.heap.size w w') ∨ (L n = true ∧ (∀ j, j < n → L j = true) ∧ T w')) hm hds hnd hng hord () (.inl ⟨rfl, (Below.refl _ _).drew⟩) ?_ ?_
  · have key : ∀ (l' : List Oper) (k : Nat), k + l'.length = n + 1 → StepAll (TailStep P Q w dsts vals a n T) k l' → StepAll (fun i o => ∀ (γ : Unit) (L : Nat → Bool) w', ((L n = false ∧ Below w.heap.size w w') ∨ (L n = true ∧ (∀ j, j < n → L j = true) ∧ T w')) → L i = false → (∀ j ∈ edgesOf o, L j = true) →
        o.wp P (Fr vals L dsts 0 a) w' (fun a' w'' => ∃ γ' : Unit, (∀ j, L j = true → vals j = vals j) ∧ a' = (Fr vals L dsts 0 a).put o.dst (vals i) ∧ ((onL L i n = false ∧ Below w.heap.size w w'') ∨ (onL L i n = true ∧ (∀ j, j < n → onL L i j = true) ∧ T w''))) Q) k l' := by
      intro l'
      induction l' with
      | nil => intro _ _ _; trivial
      | cons o l' ih =>
        intro k hk hs
        refine ⟨?_, ih (k + 1) (by simp at hk; omega) hs.2⟩
        intro γ L w' hI hL hdep
        have hkn : k ≤ n := by simp at hk; omega
        have hln : L n = false := by
          cases e : L n with
          | false => rfl
          | true =>
            rcases hI with ⟨h, _⟩ | ⟨_, h, _⟩
            · rw [e] at h; cases h
            · by_cases hk2 : k = n
              · rw [hk2, e] at hL; cases hL
              · rw [h k (by omega)] at hL; cases hL
        have hb : Below w.heap.size w w' := by
          rcases hI with ⟨_, h⟩ | ⟨h, _⟩
          · exact h
          · rw [hln] at h; cases h
        have hSF : SlotF dsts vals a o (Fr vals L dsts 0 a) :=
          ⟨fun j hj t ht => Fr_get vals L t j (hdep j (List.contains_iff_mem.1 hj)) dsts 0 a hnd (Nat.zero_le _) (by simpa using ht) (inD_lt hin ht), fun t ht => Fr_old vals L t dsts 0 a ht⟩
        rcases hs.1 with ⟨rfl, hall, hq⟩ | ⟨hne, hq⟩
        · refine Oper.wp_mono ?_ (hq _ w' hb hSF)
          rintro a' w'' ⟨rfl, hT⟩
          refine ⟨(), fun _ _ => rfl, rfl, .inr ⟨onL_same, fun j hj => ?_, hT⟩⟩
          have := List.all_eq_true.1 hall j (List.mem_range.2 hj)
          have := hdep j (List.contains_iff_mem.1 this)
          simp [onL, this]
        · refine Oper.wp_mono ?_ (hq _ w' hb hSF)
          rintro a' w'' ⟨rfl, hbel⟩
          refine ⟨(), fun _ _ => rfl, rfl, .inl ⟨?_, bt hb hbel⟩⟩
          have hne' : n ≠ k := fun e => by subst e; simp at hne
          rw [onL_ne hne', hln]
    exact key l 0 (by omega) step
  · rintro γ L w' hL hI
    rcases hI with ⟨h, _⟩ | ⟨_, _, h⟩
    · rw [hL n (by omega)] at h; cases h
    · exact fin w' h

/-! ## Single operations -/
section
variable {P : Program} {Q : Exit → Act → World → Prop} {o : Oper} {A : Act} {w : World} {B : Nat} {u : Value} {K : Act → World → Prop}
theorem op_run (h : (execOp A.eval o).run P w = .ok (.value u) w) : o.wp P A w (fun a' w'' => a' = A.put o.dst u ∧ Below w.heap.size w w'') Q := by
  unfold Oper.wp
  rw [h]
  exact ⟨rfl, Below.refl _ _⟩
theorem op_load (ty : TypeId) (x : Operand) (ho : o.op = .load ty x) {g : Nat} (hx : A.eval x = .pointer (some ⟨g, 0, none⟩)) {t : TypeId} {cs : Array Value} {n : Nat} {e : TypeId} (hb : Blk w g t cs) (hu : P.underlying ty = some (.array n e)) (hi : (P.info? ty).map (·.size) = some cs.size) :
    o.wp P A w (fun a' w'' => a' = A.put o.dst (.agg cs) ∧ Below w.heap.size w w'') Q :=
  wp_load_row ty x ho g hx t cs (0, 0) _ hb hu rfl hi ⟨rfl, Below.refl _ _⟩
theorem op_move (x : Operand) (ho : o.op = .move x ∨ o.op = .assign x) (hx : A.eval x = u) : o.wp P A w (fun a' w'' => a' = A.put o.dst u ∧ Below w.heap.size w w'') Q := by
  refine op_run ?_
  unfold execOp
  rcases ho with ho | ho <;> simp only [ho, hx] <;> rfl
theorem op_extract (x : Operand) (k : Nat) (vs : Array Value) (ho : o.op = .extract x k) (hx : A.eval x = .tuple vs) (hu : vs[k]? = some u) : o.wp P A w (fun a' w'' => a' = A.put o.dst u ∧ Below w.heap.size w w'') Q := by
  refine op_run ?_
  unfold execOp
  simp only [ho, hx, Instr.extract, hu]
  rfl
theorem op_call (f : FuncId) (args : Array Value) (hrun : (execOp A.eval o).run P w = .ok (.enter f args) w) (h : Calls P f args w fun e w' => e = .returned u ∧ Below w.heap.size w w') :
    o.wp P A w (fun a' w'' => a' = A.put o.dst u ∧ Below w.heap.size w w'') Q := by
  unfold Oper.wp
  rw [hrun, Oper.upon_enter]
  refine h.mono fun e w'' hh => ?_
  obtain ⟨rfl, hb⟩ := hh
  exact ⟨rfl, hb⟩
theorem exec_call (c : Call) (f : FuncId) (args : Array Value) (ho : o.op = .call c) (hc : c.callee = .value (.func f)) (ha : c.args.map A.eval = args) {fn : Func} {cd : Code} (hf : P.funcs[f]? = some fn) (hname : (fn.name == "runtime.NumGoroutine") = false) (hbd : fn.body = some cd) :
    (execOp A.eval o).run P w = .ok (.enter f args) w := by
  have h1 : fn.name ≠ "runtime.NumGoroutine" := by simpa using hname
  unfold execOp
  simp only [ho]
  simp [resolve, hc, Act.eval, Deferred.ofValue, invoke, callFunc, hf, h1, hbd, ← ha]
end
end Go.Proofs.YtlegcceaoglpoaaDoor

namespace Go.Proofs.YtlegcceaoglpoaaDoor
open Go.RowKit
set_option linter.unusedVariables false

abbrev Wd := BitVec 32
/-- A word as a number; behind a name. -/
def wn (x : Wd) : Nat := x.toNat
theorem wn_lt (x : Wd) : wn x < 4294967296 := x.isLt
theorem ofInt_wd (a : Wd) : BitVec.ofInt 32 (wn a : Int) = a := by
  apply BitVec.eq_of_toNat_eq
  rw [BitVec.toNat_ofInt]
  have := wn_lt a
  unfold wn at *
  omega
theorem wrap_wd (a : Wd) : IntKind.u32.wrap (a.toNat : Int) = (wn a : Int) := by
  have := wn_lt a
  unfold wn at *
  simp [IntKind.wrap, IntKind.signed, IntKind.bits]
  omega
theorem bxor_wd (a b : Wd) : bits .xor .u32 (wn a : Int) (wn b : Int) = (wn (a ^^^ b) : Int) := by
  show IntKind.u32.wrap ((BitVec.ofInt 32 (wn a : Int) ^^^ BitVec.ofInt 32 (wn b : Int)).toNat : Int) = _
  rw [ofInt_wd, ofInt_wd, wrap_wd]
theorem band_wd (a b : Wd) : bits .and .u32 (wn a : Int) (wn b : Int) = (wn (a &&& b) : Int) := by
  show IntKind.u32.wrap ((BitVec.ofInt 32 (wn a : Int) &&& BitVec.ofInt 32 (wn b : Int)).toNat : Int) = _
  rw [ofInt_wd, ofInt_wd, wrap_wd]
theorem bor_wd (a b : Wd) : bits .or .u32 (wn a : Int) (wn b : Int) = (wn (a ||| b) : Int) := by
  show IntKind.u32.wrap ((BitVec.ofInt 32 (wn a : Int) ||| BitVec.ofInt 32 (wn b : Int)).toNat : Int) = _
  rw [ofInt_wd, ofInt_wd, wrap_wd]
theorem bnot_wd (a : Wd) : bits .xor .u32 IntKind.u32.max (wn a : Int) = (wn (~~~a) : Int) := by
  show IntKind.u32.wrap ((BitVec.ofInt 32 IntKind.u32.max ^^^ BitVec.ofInt 32 (wn a : Int)).toNat : Int) = _
  rw [ofInt_wd, show BitVec.ofInt 32 IntKind.u32.max = BitVec.allOnes 32 by decide, BitVec.allOnes_xor, wrap_wd]
theorem add_wd (a b : Wd) : IntKind.u32.wrap ((wn a : Int) + (wn b : Int)) = (wn (a + b) : Int) := by
  have h1 := wn_lt a
  have h2 := wn_lt b
  unfold wn at *
  rw [BitVec.toNat_add, IntKind.wrap_u32]
  omega
theorem wn_add (a b : Wd) : wn (a + b) = (wn a + wn b) % 4294967296 := by
  unfold wn
  rw [BitVec.toNat_add]
theorem add4_wd (a b c d : Wd) : ((wn a : Int) + (wn b : Int) + (wn c : Int) + (wn d : Int)) % 4294967296 = (wn (a + b + c + d) : Int) := by
  rw [wn_add, wn_add, wn_add]
  omega
theorem add5_wd (a b c d e : Wd) : ((wn a : Int) + (wn b : Int) + (wn c : Int) + (wn d : Int) + (wn e : Int)) % 4294967296 = (wn (a + b + c + d + e) : Int) := by
  rw [wn_add, wn_add, wn_add, wn_add]
  omega
theorem add2_wd (a b : Wd) : ((wn a : Int) + (wn b : Int)) % 4294967296 = (wn (a + b) : Int) := by
  rw [wn_add]
  omega
theorem shr_wd (a : Wd) (n : Nat) : ((wn a : Int) / 2 ^ n) = (wn (a >>> n) : Int) := by
  unfold wn
  rw [BitVec.toNat_ushiftRight, Nat.shiftRight_eq_div_pow]
  generalize a.toNat = y
  push_cast
  rfl
theorem shl_wd (a : Wd) (n : Nat) : IntKind.u32.wrap ((wn a : Int) * 2 ^ n) = (wn (a <<< n) : Int) := by
  unfold wn
  rw [BitVec.toNat_shiftLeft, Nat.shiftLeft_eq, IntKind.wrap_u32]
  generalize a.toNat = y
  have e : ((y : Int) * 2 ^ n) = ((y * 2 ^ n : Nat) : Int) := by push_cast; rfl
  rw [e]
  generalize y * 2 ^ n = z
  omega
/-- x turned to the right by n. -/
def rr (x : Wd) (n : Nat) : Wd := x >>> n ||| x <<< (32 - n)

set_option maxHeartbeats 400000 in
theorem RotateLeft_any (x : Wd) (n : Nat) (h0 : 0 < n) (h1 : n < 32) (w : World) :
    Calls Tryd.prog 65 #[.int .u32 (wn x), .int .i64 (-(n : Int))] w fun e w' => e = .returned (.int .u32 (wn (rr x n))) ∧ w' = w := by
  have e1 : bits .and .u64 (IntKind.u64.wrap (-(n : Int))) 31 = ((32 - n : Nat) : Int) := by
    have e2 := u64_and_nat (18446744073709551616 - n) 31 (by omega) (by omega)
    have e3 : IntKind.u64.wrap (-(n : Int)) = ((18446744073709551616 - n : Nat) : Int) := by rw [IntKind.wrap_u64]; omega
    rw [e3]
    refine e2.trans ?_
    congr 1
    have e4 : (18446744073709551616 - n) &&& 31 = (18446744073709551616 - n) % 32 := Nat.and_two_pow_sub_one_eq_mod _ 5
    rw [e4]
    omega
  obtain ⟨m, hm⟩ : ∃ m, m = 32 - n := ⟨_, rfl⟩
  rw [← hm] at e1
  have hmn : (32 : Int) - (m : Int) = (n : Int) := by omega
  have hm32 : m < 32 := by omega
  have v1 := shl_wd x m
  have v2 := shr_wd x n
  have v3 := bor_wd (x <<< m) (x >>> n)
  have e5 : x <<< m ||| x >>> n = rr x n := by unfold rr; rw [← hm, BitVec.or_comm]
  rw [e5] at v3
  have H := Lib.hid (And.intro hm e5); clear hm e5
  go_enter Tryd.func65, Tryd.ntmps65
  go_wp2
  go_ret
  exact ⟨rfl, rfl⟩
set_option maxHeartbeats 400000 in
theorem turned_any (x : Wd) (n : Nat) (h0 : 0 < n) (h1 : n < 32) (w : World) :
    Calls Tryd.prog 59 #[.int .u32 (wn x), .int .i64 n] w fun e w' => e = .returned (.int .u32 (wn (rr x n))) ∧ w' = w := by
  go_enter Tryd.func59, Tryd.ntmps59
  go_wp2_with (go_at_call 65; refine (RotateLeft_any x n h0 h1 _).mono ?_; rintro e w' ⟨rfl, rfl⟩)
  go_ret
  exact ⟨rfl, rfl⟩
theorem turned_is (x : Wd) (k : Int) (n : Nat) (hk : k = n) (h0 : 0 < n) (h1 : n < 32) (w : World) :
    Calls Tryd.prog 59 #[.int .u32 (wn x), .int .i64 k] w fun e w' => e = .returned (.int .u32 (wn (rr x n))) ∧ w' = w := by
  subst hk
  exact turned_any x n h0 h1 w
end Go.Proofs.YtlegcceaoglpoaaDoor

namespace Go.Proofs.YtlegcceaoglpoaaDoor
open Go.RowKit
set_option linter.unusedVariables false




/-- The model's entry for math/bits.Sub64. -/
def sub64Entry : Array Value → Sem Value := fun args => do
  let (x, y, b) ← Extern.MathBitsCarry.three "Sub64" args
  pure (Extern.MathBitsCarry.pair ((x + Extern.MathBitsCarry.m64 - y - b) % Extern.MathBitsCarry.m64) (if x < y + b then 1 else 0))
theorem run_sub64 {P : Program} (x y b : Nat) (hb : b ≤ 1) (w : World) :
    (sub64Entry #[.int .u64 x, .int .u64 y, .int .u64 b]).run P w =
      .ok (.tuple #[.int .u64 (((x + 18446744073709551616 - y - b) % 18446744073709551616 : Nat) : Int), .int .u64 ((if x < y + b then 1 else 0 : Nat) : Int)]) w := by
  have : b = 0 ∨ b = 1 := by omega
  rcases this with rfl | rfl <;> rfl

abbrev SumIs (m n r : Nat) (b : Bool) : Prop := m < T ∧ n < T ∧ r < T ∧ m + n = r + T * b.toNat

theorem sum_ex (m n : Nat) (hm : m < T) (hn : n < T) : ∃ s b, SumIs m n s b := by
  by_cases h : T ≤ m + n
  · exact ⟨m + n - T, true, hm, hn, by omega, by simp; omega⟩
  · exact ⟨m + n, false, hm, hn, by omega, by simp⟩
theorem blk_get {w : World} {g : Nat} {t : TypeId} {cs : Array Value} (h : Blk w g t cs) (i : Nat) (v : Value) (hv : cs[i]? = some v) : w.cell? ⟨g, i, none⟩ = some v := (h.cell i).trans hv

abbrev DiffIs (m n r : Nat) (b : Bool) : Prop := m < T ∧ n < T ∧ r < T ∧ m + T * b.toNat = r + n
theorem diff_ex (m n : Nat) (hm : m < T) (hn : n < T) : ∃ d b, DiffIs m n d b := by
  by_cases h : m < n
  · exact ⟨m + T - n, true, hm, hn, by omega, by simp; omega⟩
  · exact ⟨m - n, false, hm, hn, by omega, by simp; omega⟩


end Go.Proofs.YtlegcceaoglpoaaDoor

namespace Go.Proofs.YtlegcceaoglpoaaDoor
open Go.RowKit
set_option linter.unusedVariables false

/-- How many digits of two n has. -/
def bl (n : Nat) : Nat := if n = 0 then 0 else n.log2 + 1
theorem bl_half (n : Nat) (h : n ≠ 0) : bl n = 1 + bl (n / 2) := by
  unfold bl
  rw [if_neg h]
  by_cases h2 : n / 2 = 0
  · have : n = 1 := by omega
    subst this
    rfl
  · rw [if_neg h2, Nat.log2_def, if_pos (by omega)]
    omega
theorem bl_lib (n : Nat) : n < 2 ^ 64 → Lib.bitLen n = bl n := by
  induction n using Nat.strongRecOn with
  | _ n ih =>
    intro h
    by_cases h0 : n = 0
    · subst h0; rfl
    · rw [Lib.bitLen_half n h0 h, bl_half n h0, ih (n / 2) (by omega) (by omega)]
theorem bl_lt (n k : Nat) : bl n ≤ k ↔ n < 2 ^ k := by
  unfold bl
  split
  · rename_i h; subst h; simp [Nat.two_pow_pos]
  · rename_i h; rw [Nat.succ_le_iff, Nat.log2_lt h]

theorem len8tab_at' : ∀ i : Fin 256, (Lib.len8tab[i.val]'(by rw [Lib.len8tab_size]; exact i.isLt)).toNat = Lib.bitLen i.val := by decide +kernel
theorem len8tab_at (i : Nat) (h : i < Lib.len8tab.size) : (Lib.len8tab[i]'h).toNat = Lib.bitLen i := len8tab_at' ⟨i, by rw [← Lib.len8tab_size]; exact h⟩
theorem wl (c n : Nat) (h1 : c ≤ 56) (hn : n ≤ 8) : RowKit.wrap64 ((c : Int) + RowKit.wrap64 (n : Int)) = ((c + n : Nat) : Int) := by
  unfold RowKit.wrap64
  omega
theorem wl0 (n : Nat) (hn : n ≤ 8) : RowKit.wrap64 (RowKit.wrap64 (n : Int)) = (n : Int) := by
  unfold RowKit.wrap64
  omega


end Go.Proofs.YtlegcceaoglpoaaDoor

namespace Go.Proofs.YtlegcceaoglpoaaDoor
open Go.RowKit
set_option linter.unusedVariables false


abbrev CmpIs (m n : Nat) (c : Int) : Prop := m < T ∧ n < T ∧ c = if m < n then -1 else if n < m then 1 else 0

theorem cmp_ex (m n : Nat) (hm : m < T) (hn : n < T) : ∃ c, CmpIs m n c := ⟨_, hm, hn, rfl⟩
theorem cmp_facts {m n : Nat} {c : Int} (h : CmpIs m n c) : (c < 0 ↔ m < n) ∧ (0 < c ↔ n < m) ∧ -1 ≤ c ∧ c ≤ 1 := by
  obtain ⟨_, _, rfl⟩ := h
  by_cases a : m < n
  · rw [if_pos a]; omega
  · rw [if_neg a]
    by_cases b : n < m
    · rw [if_pos b]; omega
    · rw [if_neg b]; omega
theorem cmp_swap {m n : Nat} {c : Int} (h : CmpIs m n c) : CmpIs n m (-c) := by
  have hf := cmp_facts h
  refine ⟨h.2.1, h.1, ?_⟩
  by_cases a : m < n
  · rw [if_neg (by omega), if_pos a]; omega
  · by_cases b : n < m
    · rw [if_pos b]; omega
    · rw [if_neg b, if_neg a]; omega
theorem parts_lt {m n j : Nat} (hm : m < T) (hn : n < T) (hj : j < 4) (h : ∀ k, j < k → k < 4 → lim m k = lim n k) (hlt : lim m j < lim n j) : m < n := by
  have a0 := lim_lt m 0
  have a1 := lim_lt m 1
  have a2 := lim_lt m 2
  have a3 := lim_lt m 3
  have b0 := lim_lt n 0
  have b1 := lim_lt n 1
  have b2 := lim_lt n 2
  have b3 := lim_lt n 3
  rw [lim_sum m hm, lim_sum n hn]
  unfold W64 at *
  rcases (show j = 0 ∨ j = 1 ∨ j = 2 ∨ j = 3 from by omega) with rfl | rfl | rfl | rfl
  · have := h 1; have := h 2; have := h 3; omega
  · have := h 2; have := h 3; omega
  · have := h 3; omega
  · omega


theorem lim_not (n k : Nat) (h : n < T) (hk : k < 4) : lim (T - 1 - n) k = W64 - 1 - lim n k := by
  unfold lim T at *
  unfold W64
  rcases (show k = 0 ∨ k = 1 ∨ k = 2 ∨ k = 3 from by omega) with rfl | rfl | rfl | rfl <;> omega

theorem not_u64 (n : Nat) (h : n < 18446744073709551616) : bits .xor .u64 IntKind.u64.max (n : Int) = ((18446744073709551615 - n : Nat) : Int) := by
  show IntKind.u64.wrap ((BitVec.ofInt 64 IntKind.u64.max ^^^ BitVec.ofInt 64 (n : Int)).toNat : Int) = _
  have h1 : BitVec.ofInt 64 IntKind.u64.max = BitVec.allOnes 64 := by decide
  rw [h1, BitVec.allOnes_xor, BitVec.toNat_not, ofInt_u64 n h, IntKind.wrap_u64]
  omega




theorem bl_top (m j : Nat) (hm : m < T) (hj : j < 4) (h : ∀ k, j < k → k < 4 → lim m k = 0) (h0 : lim m j ≠ 0) : bl m = 64 * j + bl (lim m j) := by
  have h1 : ∀ i, bl m ≤ 64 * j + i ↔ bl (lim m j) ≤ i := by
    intro i
    rw [bl_lt, bl_lt, Nat.pow_add]
    have a0 := lim_lt m 0
    have a1 := lim_lt m 1
    have a2 := lim_lt m 2
    have a3 := lim_lt m 3
    have hs := lim_sum m hm
    have hp : 0 < 2 ^ i := Nat.two_pow_pos i
    generalize 2 ^ i = I at *
    rcases (show j = 0 ∨ j = 1 ∨ j = 2 ∨ j = 3 from by omega) with rfl | rfl | rfl | rfl
    · have e1 := h 1 (by omega) (by omega); have e2 := h 2 (by omega) (by omega); have e3 := h 3 (by omega) (by omega)
      rw [e1, e2, e3] at hs
      simp at hs ⊢
      rw [← hs]
    · have e2 := h 2 (by omega) (by omega); have e3 := h 3 (by omega) (by omega)
      rw [e2, e3] at hs
      have : (2 : Nat) ^ (64 * 1) = W64 := by decide
      rw [this]
      unfold W64 at *
      omega
    · have e3 := h 3 (by omega) (by omega)
      rw [e3] at hs
      have : (2 : Nat) ^ (64 * 2) = W64 * W64 := by decide
      rw [this]
      unfold W64 at *
      omega
    · have : (2 : Nat) ^ (64 * 3) = W64 * W64 * W64 := by decide
      rw [this]
      unfold W64 at *
      omega
  have h2 : 64 * j ≤ bl m := by
    rcases Nat.lt_or_ge (bl m) (64 * j) with hlt | hge
    · have := (h1 0).1 (by omega)
      rw [bl_lt] at this
      omega
    · exact hge
  have h3 := (h1 (bl (lim m j))).2 (Nat.le_refl _)
  have h4 := (h1 (bl m - 64 * j)).1 (by omega)
  omega

end Go.Proofs.YtlegcceaoglpoaaDoor

namespace Go.Proofs.YtlegcceaoglpoaaDoor
open Go.RowKit
set_option linter.unusedVariables false

/-- The small hexadecimal digit of d. -/
def hx (d : Nat) : UInt8 := if d < 10 then UInt8.ofNat (48 + d) else UInt8.ofNat (87 + d)
/-- L hexadecimal digits of m, the highest first. -/
def hexB (m L : Nat) : List UInt8 := (List.range L).map fun i => hx (m / 16 ^ (L - 1 - i) % 16)
def hexLen (m : Nat) : Nat := if m = 0 then 1 else (bl m + 3) / 4
def bstr (l : List UInt8) : ByteArray := ⟨l.toArray⟩
def u8cells (l : List UInt8) : Array Value := (l.map fun c => Value.int .u8 c.toNat).toArray
/-- The first k of a row, zeros behind. -/
def partB (l : List UInt8) (k : Nat) : Array Value := ((List.range l.length).map fun j => if j < k then Value.int .u8 (l.getD j 0).toNat else Value.int .u8 0).toArray

theorem hx_at (d : Nat) (hd : d < 16) (h) : (⟨#[48, 49, 50, 51, 52, 53, 54, 55, 56, 57, 97, 98, 99, 100, 101, 102]⟩ : ByteArray)[d]'h = hx d := by
  have all : ∀ d : Fin 16, (⟨#[48, 49, 50, 51, 52, 53, 54, 55, 56, 57, 97, 98, 99, 100, 101, 102]⟩ : ByteArray)[d.val]'(by have := d.isLt; exact this) = hx d.val := by decide +kernel
  exact all ⟨d, hd⟩
theorem hexDigit (m p : Nat) (hm : m < T) (hp : p < 64) : ∃ d : Nat, bits .and .u64 ((lim m (p / 16) : Nat) / 2 ^ (4 * (p % 16)) : Int) 15 = (d : Int) ∧ (d : Int) < 16 ∧ d = m / 16 ^ p % 16 := by
  refine ⟨m / 16 ^ p % 16, ?_, by omega, rfl⟩
  have hl := lim_lt m (p / 16)
  have e1 : ((lim m (p / 16) : Nat) / 2 ^ (4 * (p % 16)) : Int) = ((lim m (p / 16) / 2 ^ (4 * (p % 16)) : Nat) : Int) := by push_cast; rfl
  have hle : lim m (p / 16) / 2 ^ (4 * (p % 16)) ≤ lim m (p / 16) := Nat.div_le_self _ _
  rw [e1]
  have e2 := u64_and_nat (lim m (p / 16) / 2 ^ (4 * (p % 16))) 15 (by unfold W64 at hl; omega) (by omega)
  rw [show ((15 : Nat) : Int) = 15 from rfl] at e2
  rw [e2, nat_mask4]
  congr 1
  have e3 : (16 : Nat) ^ p = W64 ^ (p / 16) * 2 ^ (4 * (p % 16)) := by
    have h16 : (16 : Nat) = 2 ^ 4 := rfl
    have hW : W64 = 2 ^ 64 := rfl
    rw [h16, hW, ← Nat.pow_mul, ← Nat.pow_mul, ← Nat.pow_add]
    congr 1
    omega
  rw [e3, ← Nat.div_div_eq_div_mul]
  unfold lim
  generalize m / W64 ^ (p / 16) = q
  have hW : W64 = 2 ^ (4 * (p % 16)) * (16 * 2 ^ (60 - 4 * (p % 16))) := by
    have h16 : (16 : Nat) = 2 ^ 4 := rfl
    rw [h16, ← Nat.pow_add, ← Nat.pow_add, show 4 * (p % 16) + (4 + (60 - 4 * (p % 16))) = 64 by omega]
    rfl
  rw [hW, Nat.mod_mul_right_div_self, Nat.mod_mul_right_mod]
theorem partB_at (l : List UInt8) (k j : Nat) (h : j < l.length) : ∃ v, (partB l k)[j]? = some v := by
  unfold partB
  simp [h]
theorem partB_set (l : List UInt8) (k : Nat) (h : k < l.length) : (partB l k).setIfInBounds k (.int .u8 (l.getD k 0).toNat) = partB l (k + 1) := by
  unfold partB
  apply Array.ext
  · simp
  · intro i h1 h2
    simp only [List.setIfInBounds_toArray, List.getElem_toArray, List.getElem_set, List.getElem_map, List.getElem_range]
    by_cases e : k = i
    · subst e; simp
    · rw [if_neg e]
      by_cases h3 : i < k
      · rw [if_pos h3, if_pos (by omega)]
      · rw [if_neg h3, if_neg (by omega)]
theorem partB_zero (l : List UInt8) : partB l 0 = Array.replicate l.length (.int .u8 0) := by
  unfold partB
  apply Array.ext
  · simp
  · intro i h1 h2
    simp
theorem madeCells_one (z : Value) (n : Nat) : madeCells #[z] n = Array.replicate n z := by
  apply Array.ext'
  rw [toList_madeCells_one, Array.toList_replicate]
theorem make_bytes (n : Nat) (c : Int) (hc : c = n) (hn : n ≤ 140737488355328) (w : World) :
    (Instr.makeSlice 23 (.int .i64 c) (.int .i64 c)).run Tryd.prog w = .ok (.slice (some ⟨w.heap.size, 0, none⟩) n n) (w.alloc (.cells (Array.replicate n (.int .u8 0)) 5)) := by
  obtain ⟨i0, hi, hz0, hz1, hz2⟩ := info_parts (show (Tryd.prog.info? 5).map (fun i => (i.zero, i.size, i.bytes)) = some (some (.int .u8 0), 1, 1) by kernel_rfl)
  subst hc
  rw [run_make w 23 5 i0 (.int .u8 0) Tryd.underlying23 hi hz0 .i64 .i64 n n (by omega) (by omega) (by rw [hz2]; omega) (by omega), hz1, Int.toNat_natCast, Nat.mul_one]
  exact congrArg (fun cs => Result.ok _ (w.alloc (.cells cs 5))) (madeCells_one _ n)
theorem partB_full (l : List UInt8) (k : Nat) (h : l.length = k) : partB l k = u8cells l := by
  unfold partB u8cells
  apply Array.ext
  · simp
  · intro i h1 h2
    have h3 : i < l.length := by simpa using h1
    simp [h3, ← h]
theorem strOf_u8 (l : List UInt8) : strOfNums (l.map fun c => (c.toNat : Int)) = bstr l := by
  unfold strOfNums bstr
  congr 1
  simp [Function.comp_def]

end Go.Proofs.YtlegcceaoglpoaaDoor

namespace Go.Proofs.YtlegcceaoglpoaaDoor
open Go.RowKit
set_option linter.unusedVariables false

/-- m as L bytes, the highest first. -/
def byB (m L : Nat) : List UInt8 := (List.range L).map fun i => UInt8.ofNat (m / 256 ^ (L - 1 - i) % 256)
/-- The last k of a row, zeros before. -/
def lastB (l : List UInt8) (k : Nat) : Array Value := ((List.range l.length).map fun j => if l.length ≤ j + k then Value.int .u8 (l.getD j 0).toNat else Value.int .u8 0).toArray
theorem lastB_at (l : List UInt8) (k j : Nat) (h : j < l.length) : ∃ v, (lastB l k)[j]? = some v := by
  unfold lastB
  simp [h]
theorem lastB_set (l : List UInt8) (k j : Nat) (h : j + k + 1 = l.length) : (lastB l k).setIfInBounds j (.int .u8 (l.getD j 0).toNat) = lastB l (k + 1) := by
  unfold lastB
  apply Array.ext
  · simp
  · intro i h1 h2
    simp only [List.setIfInBounds_toArray, List.getElem_toArray, List.getElem_set, List.getElem_map, List.getElem_range]
    by_cases e : j = i
    · subst e; rw [if_pos rfl, if_pos (by omega)]
    · rw [if_neg e]
      by_cases h3 : l.length ≤ i + k
      · rw [if_pos h3, if_pos (by omega)]
      · rw [if_neg h3, if_neg (by omega)]
theorem lastB_zero (l : List UInt8) : lastB l 0 = Array.replicate l.length (.int .u8 0) := by
  unfold lastB
  apply Array.ext
  · simp
  · intro i h1 h2
    have : i < l.length := by simpa using h1
    simp; omega
theorem lastB_full (l : List UInt8) (k : Nat) (h : l.length = k) : lastB l k = u8cells l := by
  unfold lastB u8cells
  apply Array.ext
  · simp
  · intro i h1 h2
    have h3 : i < l.length := by simpa using h1
    simp [h3, ← h]
theorem lastB_size (l : List UInt8) (k : Nat) : (lastB l k).size = l.length := by simp [lastB]
theorem lim_byte (m i : Nat) (hi : i < 32) : lim m (i / 8) / 2 ^ (8 * (i % 8)) % 256 = m / 256 ^ i % 256 := by
  have e3 : (256 : Nat) ^ i = W64 ^ (i / 8) * 2 ^ (8 * (i % 8)) := by
    have h16 : (256 : Nat) = 2 ^ 8 := rfl
    have hW : W64 = 2 ^ 64 := rfl
    rw [h16, hW, ← Nat.pow_mul, ← Nat.pow_mul, ← Nat.pow_add]
    congr 1
    omega
  rw [e3, ← Nat.div_div_eq_div_mul]
  unfold lim
  generalize m / W64 ^ (i / 8) = q
  have hW : W64 = 2 ^ (8 * (i % 8)) * (256 * 2 ^ (56 - 8 * (i % 8))) := by
    have h16 : (256 : Nat) = 2 ^ 8 := rfl
    rw [h16, ← Nat.pow_add, ← Nat.pow_add, show 8 * (i % 8) + (8 + (56 - 8 * (i % 8))) = 64 by omega]
    rfl
  rw [hW, Nat.mod_mul_right_div_self, Nat.mod_mul_right_mod]
theorem byB_length (m L : Nat) : (byB m L).length = L := by simp [byB]
theorem byB_at (m L j : Nat) (h : j < L) : (byB m L).getD j 0 = UInt8.ofNat (m / 256 ^ (L - 1 - j) % 256) := by simp [byB, h]

theorem byteOf (m i : Nat) (hm : m < T) (hi : i < 32) : ∃ d : Nat, ((lim m (i / 8) : Nat) / 2 ^ (8 * (i % 8)) % 256 : Int) = (d : Int) ∧ d < 256 ∧ d = m / 256 ^ i % 256 := by
  refine ⟨m / 256 ^ i % 256, ?_, by omega, rfl⟩
  have e1 : ((lim m (i / 8) : Nat) / 2 ^ (8 * (i % 8)) : Int) = ((lim m (i / 8) / 2 ^ (8 * (i % 8)) : Nat) : Int) := by push_cast; rfl
  rw [e1, ← lim_byte m i hi]
  generalize lim m (i / 8) / 2 ^ (8 * (i % 8)) = q
  omega

end Go.Proofs.YtlegcceaoglpoaaDoor

namespace Go.Proofs.YtlegcceaoglpoaaDoor
open Go.RowKit
set_option linter.unusedVariables false

/-- What is carried into part j of m times k. -/
def mulc (m k j : Nat) : Nat := (m % W64 ^ j * k) / W64 ^ j
theorem mulc_zero (m k : Nat) : mulc m k 0 = 0 := by simp [mulc, Nat.mod_one]
theorem mulc_lt (m k j : Nat) (hk : k < W64) : mulc m k j < W64 := by
  unfold mulc
  have hA := pow_pos' j
  have h1 := Nat.mod_lt m hA
  rw [Nat.div_lt_iff_lt_mul hA]
  calc m % W64 ^ j * k ≤ m % W64 ^ j * W64 := Nat.mul_le_mul_left _ (by omega)
    _ < W64 ^ j * W64 := Nat.mul_lt_mul_of_pos_right h1 W64_pos
    _ = W64 * W64 ^ j := Nat.mul_comm _ _
theorem mulc_step (m k j : Nat) : lim m j * k + mulc m k j = lim (m * k) j + W64 * mulc m k (j + 1) := by
  unfold mulc lim
  have hA := pow_pos' j
  have hX := W64_pos
  have e1 : m % W64 ^ (j + 1) = m % W64 ^ j + W64 ^ j * (m / W64 ^ j % W64) := by rw [Nat.pow_succ, Nat.mod_mul]
  have e2 : m * k / W64 ^ j = m / W64 ^ j * k + m % W64 ^ j * k / W64 ^ j := by
    have h := Nat.div_add_mod m (W64 ^ j)
    calc m * k / W64 ^ j = ((W64 ^ j * (m / W64 ^ j) + m % W64 ^ j) * k) / W64 ^ j := by rw [h]
      _ = (m % W64 ^ j * k + W64 ^ j * (m / W64 ^ j * k)) / W64 ^ j := by rw [Nat.add_mul, Nat.add_comm, Nat.mul_assoc]
      _ = m % W64 ^ j * k / W64 ^ j + m / W64 ^ j * k := Nat.add_mul_div_left _ _ hA
      _ = _ := Nat.add_comm _ _
  have e3 : m % W64 ^ (j + 1) * k / W64 ^ (j + 1) = (m / W64 ^ j % W64 * k + m % W64 ^ j * k / W64 ^ j) / W64 := by
    rw [Nat.pow_succ, ← Nat.div_div_eq_div_mul, ← Nat.pow_succ, e1, Nat.add_mul, Nat.mul_assoc, Nat.add_mul_div_left _ _ hA, Nat.add_comm]
  rw [e2, e3]
  generalize m / W64 ^ j = q
  generalize m % W64 ^ j * k / W64 ^ j = c
  have e4 : (q * k + c) % W64 = (q % W64 * k + c) % W64 := by
    rw [Nat.add_mod, Nat.mul_mod, Nat.add_mod (q % W64 * k), Nat.mul_mod (q % W64) k, Nat.mod_mod]
  rw [e4]
  have := Nat.div_add_mod (q % W64 * k + c) W64
  omega
abbrev ProdIs (m k r : Nat) (b : Bool) : Prop := m < T ∧ k < W64 ∧ r < T ∧ r = m * k % T ∧ b = decide (T ≤ m * k)
theorem prod_ex (m k : Nat) (hm : m < T) (hk : k < W64) : ∃ r b, ProdIs m k r b := ⟨_, _, hm, hk, Nat.mod_lt _ (by decide), rfl, rfl⟩

end Go.Proofs.YtlegcceaoglpoaaDoor
