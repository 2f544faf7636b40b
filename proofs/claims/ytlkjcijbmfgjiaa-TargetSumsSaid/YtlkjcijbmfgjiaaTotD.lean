/- TargetSums: its walk, for all arguments. -/
import Derived.Test.YtlkjcijbmfgjiaaTotC
namespace Go.Proofs.Ytlkjcijbmfgjiaa
open Go.RowKit
set_option linter.unusedVariables false
theorem totW_left (l r : List Nat) (k : Nat) (hk : k ≤ l.length) : totW (l ++ r) k = totW l k := by
  induction k with
  | zero => rfl
  | succ k ih =>
    have e : (l ++ r).getD k 0 = l.getD k 0 := by
      simp [List.getD, List.getElem?_append_left (show k < l.length by omega)]
    simp only [totW, ih (by omega), e]
theorem totW_app (l r : List Nat) (k : Nat) : totW (l ++ r) (l.length + k) = totW l l.length + totW r k := by
  induction k with
  | zero => exact totW_left l r _ (Nat.le_refl _)
  | succ k ih =>
    have e : (l ++ r).getD (l.length + k) 0 = r.getD k 0 := by
      simp [List.getD, List.getElem?_append_right]
    rw [← Nat.add_assoc]
    simp only [totW, ih, e]
    omega
theorem sums_both (A B x y s : Nat) (ov : Bool) (hx : x = A % T) (hy : y = B % T) (h : SumIs x y s ov) : (A + B) % T = s ∧ ((decide (T ≤ A) || decide (T ≤ B)) || ov) = decide (T ≤ A + B) := by
  obtain ⟨h1, h2, h3, h4⟩ := h
  constructor
  · rw [Nat.add_mod, ← hx, ← hy, h4]
    cases ov <;> simp [Nat.mod_eq_of_lt h3]
  · by_cases ha : T ≤ A
    · rw [decide_eq_true ha, decide_eq_true (show T ≤ A + B by omega)]; rfl
    · by_cases hb : T ≤ B
      · rw [decide_eq_true hb, decide_eq_true (show T ≤ A + B by omega)]; simp
      · rw [decide_eq_false ha, decide_eq_false hb, Bool.false_or, Bool.false_or]
        rw [Nat.mod_eq_of_lt (by omega)] at hx hy
        subst hx hy
        cases ov
        · simp at h4; symm; apply decide_eq_false; omega
        · simp at h4; symm; apply decide_eq_true; omega
theorem sums_one (A v x m : Nat) (cc : Int) (hx : x = A % T) (hm : m = (A + v) % T) (h : CmpIs m x cc) (z : Bool) (hz : z = decide (0 < v)) : (decide (T ≤ A + v) || (z == decide (0 < cc))) = true ∧ (z || decide (m = x)) = true := by
  have f := (cmp_facts h).2.1
  have hc : decide (0 < cc) = decide (x < m) := by
    by_cases k : 0 < cc
    · rw [decide_eq_true k, decide_eq_true (f.1 k)]
    · rw [decide_eq_false k, decide_eq_false (fun j => k (f.2 j))]
  rw [hc, hz]
  clear h f hc
  constructor
  · by_cases ht : T ≤ A + v
    · rw [decide_eq_true ht]; rfl
    · rw [Nat.mod_eq_of_lt (by omega)] at hx hm
      subst hx hm
      rw [decide_eq_false ht, Bool.false_or]
      by_cases k : 0 < v
      · rw [decide_eq_true k, decide_eq_true (by omega)]; rfl
      · rw [decide_eq_false k, decide_eq_false (by omega)]; rfl
  · by_cases k : 0 < v
    · rw [decide_eq_true k]; rfl
    · obtain rfl : v = 0 := by omega
      rw [hm, hx]
      simp
theorem workR_pos (b : Nat) : ((expR b).2 == 0) = decide (0 < workR b) := by
  unfold workR
  by_cases h : (expR b).2 = 0
  · rw [if_pos h, h]; symm; exact decide_eq_true (Nat.succ_pos _)
  · rw [if_neg h]; simpa using h
theorem TSums_walk (a0 : Option Addr) (n0 c0 : Nat) (l0 : List Nat) (hn0 : l0.length = n0) (ho0 : a0 = none → n0 = 0 ∧ c0 = 0) (hl0 : ∀ k, l0.getD k 0 < 4294967296) (a1 : Option Addr) (n1 c1 : Nat) (l1 : List Nat) (hn1 : l1.length = n1) (ho1 : a1 = none → n1 = 0 ∧ c1 = 0) (hl1 : ∀ k, l1.getD k 0 < 4294967296)
    (b : Int) (hb : (Lit.int .u32 b).wf = true) (w : World) (hr0 : RdN w a0 l0) (hr1 : RdN w a1 l1) :
    Calls Try.prog 5 #[.slice a0 n0 c0, .slice a1 n1 c1, .int .u32 b] w fun e w' => e = .returned (.bool true) ∧ Below w.heap.size w w' := by
  obtain ⟨b, rfl, kb⟩ : ∃ n : Nat, b = n ∧ n < 4294967296 := by
    simp [Lit.wf, IntKind.min, IntKind.max, IntKind.signed, IntKind.bits] at hb
    exact ⟨b.toNat, by omega, by omega⟩
  have hT : 0 < T := by decide
  have happ : ∀ r : List Nat, (∀ k, r.getD k 0 < 4294967296) → ∀ k, (l0 ++ r).getD k 0 < 4294967296 := by
    intro r hr k
    by_cases h : k < l0.length
    · have := hl0 k
      simp only [List.getD, List.getElem?_append_left h] at this ⊢
      exact this
    · have := hr (k - l0.length)
      simp only [List.getD, List.getElem?_append_right (show l0.length ≤ k by omega)] at this ⊢
      exact this
  have hb1 : ∀ k, [b].getD k 0 < 4294967296 := by
    intro k
    cases k with
    | zero => exact kb
    | succ k => simp
  have e1 : totW (l0 ++ l1) (n0 + n1) = totW l0 n0 + totW l1 n1 := by rw [← hn0]; exact totW_app l0 l1 n1
  have e2 : totW (l0 ++ [b]) (n0 + 1) = totW l0 n0 + workR b := by
    rw [← hn0, totW_app l0 [b] 1]
    simp [totW]
  obtain ⟨A, hA⟩ : ∃ A, A = totW l0 n0 := ⟨_, rfl⟩
  obtain ⟨B, hB⟩ : ∃ B, B = totW l1 n1 := ⟨_, rfl⟩
  have t0 := fun (h : n0 ≤ 20) w hr => Total_any a0 l0 n0 c0 hn0 (by omega) hl0 w hr
  have t1 := fun (h : n1 ≤ 20) w hr => Total_any a1 l1 n1 c1 hn1 (by omega) hl1 w hr
  have t2 := fun a c (h : n0 + n1 ≤ 40) w hl hr => Total_any a (l0 ++ l1) (n0 + n1) c hl (by omega) (happ l1 hl1) w hr
  have t3 := fun a c (h : n0 + 1 ≤ 40) w hl hr => Total_any a (l0 ++ [b]) (n0 + 1) c hl (by omega) (happ [b] hb1) w hr
  rw [e1, ← hA, ← hB] at t2
  rw [e2, ← hA] at t3
  rw [← hA] at t0
  rw [← hB] at t1
  clear e1 e2 hA hB
  have xT : A % T < T := Nat.mod_lt _ hT
  have yT : B % T < T := Nat.mod_lt _ hT
  have zT : (A + B) % T < T := Nat.mod_lt _ hT
  have mT : (A + workR b) % T < T := Nat.mod_lt _ hT
  obtain ⟨s, ov, hs⟩ := sum_ex (A % T) (B % T) xT yT
  obtain ⟨q1, q2⟩ := sums_both A B (A % T) (B % T) s ov rfl rfl hs
  obtain ⟨cc, hcc⟩ := cmp_ex ((A + workR b) % T) (A % T) mT xT
  obtain ⟨q3, q4⟩ := sums_one A (workR b) (A % T) ((A + workR b) % T) cc rfl rfl hcc ((expR b).2 == 0) (workR_pos b)
  rw [← q2] at t2
  refine TSums_core a0 a1 l0 l1 n0 c0 n1 c1 b (A % T) (B % T) ((A + B) % T) s ((A + workR b) % T) (expR b).1 (decide (T ≤ A)) (decide (T ≤ B)) _ ov (decide (T ≤ A + workR b)) _ _ _ _ _ (expR b).2 cc w (Lib.hid hr0) (Lib.hid hr1) ⟨hn0, ho0, hn1, ho1⟩ ⟨t0, t1, t2, t3⟩ ⟨hs, kb, rfl⟩
    ⟨fun w => eqU _ _ true zT hs.2.2.1 (decide_eq_true q1) w, rfl, rfl, rfl, hcc, rfl, rfl, q3, fun w => eqU _ _ _ mT xT rfl w, q4⟩
end Go.Proofs.Ytlkjcijbmfgjiaa
