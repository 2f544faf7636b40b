/- A region that draws its order, whose values are known by what holds of them, also behind it. -/
import Derived.Test.YtfebknplkbeblaaDoorShaL
namespace Go.Proofs.YtfebknplkbeblaaDoor
open Go.RowKit
set_option linter.unusedVariables false
/-- All operations but the last leave what is old alone, and of what each yields F holds; the last waits for all. -/
def ValStep2 (P : Program) (Q : Exit → Act → World → Prop) (w0 : World) (dsts : List (Option Tmp)) (F : Nat → Value → World → Prop) (a0 : Act) (n : Nat) (T : (Nat → Value) → World → Prop) (i : Nat) (o : Oper) : Prop :=
  (i = n ∧ ((List.range n).all fun j => (edgesOf o).contains j) = true ∧ ∀ (A : Act) w' (γ : Nat → Value), Below w0.heap.size w0 w' → (∀ j, j < n → F j (γ j) w') → SlotF dsts γ a0 o A → o.wp P A w' (fun a' w'' => ∃ u, a' = A.put o.dst u ∧ T γ w'') Q) ∨
  (Nat.beq i n = false ∧ ∀ (A : Act) w' (γ : Nat → Value), Below w0.heap.size w0 w' → (∀ j, (edgesOf o).contains j = true → F j (γ j) w') → SlotF dsts γ a0 o A → o.wp P A w' (fun a' w'' => ∃ u, a' = A.put o.dst u ∧ Below w'.heap.size w' w'' ∧ F i u w'') Q)
theorem wp_region_vals2 {P : Program} {Q : Exit → Act → World → Prop} {id : Nat} {l : List Oper} {a : Act} {w : World} (dsts : List (Option Tmp)) (F : Nat → Value → World → Prop) (n : Nat) (T : (Nat → Value) → World → Prop) (hTc : ∀ γ γ' w, (∀ j, j < n → γ j = γ' j) → T γ w → T γ' w)
    (hF : ∀ j u w1 w2, F j u w1 → Below w1.heap.size w1 w2 → F j u w2)
    (hm : P.follows .mixedOrders = true) (hds : l.map (·.dst) = dsts) (hnd : nodupD dsts = true) (hng : (l.all fun o => o.guard.isNone) = true) (hord : ordGo 0 l = true) (hin : inD a.tmps.size dsts = true) (hn : l.length = n + 1)
    (step : StepAll (ValStep2 P Q w dsts F a n T) 0 l) (fin : ∀ γ w', T γ w' → Q .normal (Fr γ (fun _ => true) dsts 0 a) w') : (Code.region id l.toArray true).wp P Q a w := by
  refine wp_region_inv (Γ := Nat → Value) dsts (fun γ => γ) (fun γ L w' => (L n = false ∧ Below w.heap.size w w' ∧ ∀ j, L j = true → F j (γ j) w') ∨ (L n = true ∧ (∀ j, j < n → L j = true) ∧ T γ w')) hm hds hnd hng hord (fun _ => undef) (.inl ⟨rfl, (Below.refl _ _).drew, fun j h => by cases h⟩) ?_ ?_
  · have key : ∀ (l' : List Oper) (k : Nat), k + l'.length = n + 1 → StepAll (ValStep2 P Q w dsts F a n T) k l' → StepAll (fun i o => ∀ (γ : Nat → Value) (L : Nat → Bool) w', ((L n = false ∧ Below w.heap.size w w' ∧ ∀ j, L j = true → F j (γ j) w') ∨ (L n = true ∧ (∀ j, j < n → L j = true) ∧ T γ w')) → L i = false → (∀ j ∈ edgesOf o, L j = true) →
        o.wp P (Fr γ L dsts 0 a) w' (fun a' w'' => ∃ γ' : Nat → Value, (∀ j, L j = true → γ' j = γ j) ∧ a' = (Fr γ L dsts 0 a).put o.dst (γ' i) ∧ ((onL L i n = false ∧ Below w.heap.size w w'' ∧ ∀ j, onL L i j = true → F j (γ' j) w'') ∨ (onL L i n = true ∧ (∀ j, j < n → onL L i j = true) ∧ T γ' w''))) Q) k l' := by
      intro l'
      induction l' with
      | nil => intro _ _ _; trivial
      | cons o l' ih =>
        intro k hk hs
        refine ⟨?_, ih (k + 1) (by simp at hk; omega) hs.2⟩
        intro γ L w' hI hL hdep
        have hkn : k ≤ n := by simp at hk; omega
        have hln : L n = false := by
          cases e : L n with
          | false => rfl
          | true =>
            rcases hI with ⟨h, _⟩ | ⟨_, h, _⟩
            · rw [e] at h; cases h
            · by_cases hk2 : k = n
              · rw [hk2, e] at hL; cases hL
              · rw [h k (by omega)] at hL; cases hL
        obtain ⟨hb, hFs⟩ : Below w.heap.size w w' ∧ ∀ j, L j = true → F j (γ j) w' := by
          rcases hI with ⟨_, h⟩ | ⟨h, _⟩
          · exact h
          · rw [hln] at h; cases h
        have hSF : SlotF dsts γ a o (Fr γ L dsts 0 a) :=
          ⟨fun j hj t ht => Fr_get γ L t j (hdep j (List.contains_iff_mem.1 hj)) dsts 0 a hnd (Nat.zero_le _) (by simpa using ht) (inD_lt hin ht), fun t ht => Fr_old γ L t dsts 0 a ht⟩
        have hup : ∀ u, (fun j => if j = k then u else γ j) k = u := fun u => by simp
        have hkeep : ∀ u j, L j = true → (fun j => if j = k then u else γ j) j = γ j := fun u j hj => by
          by_cases e : j = k
          · rw [e, hL] at hj; cases hj
          · simp [e]
        rcases hs.1 with ⟨rfl, hall, hq⟩ | ⟨hne, hq⟩
        · have hd : ∀ j, j < k → L j = true := fun j hj => hdep j (List.contains_iff_mem.1 (List.all_eq_true.1 hall j (List.mem_range.2 hj)))
          refine Oper.wp_mono ?_ (hq _ w' γ hb (fun j hj => hFs j (hd j hj)) hSF)
          rintro a' w'' ⟨u, rfl, hT⟩
          refine ⟨fun j => if j = k then u else γ j, hkeep u, by rw [hup u], .inr ⟨onL_same, fun j hj => ?_, hTc γ _ _ (fun j hj => by simp [show ¬ j = k by omega]) hT⟩⟩
          simp [onL, hd j hj]
        · refine Oper.wp_mono ?_ (hq _ w' γ hb (fun j hj => hFs j (hdep j (List.contains_iff_mem.1 hj))) hSF)
          rintro a' w'' ⟨u, rfl, hbel, hFi⟩
          refine ⟨fun j => if j = k then u else γ j, hkeep u, by rw [hup u], .inl ⟨?_, bt hb hbel, fun j hj => ?_⟩⟩
          · have hne' : n ≠ k := fun e => by subst e; simp at hne
            rw [onL_ne hne', hln]
          · by_cases e : j = k
            · subst e
              rw [hup u]
              exact hFi
            · have hj' : L j = true := by rw [onL_ne e] at hj; exact hj
              rw [hkeep u j hj']
              exact hF j _ _ _ (hFs j hj') hbel
    exact key l 0 (by omega) step
  · rintro γ L w' hL hI
    rcases hI with ⟨h, _⟩ | ⟨_, _, h⟩
    · rw [hL n (by omega)] at h; cases h
    · exact fin γ w' h
end Go.Proofs.YtfebknplkbeblaaDoor
