/- A region whose order is open, that loads one old block and fills it behind the load: 'x, _ = F(x, ..)'. -/
import Derived.Test.YtndockjflnicjaaStore
namespace Go.Proofs.Ytndockjflnicjaa
open Go.RowKit
set_option linter.unusedVariables false
/-- What holds as the region goes on: the block g holds z till the operation s has filled it; the chain's later ones are done only behind the earlier ones. -/
def OneI (B : Nat) (w : World) (g : Nat) (t : TypeId) (z c : Array Value) (s : Nat) (ch : List (Nat × Nat)) (L : Nat → Bool) (w' : World) : Prop :=
  StI B w [⟨s, g, t, z, c⟩] L w' ∧ ∀ p ∈ ch, L p.2 = true → L p.1 = true
/-- From the chain: if the first is not done, the last is not. -/
def chainEnd : Nat → List (Nat × Nat) → Nat → Bool
  | k, [], s => k == s
  | k, (a, b) :: r, s => k == a && chainEnd b r s
theorem chain_not {L : Nat → Bool} : ∀ (ch : List (Nat × Nat)) (k s : Nat), chainEnd k ch s = true → (∀ p ∈ ch, L p.2 = true → L p.1 = true) → L k = false → L s = false
  | [], k, s, h, _, hk => by
    have : k = s := by simpa [chainEnd] using h
    rw [← this]; exact hk
  | (a, b) :: r, k, s, h, hc, hk => by
    simp only [chainEnd, Bool.and_eq_true, beq_iff_eq] at h
    obtain ⟨rfl, h⟩ := h
    refine chain_not r b s h (fun p hp => hc p (List.mem_cons_of_mem _ hp)) ?_
    cases hb : L b with
    | false => rfl
    | true => exact absurd (hc (k, b) List.mem_cons_self hb) (by rw [hk]; simp)
theorem chain_on {L : Nat → Bool} {ch : List (Nat × Nat)} {i : Nat} {e : List Nat} (h : ∀ p ∈ ch, L p.2 = true → L p.1 = true) (he : ∀ p ∈ ch, p.2 = i → L p.1 = true) : ∀ p ∈ ch, onL L i p.2 = true → onL L i p.1 = true := by
  intro p hp h2
  have key : L p.1 = true := by
    by_cases hi : p.2 = i
    · exact he p hp hi
    · rw [onL_ne hi] at h2
      exact h p hp h2
  by_cases h1 : p.1 = i
  · rw [h1, onL_same]
  · rw [onL_ne h1]; exact key
theorem wp_region_one {P : Program} {Q : Exit → Act → World → Prop} {id : Nat} {l : List Oper} {a : Act} {w : World} (B : Nat) (dsts : List (Option Tmp)) (g : Nat) (t : TypeId) (z c : Array Value) (s : Nat) (ch : List (Nat × Nat)) (vals : Nat → Value) (hB : B ≤ w.heap.size)
    (hm : P.follows .mixedOrders = true) (hds : l.map (·.dst) = dsts) (hnd : nodupD dsts = true) (hng : (l.all fun o => o.guard.isNone) = true) (hord : ordGo 0 l = true) (hin : inD a.tmps.size dsts = true)
    (hlen : Nat.blt s l.length = true) (h0 : Blk w g t z)
    (step : StepAll (fun i o => (ch.all fun p => !Nat.beq p.2 i || (edgesOf o).contains p.1) = true ∧
      ((Nat.beq s i = false ∧ ∀ (A : Act) w', Below B w w' → Kept w w' [⟨s, g, t, z, c⟩] → (chainEnd i ch s = true → Blk w' g t z) → SlotF dsts vals a o A → o.wp P A w' (fun a' w'' => a' = A.put o.dst (vals i) ∧ Below w'.heap.size w' w'') Q) ∨
       (s = i ∧ vals i = undef ∧ ∃ ty x y, o.op = .store ty x y ∧ (∀ A, SlotF dsts vals a o A → A.eval x = .pointer (some ⟨g, 0, none⟩) ∧ A.eval y = .agg c) ∧ (P.info? ty).map (·.size) = some c.size ∧ z.size = c.size ∧ c.all (·.oneCell') = true ∧ B ≤ g))) 0 l)
    (fin : ∀ w', Below B w w' → w.heap.size ≤ w'.heap.size → Kept w w' [⟨s, g, t, z, c⟩] → Blk w' g t c → Q .normal (Fr vals (fun _ => true) dsts 0 a) w') : (Code.region id l.toArray true).wp P Q a w := by
  refine wp_region_inv (Γ := Unit) dsts (fun _ => vals) (fun _ L w' => OneI B w g t z c s ch L w') hm hds hnd hng hord () ?_ ?_ ?_
  · exact ⟨⟨(Below.refl B w).drew, Nat.le_refl _, fun _ _ _ => rfl, fun r hr => by obtain rfl := List.mem_singleton.1 hr; simpa using h0.drew⟩, fun p _ h => by cases h⟩
  · refine StepAll.imp ?_ step
    rintro i o ⟨hed, hst⟩ γ L w' ⟨hI, hc⟩ hL hdep
    have hSF : SlotF dsts vals a o (Fr vals L dsts 0 a) :=
      ⟨fun j hj t ht => Fr_get vals L t j (hdep j (List.contains_iff_mem.1 hj)) dsts 0 a hnd (Nat.zero_le _) (by simpa using ht) (inD_lt hin ht), fun t ht => Fr_old vals L t dsts 0 a ht⟩
    have hc' : ∀ p ∈ ch, onL L i p.2 = true → onL L i p.1 = true := chain_on (e := []) hc fun p hp hpi => by
      have := List.all_eq_true.1 hed p hp
      rw [hpi] at this
      simp only [Nat.beq_refl, Bool.not_true, Bool.false_or] at this
      exact hdep _ (List.contains_iff_mem.1 this)
    rcases hst with ⟨hq, hw⟩ | ⟨hi, hv, ty, x, y, ho, hxy, h1, h2, h3, h4⟩
    · refine Oper.wp_mono ?_ (hw _ w' hI.1 hI.2.2.1 (fun he => ?_) hSF)
      · rintro a' w'' ⟨rfl, hb⟩
        exact ⟨(), fun _ _ => rfl, rfl, hI.quiet (by simpa using hq) hb hB, hc'⟩
      · have hls := chain_not ch i s he hc hL
        have hb := hI.2.2.2 _ List.mem_cons_self
        rw [hls] at hb
        exact hb
    · obtain ⟨hx, hy⟩ := hxy _ hSF
      have hb : Blk w' g t z := by have hb := hI.2.2.2 _ List.mem_cons_self; rw [hi, hL] at hb; exact hb
      refine wp_store_row ty x y ho g c hx hy t z hb h1 h2 h3 ⟨(), fun _ _ => rfl, ?_, hI.store (by simp) (by simp) List.mem_cons_self hi h4, hc'⟩
      rw [hv]
  · rintro γ L w' hL ⟨⟨h1, h2, h3, h4⟩, _⟩
    have := h4 _ List.mem_cons_self
    simp only [Nat.blt_eq] at hlen
    rw [hL _ hlen] at this
    exact fin w' h1 h2 h3 this
end Go.Proofs.Ytndockjflnicjaa
