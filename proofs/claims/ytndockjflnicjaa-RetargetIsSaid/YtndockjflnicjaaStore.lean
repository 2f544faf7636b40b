/- A region whose order is open and that fills several old blocks, each once. -/
import Derived.Test.YtndockjflnicjaaInv
namespace Go.Proofs.Ytndockjflnicjaa
open Go.RowKit
set_option linter.unusedVariables false

/-- i: the operation that fills block g; t: its type; z, c: its cells before and behind. -/
structure SB where
  i : Nat
  g : Nat
  t : TypeId
  z : Array Value
  c : Array Value
def Kept (w w' : World) (sts : List SB) : Prop := ∀ k, k < w.heap.size → (∀ s, s ∈ sts → s.g ≠ k) → w'.heap[k]? = w.heap[k]?
theorem Kept.blk {w w' : World} {sts : List SB} (h : Kept w w' sts) {g : Nat} {t : TypeId} {cs : Array Value} (hb : Blk w g t cs) (hne : (sts.all fun s => !Nat.beq s.g g) = true ∨ ∀ s, s ∈ sts → s.g ≠ g) : Blk w' g t cs := by
  refine (h g hb.lt ?_).trans hb
  rcases hne with hne | hne
  · intro s hs
    have := List.all_eq_true.1 hne s hs
    exact Nat.ne_of_beq_eq_false (by simpa using this)
  · exact hne
def StI (B : Nat) (w : World) (sts : List SB) (L : Nat → Bool) (w' : World) : Prop :=
  Below B w w' ∧ w.heap.size ≤ w'.heap.size ∧ Kept w w' sts ∧ ∀ s, s ∈ sts → Blk w' s.g s.t (if L s.i then s.c else s.z)
section
variable {B : Nat} {w w' w'' : World} {sts : List SB} {L : Nat → Bool} {i : Nat}
theorem StI.quiet (h : StI B w sts L w') (hi : (sts.all fun s => !Nat.beq s.i i) = true) (hb : Below w'.heap.size w' w'') (hB : B ≤ w.heap.size) : StI B w sts (onL L i) w'' := by
  obtain ⟨h1, h2, h3, h4⟩ := h
  refine ⟨h1.trans (hb.mono (by omega)), Nat.le_trans h2 hb.size, fun k hk hs => ?_, fun s hs => ?_⟩
  · rw [hb.block k (by omega)]
    exact h3 k hk hs
  · have e : s.i ≠ i := by have := List.all_eq_true.1 hi s hs; exact Nat.ne_of_beq_eq_false (by simpa using this)
    rw [onL_ne e]
    exact (h4 s hs).calls hb
theorem StI.store (h : StI B w sts L w') (hnd : (sts.map (·.i)).Nodup) (hgd : (sts.map (·.g)).Nodup) {s : SB} (hs : s ∈ sts) (hi : s.i = i) (hB : B ≤ s.g) : StI B w sts (onL L i) (w'.setRow s.g s.c) := by
  obtain ⟨h1, h2, h3, h4⟩ := h
  refine ⟨setRow_below h1 hB _, by simpa [World.setRow] using h2, fun k hk hne => ?_, fun r hr => ?_⟩
  · have : s.g ≠ k := hne s hs
    rw [← h3 k hk hne]
    simp [World.setRow, Array.getElem?_modify, this]
  · by_cases e : r.i = i
    · have : r = s := inj_nodup hnd hr hs (e.trans hi.symm)
      subst this
      rw [e, onL_same]
      exact (h4 r hr).row _
    · rw [onL_ne e]
      have : r.g ≠ s.g := fun hg => e ((inj_nodup hgd hr hs hg) ▸ hi)
      exact (h4 r hr).rowFar this _
end
def StStep (P : Program) (Q : Exit → Act → World → Prop) (B : Nat) (w0 : World) (sts : List SB) (dsts : List (Option Tmp)) (vals : Nat → Value) (a0 : Act) (i : Nat) (o : Oper) : Prop :=
  ((sts.all fun s => !Nat.beq s.i i) = true ∧ ∀ (A : Act) w', Below B w0 w' → Kept w0 w' sts → w0.heap.size ≤ w'.heap.size → SlotF dsts vals a0 o A → o.wp P A w' (fun a' w'' => a' = A.put o.dst (vals i) ∧ Below w'.heap.size w' w'') Q) ∨
  (∃ s, s ∈ sts ∧ s.i = i ∧ vals i = undef ∧ ∃ ty x y, o.op = .store ty x y ∧ (∀ A, SlotF dsts vals a0 o A → A.eval x = .pointer (some ⟨s.g, 0, none⟩) ∧ A.eval y = .agg s.c) ∧ (P.info? ty).map (·.size) = some s.c.size ∧ s.z.size = s.c.size ∧ s.c.all (·.oneCell') = true ∧ B ≤ s.g)
theorem wp_region_st {P : Program} {Q : Exit → Act → World → Prop} {id : Nat} {l : List Oper} {a : Act} {w : World} (B : Nat) (dsts : List (Option Tmp)) (sts : List SB) (vals : Nat → Value) (hB : B ≤ w.heap.size)
    (hm : P.follows .mixedOrders = true) (hds : l.map (·.dst) = dsts) (hnd : nodupD dsts = true) (hng : (l.all fun o => o.guard.isNone) = true) (hord : ordGo 0 l = true) (hin : inD a.tmps.size dsts = true)
    (hsi : nodupB (sts.map (·.i)) = true) (hsg : (sts.map (·.g)).Nodup) (hlen : (sts.all fun s => Nat.blt s.i l.length) = true) (h0 : ∀ s, s ∈ sts → Blk w s.g s.t s.z)
    (step : StepAll (StStep P Q B w sts dsts vals a) 0 l)
    (fin : ∀ w', Below B w w' → w.heap.size ≤ w'.heap.size → Kept w w' sts → (∀ s, s ∈ sts → Blk w' s.g s.t s.c) → Q .normal (Fr vals (fun _ => true) dsts 0 a) w') : (Code.region id l.toArray true).wp P Q a w := by
  refine wp_region_inv (Γ := Unit) dsts (fun _ => vals) (fun _ L w' => StI B w sts L w') hm hds hnd hng hord () ?_ ?_ ?_
  · exact ⟨(Below.refl B w).drew, Nat.le_refl _, fun _ _ _ => rfl, fun s hs => by simpa using (h0 s hs).drew⟩
  · refine StepAll.imp ?_ step
    rintro i o hst γ L w' hI hL hdep
    have hSF : SlotF dsts vals a o (Fr vals L dsts 0 a) :=
      ⟨fun j hj t ht => Fr_get vals L t j (hdep j (List.contains_iff_mem.1 hj)) dsts 0 a hnd (Nat.zero_le _) (by simpa using ht) (inD_lt hin ht), fun t ht => Fr_old vals L t dsts 0 a ht⟩
    rcases hst with ⟨hq, hw⟩ | ⟨s, hs, hi, hv, ty, x, y, ho, hxy, h1, h2, h3, h4⟩
    · refine Oper.wp_mono ?_ (hw _ w' hI.1 hI.2.2.1 hI.2.1 hSF)
      rintro a' w'' ⟨rfl, hb⟩
      exact ⟨(), fun _ _ => rfl, rfl, hI.quiet hq hb hB⟩
    · obtain ⟨hx, hy⟩ := hxy _ hSF
      have hb : Blk w' s.g s.t s.z := by have hb := hI.2.2.2 s hs; rw [hi, hL] at hb; exact hb
      refine wp_store_row ty x y ho s.g s.c hx hy s.t s.z hb h1 h2 h3 ⟨(), fun _ _ => rfl, ?_, hI.store (nodupB_spec hsi) hsg hs hi h4⟩
      rw [hv]
  · rintro γ L w' hL ⟨h1, h2, h3, h4⟩
    refine fin w' h1 h2 h3 fun s hs => ?_
    have := h4 s hs
    have hl := List.all_eq_true.1 hlen s hs
    simp only [Nat.blt_eq] at hl
    rw [hL _ hl] at this
    exact this
end Go.Proofs.Ytndockjflnicjaa
