/- How arguments are opened: slices of bytes, strings; hashes. -/
import Derived.Test.YtfebknplkbeblaaDoorFrame
import Derived.Test.YtfebknplkbeblaaDoorShaH
import Derived.ChangeSlices
namespace Go.Proofs.YtfebknplkbeblaaDoor
open Go.ChangeShapes Go.WideShapes Go.ChangeAt Go.RowKit
set_option linter.unusedVariables false

theorem spot_none {w : World} {a : Addr} {v : Value} (h : w.cell? a = some v) : a = ⟨a.block, a.off, none⟩ ∧ a.block < w.heap.size := by
  obtain ⟨b, o, s⟩ := a
  unfold World.cell? at h
  cases hb : w.heap[b]? with
  | none => rw [hb] at h; cases h
  | some ob =>
    have hlt : b < w.heap.size := (Array.getElem?_eq_some_iff.1 hb).1
    rw [hb] at h
    cases s with
    | none => exact ⟨rfl, hlt⟩
    | some k =>
      cases ob <;> simp at h
theorem u8_of (n : Int) (h : (Lit.int .u8 n).wf = true) : n = ((UInt8.ofNat n.toNat).toNat : Int) := by
  simp [Lit.wf, IntKind.min, IntKind.max, IntKind.signed, IntKind.bits] at h
  simp
  omega
theorem hash_of (zs : List Int) (h : zs.length = 32) (hw : ∀ z ∈ zs, (Lit.int .u8 z).wf = true) : ∃ l : List UInt8, l.length = 32 ∧ Value.agg (zs.map (Value.int .u8)).toArray = .agg (u8cells l) := by
  refine ⟨zs.map fun z => UInt8.ofNat z.toNat, by simp [h], ?_⟩
  congr 1
  apply Array.ext
  · simp [u8cells]
  · intro i h1 h2
    have hi : i < zs.length := by simpa using h1
    have := hw (zs[i]) (List.getElem_mem hi)
    simp [Lit.wf, IntKind.min, IntKind.max, IntKind.signed, IntKind.bits] at this
    simp [u8cells]
    omega
theorem open_bytes {H : Type} {enc : TypeId × Value → H} {P : Program} {w : World} {r : Reach} {b0 : Nat} {t e : TypeId} {v : Value} {d : DataW H} {p : List MemPlace} (ht : P.underlying t = some (.slice e)) (he : P.underlying e = some (.int .u8)) (hc : P.cellsOf e = 1) (hby : P.bytesOf e = 1)
    (hv : Value.okWide P w r b0 t v) (h : DataW.Trod enc P w 0 (fun _ => true) true t v d p) (hwt : (DataW.weights P t d).all (· ≤ reachBytes) = true) :
    ∃ (a : Option Addr) (n c : Nat) (l : List UInt8), v = .slice a n c ∧ l.length = n ∧ n ≤ c ∧ c ≤ 140737488355328 ∧ (a = none → n = 0 ∧ c = 0) ∧ RdS w a l := by
  obtain ⟨a0, len, cap, rfl⟩ := okWide_slice ht hv
  obtain ⟨fuel, hf⟩ := h
  rcases open_ints ht he hc hf with ⟨hcs, hx⟩ | ⟨a, len', cap', zs, hcs, _, hl, hm, hz, hx, hcell, hwz⟩
  · simp [Value.cells] at hcs
    obtain ⟨rfl, rfl, rfl⟩ := hcs
    exact ⟨none, 0, 0, [], rfl, rfl, Nat.le_refl _, by omega, fun _ => ⟨rfl, rfl⟩, .inl rfl⟩
  · simp [Value.cells] at hcs
    obtain ⟨rfl, rfl, rfl⟩ := hcs
    simp only [if_true] at hz
    simp only [Prod.mk.injEq] at hx
    obtain ⟨rfl, rfl⟩ := hx
    have hcap : cap ≤ 140737488355328 := by
      simp only [DataW.weights, ht, List.all_cons, Bool.and_eq_true, decide_eq_true_eq] at hwt
      have h1 := hwt.1
      rw [hby, Nat.mul_one] at h1
      have e1 : (lits (H := H) IntKind.u8 (zs.take len)).length + (lits (H := H) IntKind.u8 (zs.drop len)).length = cap := by
        simp [lits]; omega
      rw [e1] at h1
      unfold reachBytes at h1
      omega
    have hlz : len ≤ zs.length := by rw [hz]; exact hl
    refine ⟨some a, len, cap, (zs.take len).map fun z => UInt8.ofNat z.toNat, rfl, by simp; omega, hl, hcap, fun h => (by cases h), ?_⟩
    by_cases h0 : len = 0
    · left
      subst h0
      rfl
    · right
      have hc0 := hcell 0 (by omega)
      obtain ⟨e1, e2⟩ := spot_none (w := w) (a := a) (by simpa [Addr.add] using hc0)
      refine ⟨a.block, a.off, by rw [← e1], e2, fun i hi => ?_⟩
      have hi' : i < len := by simp at hi; omega
      have hci := hcell i (by omega)
      have ea : a.add i = ⟨a.block, a.off + i, none⟩ := by
        unfold Addr.add
        split
        · rename_i h; subst h; exact e1
        · rfl
      rw [ea] at hci
      rw [hci]
      have hzi : zs.getD i 0 = zs[i]'(by omega) := by simp [List.getD, List.getElem?_eq_getElem (show i < zs.length by omega)]
      have hgd : (((zs.take len).map fun z => UInt8.ofNat z.toNat).getD i 0) = UInt8.ofNat (zs[i]'(by omega)).toNat := by
        rw [List.getD, List.getElem?_map, List.getElem?_take_of_lt hi', List.getElem?_eq_getElem (by omega)]
        rfl
      rw [hgd, hzi, ← u8_of _ (hwz _ (List.getElem_mem _))]
end Go.Proofs.YtfebknplkbeblaaDoor
