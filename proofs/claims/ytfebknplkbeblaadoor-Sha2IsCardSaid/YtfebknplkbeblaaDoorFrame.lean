/- How arguments are opened: arrays of integers. -/
import Derived.Test.YtfebknplkbeblaaDoorRows
import Derived.Test.YtfebknplkbeblaaDoorBase
import Derived.ProofKit
import Derived.OpenShut
import Derived.ShutString
import Derived.ChangeOld
namespace Go.Proofs.YtfebknplkbeblaaDoor
open Go.ChangeShapes Go.WideShapes Go.ChangeAt Go.RowKit
set_option linter.unusedVariables false

theorem own : ownKnob Tryd.prog.godebug = none := by kernel_rfl
theorem laidOut : laidOutB Tryd.prog = true := by kernel_rfl

theorem okWide_arr {P : Program} {w : World} {r : Reach} {base n : Nat} {t e : TypeId} {v : Value} (ht : P.underlying t = some (.array n e)) (h : Value.okWide P w r base t v) : ∃ cs, v = .agg cs ∧ cs.size = P.cellsOf t := by
  simp only [Value.okWide, ht] at h
  obtain ⟨cs, h1, h2, _⟩ := h
  exact ⟨cs, h1, h2⟩

section
variable {H : Type} {enc : TypeId × Value → H} {P : Program} {w : World} {base : Nat} {spare : Nat → Bool} {held : Bool}
theorem open_arrInts {r : Reach} {b0 : Nat} {t e : TypeId} {n : Nat} {k : IntKind} {v : Value} {d : DataW H} {p : List MemPlace} (ht : P.underlying t = some (.array n e)) (he : P.underlying e = some (.int k)) (hce : P.cellsOf e = 1) (hct : P.cellsOf t = n)
    (hv : Value.okWide P w r b0 t v) (h : DataW.Trod enc P w base spare held t v d p) :
    ∃ zs : List Int, zs.length = n ∧ v = .agg (zs.map (Value.int k)).toArray ∧ ∀ z ∈ zs, (Lit.int k z).wf = true := by
  obtain ⟨cs, rfl, hsz⟩ := okWide_arr ht hv
  obtain ⟨fuel, hf⟩ := h
  obtain ⟨xs, m, _, _, hl, hxl, hg⟩ := DataW.trod_array ht hf
  have hcs : cs.toList.length = n := by rw [Array.length_toList, hsz, hct]
  have key : ∀ i, i < n → ∃ z, cs.toList[i]? = some (.int k z) ∧ (Lit.int k z).wf = true := by
    intro i hi
    have h1 := hg i hi
    rw [hce, Nat.mul_one] at h1
    have hval : (Value.agg cs).cells.toList = cs.toList := by simp [Value.cells]
    have hdr : (((Value.agg cs).cells.toList).drop i).take 1 = [cs.toList[i]'(by omega)] := by
      rw [hval, List.drop_eq_getElem_cons (by omega)]
      rfl
    rw [hdr, List.getElem?_eq_getElem (by omega)] at h1
    obtain ⟨z, hz1, _, hz3⟩ := DataW.trod_int he h1
    exact ⟨z, by rw [List.getElem?_eq_getElem (by omega)]; simpa using hz1, hz3⟩
  refine ⟨cs.toList.map fun v => match v with | .int _ z => z | _ => 0, by simpa using hcs, ?_, ?_⟩
  · congr 1
    apply Array.ext'
    apply List.ext_getElem
    · simp
    · intro i h1 h2
      obtain ⟨z, hz, _⟩ := key i (by omega)
      rw [List.getElem?_eq_getElem h1] at hz
      have hz' : cs.toList[i] = .int k z := by simpa using hz
      simp only [List.getElem_map]
      rw [hz']
  · intro z hz
    obtain ⟨v, hv, rfl⟩ := List.mem_map.1 hz
    obtain ⟨i, hi, rfl⟩ := List.mem_iff_getElem.1 hv
    obtain ⟨z, hz, hw⟩ := key i (by omega)
    rw [List.getElem?_eq_getElem hi] at hz
    have hz' : cs.toList[i] = .int k z := by simpa using hz
    rw [hz']
    exact hw
end

theorem uval_of (zs : List Int) (h4 : zs.length = 4) (hw : ∀ z ∈ zs, (Lit.int .u64 z).wf = true) : ∃ m, m < T ∧ Value.agg (zs.map (Value.int .u64)).toArray = uval m := by
  match zs, h4 with
  | [a, b, c, d], _ =>
    have key : ∀ z ∈ [a, b, c, d], ∃ n : Nat, z = n ∧ n < W64 := by
      intro z hz
      have := hw z hz
      simp [Lit.wf, IntKind.min, IntKind.max, IntKind.signed, IntKind.bits] at this
      exact ⟨z.toNat, by omega, by unfold W64; omega⟩
    obtain ⟨a0, rfl, h0⟩ := key a (by simp)
    obtain ⟨a1, rfl, h1⟩ := key b (by simp)
    obtain ⟨a2, rfl, h2⟩ := key c (by simp)
    obtain ⟨a3, rfl, h3⟩ := key d (by simp)
    obtain ⟨e0, e1, e2, e3, hT⟩ := lim_of a0 a1 a2 a3 h0 h1 h2 h3
    exact ⟨_, hT, by simp [uval, e0, e1, e2, e3]⟩
end Go.Proofs.YtfebknplkbeblaaDoor
