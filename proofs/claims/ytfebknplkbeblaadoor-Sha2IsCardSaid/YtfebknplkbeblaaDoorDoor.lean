/- The frame of a law whose functions read SHA-256's tables: what is laid, and a world in which it is. -/
import Derived.Test.YtfebknplkbeblaaDoorFrame
import Derived.Test.YtfebknplkbeblaaDoorShaC
import Derived.Test.YtfebknplkbeblaaDoorTie
import Derived.Test.YtfebknplkbeblaaDoorCards
import Derived.ChangeVars
import Derived.FnData
import Derived.Deep.DeepHandedRow
import Derived.Lib.LaidTab
import Derived.JoinedOf
import Derived.ChangeSame
namespace Go.Proofs.YtfebknplkbeblaaDoor
open Go.ChangeShapes Go.WideShapes Go.ChangeAt Go.RowKit
set_option linter.unusedVariables false

def KZ : List Int := KC.map fun x => (wn x : Int)
def HZ : List Int := HI.map fun x => (wn x : Int)
theorem laid_K : (Rows.laid_florin_sha2_constants : DataW Unit) = .agg (KZ.map fun z => .lit (.int .u32 z)) := by kernel_rfl
theorem laid_H : (Rows.laid_florin_sha2_initials : DataW Unit) = .agg (HZ.map fun z => .lit (.int .u32 z)) := by kernel_rfl
theorem gK : Tryd.prog.globalNamed "florin/sha2.constants" = some 0 := by kernel_rfl
theorem gH : Tryd.prog.globalNamed "florin/sha2.initials" = some 1 := by kernel_rfl
theorem gKt : (Tryd.prog.globals[0]?).map (·.type) = some 79 := by kernel_rfl
theorem gHt : (Tryd.prog.globals[1]?).map (·.type) = some 25 := by kernel_rfl

theorem ints_laid {H : Type} {enc : TypeId × Value → H} {P : Program} {w : World} {base : Nat} {spare : Nat → Bool} {held : Bool} {fuel n : Nat} {t e : TypeId} {k : IntKind} {cs : List Value} {p : List MemPlace} (ht : P.underlying t = some (.array n e)) (he : P.underlying e = some (.int k)) (hce : P.cellsOf e = 1) (hct : P.cellsOf t = n)
    (zs : List Int) (h : DataW.trod enc P w base spare held fuel t cs = some (.agg (zs.map fun z => .lit (.int k z)), p)) : cs = zs.map (Value.int k) := by
  obtain ⟨xs, m, _, hx, hl, hxl, hg⟩ := DataW.trod_array ht h
  have hx1 : (zs.map fun z => (DataW.lit (.int k z) : DataW H)) = xs.map (·.1) := by
    have := congrArg Prod.fst hx
    simpa using this
  have hzl : zs.length = n := by
    have := congrArg List.length hx1
    simpa [hxl] using this
  apply List.ext_getElem
  · rw [hl, hct, List.length_map, hzl]
  · intro i h1 h2
    have hi : i < n := by rw [hl, hct] at h1; exact h1
    have hgi := hg i hi
    rw [hce, Nat.mul_one, List.drop_eq_getElem_cons h1, List.getElem?_eq_getElem (by omega)] at hgi
    obtain ⟨z, hz1, hz2, _⟩ := DataW.trod_int he hgi
    have hz1' : cs[i] = .int k z := by
      have h3 : [cs[i]] = [.int k z] := hz1
      injection h3
    have hxi : (xs.map (·.1))[i]? = some (.lit (.int k z)) := by
      rw [List.getElem?_map, List.getElem?_eq_getElem (by omega), hz2]
      rfl
    rw [← hx1, List.getElem?_map, List.getElem?_eq_getElem (by omega)] at hxi
    have hzz : zs[i] = z := by simpa using hxi
    rw [hz1', List.getElem_map, hzz]
abbrev laidRows : List (String × DataW Unit) := [("florin/sha2.constants", Rows.laid_florin_sha2_constants), ("florin/sha2.initials", Rows.laid_florin_sha2_initials)]
abbrev cellsK : Array Value := (KZ.map (Value.int .u32)).toArray
abbrev cellsH : Array Value := (HZ.map (Value.int .u32)).toArray
theorem rows_of_laid {W : World} (h : laidMet Tryd.prog laidRows W) : W.var? Tryd.prog "florin/sha2.constants" = some cellsK ∧ W.var? Tryd.prog "florin/sha2.initials" = some cellsH := by
  obtain ⟨ps, ⟨g, t, cs, fuel, p, q, hg, ht, hvar, hd, ⟨g2, t2, cs2, fuel2, p2, q2, hg2, ht2, hvar2, hd2, _, _⟩, _⟩, _⟩ := h
  obtain rfl := Option.some.inj (gK.symm.trans hg)
  obtain rfl := Option.some.inj (gKt.symm.trans ht)
  obtain rfl := Option.some.inj (gH.symm.trans hg2)
  obtain rfl := Option.some.inj (gHt.symm.trans ht2)
  rw [laid_K] at hd
  rw [laid_H] at hd2
  have e1 := ints_laid Tryd.underlying79 Tryd.underlying24 (by kernel_rfl) (by kernel_rfl) KZ hd
  have e2 := ints_laid Tryd.underlying25 Tryd.underlying24 (by kernel_rfl) (by kernel_rfl) HZ hd2
  refine ⟨by rw [hvar]; congr 1; exact Array.ext' e1, by rw [hvar2]; congr 1; exact Array.ext' e2⟩
theorem laid_of_rows {W : World} (h : W.var? Tryd.prog "florin/sha2.constants" = some cellsK ∧ W.var? Tryd.prog "florin/sha2.initials" = some cellsH) : Laid W := by
  refine ⟨fun i hi => ?_, fun i hi => ?_⟩
  · rw [World.var?_cell gK h.1 i]
    have : i < KC.length := hi
    simp [KZ, this]
  · rw [World.var?_cell gH h.2 i]
    have : i < HI.length := hi
    simp [HZ, this]
theorem laidMet_of_H {W : World} (h : laidMetH Tryd.prog laidRows W) : laidMet Tryd.prog laidRows W := h
theorem Laid_of {W : World} (h : laidMetH Tryd.prog laidRows W) : Laid W := laid_of_rows (rows_of_laid (laidMet_of_H h))

def layCells (c : Array Value) : Obj → Obj
  | .cells _ t frozen => .cells c t frozen
  | o => o
/-- A world in which both tables are laid. -/
noncomputable def laidWorld (os : Os) : World :=
  { World.holding Tryd.prog os ⟨#[], #[], []⟩ with heap := ((World.holding Tryd.prog os ⟨#[], #[], []⟩).heap.modify 0 (layCells cellsK)).modify 1 (layCells cellsH) }
/-- What every card of this seat asks besides. -/
theorem plain_of {name : String} {f0 : FuncId} {fn0 : Func} (hn : Tryd.prog.funcNamed name = some f0) (h0 : Tryd.prog.funcs[f0]? = some fn0) (hp : (fn0.params.toList.all fun t => !Tryd.prog.wantsStandIn t) = true) (f : FuncId) (fn : Func) (hf : Tryd.pinned.checked.prog.funcNamed name = some f) (hfn : Tryd.pinned.checked.prog.funcs[f]? = some fn) :
    false = Tryd.pinned.checked.prog.looks [] ∧ ∀ (j : Nat) t, fn.params[j]? = some t → Tryd.pinned.checked.prog.wantsStandIn t = false := by
  obtain rfl : f = f0 := Option.some.inj (hn.symm.trans hf) |>.symm
  obtain rfl : fn = fn0 := (Option.some.inj (h0.symm.trans hfn)).symm
  refine ⟨by kernel_rfl, fun j t ht => ?_⟩
  have h := List.all_eq_true.1 hp t (by simpa using Array.mem_of_getElem? ht)
  have h' : Tryd.prog.wantsStandIn t = false := by simpa using h
  exact h'
end Go.Proofs.YtfebknplkbeblaaDoor
