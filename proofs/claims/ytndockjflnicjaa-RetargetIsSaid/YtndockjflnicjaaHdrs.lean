/- Rows of headers: read, opened. -/
import Derived.Test.YtndockjflnicjaaArgsP
import Derived.Deep.MidRow
import Derived.Deep.Slices
namespace Go.Proofs.Ytndockjflnicjaa
open Go.ChangeShapes Go.WideShapes Go.ChangeAt Go.RowKit Go.Deep
set_option linter.unusedVariables false
/-- The cells of a header. -/
def HdOk (r : List Value) : Prop := r.length = 68 ∧ (∀ v ∈ r, v.oneCell' = true) ∧ ∃ ti bi : Nat, ti < 4294967296 ∧ bi < 4294967296 ∧ r[65]? = some (.int .u32 ti) ∧ r[66]? = some (.int .u32 bi)
/-- A row of headers is read from a on. -/
def RdH (w : World) (a : Option Addr) (l : List (List Value)) : Prop := l = [] ∨ ∃ b o, a = some ⟨b, o, none⟩ ∧ b < w.heap.size ∧ ∀ (i : Nat) (r : List Value), l[i]? = some r → w.rangeAt b (o + i * 68) r
theorem rangeAt_below {B : Nat} {w w' : World} {b o : Nat} {r : List Value} (h : w.rangeAt b o r) (hb : Below B w w') (hB : b < B) : w'.rangeAt b o r := fun j v hv => by
  rw [hb.cell (p := ⟨b, o + j, none⟩) hB]
  exact h j v hv
theorem RdH.below {B : Nat} {w w' : World} {a : Option Addr} {l : List (List Value)} (h : RdH w a l) (hb : Below B w w') (hB : w.heap.size ≤ B) : RdH w' a l := by
  rcases h with h | ⟨b, o, h1, h2, h3⟩
  · exact .inl h
  · exact .inr ⟨b, o, h1, Nat.lt_of_lt_of_le h2 hb.size, fun i r hr => rangeAt_below (h3 i r hr) hb (Nat.lt_of_lt_of_le h2 hB)⟩
theorem spotH {w : World} {a : Addr} {v : Value} (h : w.cell? a = some v) : a = ⟨a.block, a.off, none⟩ ∧ a.block < w.heap.size := by
  obtain ⟨b, o, s⟩ := a
  unfold World.cell? at h
  cases hb : w.heap[b]? with
  | none => rw [hb] at h; cases h
  | some ob =>
    have hlt : b < w.heap.size := (Array.getElem?_eq_some_iff.1 hb).1
    rw [hb] at h
    cases s with
    | none => exact ⟨rfl, hlt⟩
    | some k =>
      cases ob <;> simp at h
section
variable {H : Type} {enc : TypeId × Value → H} {w : World} {sp : Nat → Bool} {held : Bool}
theorem fld_int {u : TypeId} {k : IntKind} {n off : Nat} {cs : List Value} {y : DataW H × List MemPlace} (hu : Try.prog.underlying u = some (.int k)) (hc : Try.prog.cellsOf u = 1) (hl : off < cs.length) (h : DataW.trod enc Try.prog w 0 sp held n u ((cs.drop off).take (Try.prog.cellsOf u)) = some y) :
    ∃ z, cs[off]? = some (.int k z) ∧ (Lit.int k z).wf = true := by
  rw [hc, List.drop_eq_getElem_cons hl] at h
  obtain ⟨z, hz1, _, hz3⟩ := DataW.trod_int hu (show DataW.trod enc Try.prog w 0 sp held n u [cs[off]] = some y from h)
  exact ⟨z, by rw [List.getElem?_eq_getElem hl]; simpa using hz1, hz3⟩
theorem fld_hash {n off : Nat} {cs : List Value} {y : DataW H × List MemPlace} (hl : off + 32 ≤ cs.length) (h : DataW.trod enc Try.prog w 0 sp held n 27 ((cs.drop off).take (Try.prog.cellsOf 27)) = some y) :
    ∀ j, j < 32 → ∃ z, cs[off + j]? = some (.int .u8 z) := by
  intro j hj
  have hc : Try.prog.cellsOf 27 = 32 := by kernel_rfl
  have hc8 : Try.prog.cellsOf 5 = 1 := by kernel_rfl
  obtain ⟨xs, m, _, _, h1, h2, hg⟩ := DataW.trod_array Try.underlying27 h
  have h3 := hg j hj
  rw [hc8, Nat.mul_one, hc] at h3
  have e : (((cs.drop off).take 32).drop j).take 1 = [cs[off + j]'(by omega)] := by
    apply List.ext_getElem?
    intro i
    cases i with
    | zero => simp [List.getElem?_take, List.getElem?_drop, hj, List.getElem?_eq_getElem (show off + j < cs.length by omega)]
    | succ i => simp [List.getElem?_take]
  rw [e, List.getElem?_eq_getElem (by omega)] at h3
  obtain ⟨z, hz1, _, _⟩ := DataW.trod_int Try.underlying5 h3
  exact ⟨z, by rw [List.getElem?_eq_getElem (by omega)]; simpa using hz1⟩
set_option maxRecDepth 100000 in
theorem hdr_ok {n : Nat} {cs : List Value} {x : DataW H × List MemPlace} (h : DataW.trod enc Try.prog w 0 sp held n 29 cs = some x) : HdOk cs := by
  obtain ⟨xs, k, _, rfl, hl, hlen, hf⟩ := DataW.trod_struct Try.underlying29 h
  have hl68 : cs.length = 68 := hl.trans (by kernel_rfl)
  have hlen6 : xs.length = 6 := hlen
  have hx : ∀ (i : Nat) (hi : i < 6), xs[i]? = some (xs[i]'(by omega)) := fun i hi => List.getElem?_eq_getElem (by omega)
  have c32 : Try.prog.cellsOf 22 = 1 := by kernel_rfl
  obtain ⟨z0, a0, w0⟩ := fld_int (cs := cs) (off := 0) Try.underlying22 c32 (by omega) ((hf 0 _ rfl).trans (hx 0 (by omega)))
  have h1 := fld_hash (cs := cs) (off := 1) (by omega) ((hf 1 _ rfl).trans (hx 1 (by omega)))
  have h2 := fld_hash (cs := cs) (off := 33) (by omega) ((hf 2 _ rfl).trans (hx 2 (by omega)))
  obtain ⟨z3, a3, w3⟩ := fld_int (cs := cs) (off := 65) Try.underlying22 c32 (by omega) ((hf 3 _ rfl).trans (hx 3 (by omega)))
  obtain ⟨z4, a4, w4⟩ := fld_int (cs := cs) (off := 66) Try.underlying22 c32 (by omega) ((hf 4 _ rfl).trans (hx 4 (by omega)))
  obtain ⟨z5, a5, w5⟩ := fld_int (cs := cs) (off := 67) Try.underlying22 c32 (by omega) ((hf 5 _ rfl).trans (hx 5 (by omega)))
  refine ⟨hl68, fun v hv => ?_, ?_⟩
  · obtain ⟨i, hi, rfl⟩ := List.mem_iff_getElem.1 hv
    have key : ∃ kd z, cs[i]? = some (.int kd z) := by
      rcases (show i = 0 ∨ (1 ≤ i ∧ i < 33) ∨ (33 ≤ i ∧ i < 65) ∨ i = 65 ∨ i = 66 ∨ i = 67 by omega) with rfl | ⟨q1, q2⟩ | ⟨q1, q2⟩ | rfl | rfl | rfl
      · exact ⟨_, _, a0⟩
      · obtain ⟨z, hz⟩ := h1 (i - 1) (by omega)
        rw [show 1 + (i - 1) = i by omega] at hz
        exact ⟨_, _, hz⟩
      · obtain ⟨z, hz⟩ := h2 (i - 33) (by omega)
        rw [show 33 + (i - 33) = i by omega] at hz
        exact ⟨_, _, hz⟩
      · exact ⟨_, _, a3⟩
      · exact ⟨_, _, a4⟩
      · exact ⟨_, _, a5⟩
    obtain ⟨kd, z, hz⟩ := key
    rw [List.getElem?_eq_getElem hi] at hz
    rw [Option.some.inj hz]
    rfl
  · obtain ⟨t3, rfl, q3⟩ := u32_natW w3
    obtain ⟨t4, rfl, q4⟩ := u32_natW w4
    exact ⟨t3, t4, q3, q4, a3, a4⟩
theorem open_headers {r : Reach} {b0 : Nat} {v : Value} {d : DataW H} {p : List MemPlace} (hv : Value.okWide Try.prog w r b0 47 v) (h : DataW.Trod enc Try.prog w 0 (fun _ => true) true 47 v d p) :
    ∃ (a : Option Addr) (n c : Nat) (l : List (List Value)), v = .slice a n c ∧ l.length = n ∧ RdH w a l ∧ ∀ (i : Nat) (r : List Value), l[i]? = some r → HdOk r := by
  obtain ⟨a0, len, cap, rfl⟩ := okWide_slice Try.underlying47 hv
  obtain ⟨fuel, hf⟩ := h
  have c68 : Try.prog.cellsOf 29 = 68 := by kernel_rfl
  rcases open_slice Try.underlying47 hf with ⟨hcs, hx⟩ | ⟨a, len', cap', m, n, D, Pl, hcs, _, hl, _, hm, _, hx⟩
  · simp [Value.cells] at hcs
    obtain ⟨rfl, rfl, rfl⟩ := hcs
    exact ⟨none, 0, 0, [], rfl, rfl, .inl rfl, fun i r hr => by simp at hr⟩
  · simp [Value.cells] at hcs
    obtain ⟨rfl, rfl, rfl⟩ := hcs
    simp only [if_true] at hm
    rw [c68] at hx
    have hget : ∀ (i : Nat) (r : List Value), ((List.range len).map fun i => (w.cells? 0 (a.add (i * 68)) 68).getD [])[i]? = some r → i < len ∧ w.cells? 0 (a.add (i * 68)) 68 = some r ∧ HdOk r := by
      intro i r hr
      have hi : i < len := by simpa using (List.getElem?_eq_some_iff.1 hr).1
      obtain ⟨cs', h1, h2⟩ := hx i (by omega)
      rw [List.getElem?_map, List.getElem?_range hi] at hr
      simp only [Option.map_some, h1, Option.getD_some, Option.some.injEq] at hr
      subst hr
      exact ⟨hi, h1, hdr_ok h2⟩
    refine ⟨some a, len, cap, (List.range len).map fun i => (w.cells? 0 (a.add (i * 68)) 68).getD [], rfl, by simp, ?_, fun i r hr => (hget i r hr).2.2⟩
    by_cases h0 : len = 0
    · left
      subst h0
      rfl
    · right
      obtain ⟨cs', h1, h2⟩ := hx 0 (by omega)
      obtain ⟨_, hlen, hcell⟩ := World.cells?_some h1
      have hc0 := hcell 0 (by omega)
      rw [List.getElem?_eq_getElem (by omega)] at hc0
      have ha0 : (a.add (0 * 68)).add 0 = a := by simp [Addr.add]
      rw [ha0] at hc0
      have sq := spotH hc0
      refine ⟨a.block, a.off, by rw [← sq.1], sq.2, fun i r hr => ?_⟩
      obtain ⟨hi, h1, _⟩ := hget i r hr
      obtain ⟨_, hlen, hcell⟩ := World.cells?_some h1
      intro j u hu
      have hj : j < 68 := by rw [← hlen]; exact (List.getElem?_eq_some_iff.1 hu).1
      have h3 := hcell j hj
      rw [hu] at h3
      have ea : (a.add (i * 68)).add j = ⟨a.block, a.off + i * 68 + j, none⟩ := by
        generalize a.block = ab at *
        generalize a.off = ao at *
        rw [sq.1]
        simp only [Addr.add_mid]
      rw [ea] at h3
      exact h3
end
end Go.Proofs.Ytndockjflnicjaa
