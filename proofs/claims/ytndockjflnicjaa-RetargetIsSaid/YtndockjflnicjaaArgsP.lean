/- How arguments are opened: rules and headers. -/
import Derived.Test.YtndockjflnicjaaFrame
import Derived.Test.YtndockjflnicjaaRetC
namespace Go.Proofs.Ytndockjflnicjaa
open Go.ChangeShapes Go.WideShapes Go.ChangeAt Go.RowKit
set_option linter.unusedVariables false
section
variable {P : Program} {w : World} {r : Reach} {b0 : Nat}
theorem okWide_cells {t : TypeId} {fs : Array Field} {v : Value} {ts : List TypeId} (ht : P.underlying t = some (.struct fs)) (hct : P.cellTypes P.depth t = some ts) (hsz : P.cellsOf t = ts.length) (hv : Value.okWide P w r b0 t v) :
    ∃ cs : Array Value, v = .agg cs ∧ cs.size = ts.length ∧ ∀ (i : Nat) (u : TypeId), ts[i]? = some u → ∃ x, cs[i]? = some x ∧ Cell.okWide P w r b0 u x := by
  simp only [Value.okWide, ht] at hv
  obtain ⟨cs, rfl, h2, ts', h3, _, h5⟩ := hv
  rw [hct] at h3
  obtain rfl : ts = ts' := Option.some.inj h3
  rw [hsz] at h2
  refine ⟨cs, rfl, h2, fun i u hu => ?_⟩
  have hi : i < ts.length := (List.getElem?_eq_some_iff.1 hu).1
  have hc : cs[i]? = some (cs[i]'(by omega)) := Array.getElem?_eq_getElem (by omega)
  obtain ⟨u', hu', hk⟩ := h5 i _ hc
  rw [Nat.mod_eq_of_lt hi, hu] at hu'
  obtain rfl := Option.some.inj hu'
  exact ⟨_, hc, hk⟩
theorem cell_intW {u : TypeId} {k : IntKind} {x : Value} (hu : P.underlying u = some (.int k)) (h : Cell.okWide P w r b0 u x) : ∃ n, x = .int k n ∧ (Lit.int k n).wf = true := by
  simp only [Cell.okWide, hu] at h
  cases x <;> simp_all [Cell.ok, IntKind.has, Lit.wf]
theorem cell_sliceW {u e : TypeId} {x : Value} (hu : P.underlying u = some (.slice e)) (h : Cell.okWide P w r b0 u x) : ∃ a n c, x = .slice a n c := by
  simp only [Cell.okWide, hu] at h
  cases x <;> simp_all [Cell.ok]
end
section
variable {P : Program} {w w' : World} {g : Nat} {t : TypeId} {cs : Array Value}
theorem wl_rows {ops : Array Oper} {rest : List Oper} {o : Oper} {a : Act} {Q : Exit → Act → World → Prop} (h : Blk w g t cs) (ty : TypeId) (x : Operand) (hgd : o.guard = none) (ho : o.op = .load ty x)
    (hx : a.eval x = .pointer (some ⟨g, 0, none⟩)) (fs : Array Field)
    (hu : P.underlying ty = some (.struct fs)) (hi : (P.info? ty).map (·.size) = some cs.size)
    (k : wpList P ops Q rest (a.put o.dst (.agg cs)) w) : wpList P ops Q (o :: rest) a w :=
  wpList_load_row hgd ty x ho g hx t cs (0, 0) _ h hu rfl hi k
end
theorem u32_natW {k : Int} (h : (Lit.int .u32 k).wf = true) : ∃ n : Nat, k = n ∧ n < 4294967296 := by
  simp [Lit.wf, IntKind.min, IntKind.max, IntKind.signed, IntKind.bits] at h
  exact ⟨k.toNat, by omega, by omega⟩
theorem i64_rangeW {k : Int} (h : (Lit.int .i64 k).wf = true) : -9223372036854775808 ≤ k ∧ k ≤ 9223372036854775807 := by
  simp [Lit.wf, IntKind.min, IntKind.max, IntKind.signed, IntKind.bits] at h
  omega
set_option maxRecDepth 100000 in
theorem open_params {w : World} {r : Reach} {b0 : Nat} {v : Value} (hv : Value.okWide Try.prog w r b0 25 v) :
    ∃ (lim : Nat) (iv sp fu ix op : Int) (a : Option Addr) (n c : Nat), v = .agg (pcells lim iv sp fu ix op a n c) ∧ lim < 4294967296 ∧ (Lit.int .i64 iv).wf = true := by
  have hct : Try.prog.cellTypes Try.prog.depth 25 = some [22, 3, 3, 3, 3, 3, 23] := by kernel_rfl
  obtain ⟨cs, rfl, hsz, hc⟩ := okWide_cells Try.underlying25 hct (by kernel_rfl) hv
  obtain ⟨x0, e0, k0⟩ := hc 0 _ rfl
  obtain ⟨x1, e1, k1⟩ := hc 1 _ rfl
  obtain ⟨x2, e2, k2⟩ := hc 2 _ rfl
  obtain ⟨x3, e3, k3⟩ := hc 3 _ rfl
  obtain ⟨x4, e4, k4⟩ := hc 4 _ rfl
  obtain ⟨x5, e5, k5⟩ := hc 5 _ rfl
  obtain ⟨x6, e6, k6⟩ := hc 6 _ rfl
  obtain ⟨lim, rfl, w0⟩ := cell_intW Try.underlying22 k0
  obtain ⟨iv, rfl, w1⟩ := cell_intW Try.underlying3 k1
  obtain ⟨sp, rfl, w2⟩ := cell_intW Try.underlying3 k2
  obtain ⟨fu, rfl, w3⟩ := cell_intW Try.underlying3 k3
  obtain ⟨ix, rfl, w4⟩ := cell_intW Try.underlying3 k4
  obtain ⟨op, rfl, w5⟩ := cell_intW Try.underlying3 k5
  obtain ⟨a, n, c, rfl⟩ := cell_sliceW Try.underlying23 k6
  obtain ⟨lim, rfl, hl⟩ := u32_natW w0
  refine ⟨lim, iv, sp, fu, ix, op, a, n, c, ?_, hl, w1⟩
  congr 1
  obtain ⟨l⟩ := cs
  match l, hsz with
  | [y0, y1, y2, y3, y4, y5, y6], _ =>
    simp at e0 e1 e2 e3 e4 e5 e6
    subst e0 e1 e2 e3 e4 e5 e6
    rfl
set_option maxRecDepth 100000 in
theorem open_header {w : World} {r : Reach} {b0 : Nat} {v : Value} (hv : Value.okWide Try.prog w r b0 29 v) :
    ∃ (hs : Array Value) (ti bi : Nat), v = .agg hs ∧ hs[65]? = some (.int .u32 ti) ∧ hs[66]? = some (.int .u32 bi) ∧ ti < 4294967296 ∧ bi < 4294967296 ∧ hs.size = 68 := by
  have h : (Try.prog.cellTypes Try.prog.depth 29).map (fun ts => (ts.length, ts[65]?, ts[66]?)) = some (68, some 22, some 22) := by kernel_rfl
  obtain ⟨ts, hct, hts⟩ := Option.map_eq_some_iff.1 h
  simp only [Prod.mk.injEq] at hts
  obtain ⟨cs, rfl, hsz, hc⟩ := okWide_cells Try.underlying29 hct (by rw [hts.1]; kernel_rfl) hv
  obtain ⟨x0, e0, k0⟩ := hc 65 _ hts.2.1
  obtain ⟨x1, e1, k1⟩ := hc 66 _ hts.2.2
  obtain ⟨ti, rfl, w0⟩ := cell_intW Try.underlying22 k0
  obtain ⟨bi, rfl, w1⟩ := cell_intW Try.underlying22 k1
  obtain ⟨ti, rfl, h0⟩ := u32_natW w0
  obtain ⟨bi, rfl, h1⟩ := u32_natW w1
  exact ⟨cs, ti, bi, rfl, e0, e1, h0, h1, by rw [hsz, hts.1]⟩
end Go.Proofs.Ytndockjflnicjaa
