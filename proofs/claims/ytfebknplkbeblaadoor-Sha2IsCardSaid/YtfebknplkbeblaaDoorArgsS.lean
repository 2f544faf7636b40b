/- How arguments are opened: a state of a sum, by value. -/
import Derived.Test.YtfebknplkbeblaaDoorArgs
import Derived.Test.YtfebknplkbeblaaDoorShaF
namespace Go.Proofs.YtfebknplkbeblaaDoor
open Go.ChangeShapes Go.WideShapes Go.ChangeAt Go.RowKit
set_option linter.unusedVariables false
theorem open_bytes_at {H : Type} {enc : TypeId × Value → H} {P : Program} {w : World} {t e : TypeId} {d : DataW H} {p : List MemPlace} {fuel : Nat} {a0 : Option Addr} {len cap : Nat} (ht : P.underlying t = some (.slice e)) (he : P.underlying e = some (.int .u8)) (hc : P.cellsOf e = 1) (hby : P.bytesOf e = 1)
    (hf : DataW.trod enc P w 0 (fun _ => true) true fuel t [.slice a0 len cap] = some (d, p)) (hwt : (DataW.weights P t d).all (· ≤ reachBytes) = true) :
    ∃ (a : Option Addr) (n c : Nat) (l : List UInt8), Value.slice a0 len cap = .slice a n c ∧ l.length = n ∧ n ≤ c ∧ c ≤ 140737488355328 ∧ (a = none → n = 0 ∧ c = 0) ∧ RdS w a l := by
  rcases open_ints ht he hc hf with ⟨hcs, hx⟩ | ⟨a, len', cap', zs, hcs, _, hl, hm, hz, hx, hcell, hwz⟩
  · simp [Value.cells] at hcs
    obtain ⟨rfl, rfl, rfl⟩ := hcs
    exact ⟨none, 0, 0, [], rfl, rfl, Nat.le_refl _, by omega, fun _ => ⟨rfl, rfl⟩, .inl rfl⟩
  · simp [Value.cells] at hcs
    obtain ⟨rfl, rfl, rfl⟩ := hcs
    simp only [if_true] at hz
    simp only [Prod.mk.injEq] at hx
    obtain ⟨rfl, rfl⟩ := hx
    have hcap : cap ≤ 140737488355328 := by
      simp only [DataW.weights, ht, List.all_cons, Bool.and_eq_true, decide_eq_true_eq] at hwt
      have h1 := hwt.1
      rw [hby, Nat.mul_one] at h1
      have e1 : (lits (H := H) IntKind.u8 (zs.take len)).length + (lits (H := H) IntKind.u8 (zs.drop len)).length = cap := by
        simp [lits]; omega
      rw [e1] at h1
      unfold reachBytes at h1
      omega
    have hlz : len ≤ zs.length := by rw [hz]; exact hl
    refine ⟨some a, len, cap, (zs.take len).map fun z => UInt8.ofNat z.toNat, rfl, by simp; omega, hl, hcap, fun h => (by cases h), ?_⟩
    by_cases h0 : len = 0
    · left
      subst h0
      rfl
    · right
      have hc0 := hcell 0 (by omega)
      obtain ⟨e1, e2⟩ := spot_none (w := w) (a := a) (by simpa [Addr.add] using hc0)
      refine ⟨a.block, a.off, by rw [← e1], e2, fun i hi => ?_⟩
      have hi' : i < len := by simp at hi; omega
      have hci := hcell i (by omega)
      have ea : a.add i = ⟨a.block, a.off + i, none⟩ := by
        unfold Addr.add
        split
        · rename_i h; subst h; exact e1
        · rfl
      rw [ea] at hci
      rw [hci]
      have hzi : zs.getD i 0 = zs[i]'(by omega) := by simp [List.getD, List.getElem?_eq_getElem (show i < zs.length by omega)]
      have hgd : (((zs.take len).map fun z => UInt8.ofNat z.toNat).getD i 0) = UInt8.ofNat (zs[i]'(by omega)).toNat := by
        rw [List.getD, List.getElem?_map, List.getElem?_take_of_lt hi', List.getElem?_eq_getElem (by omega)]
        rfl
      rw [hgd, hzi, ← u8_of _ (hwz _ (List.getElem_mem _))]
section
variable {P : Program} {w : World} {r : Reach} {b0 : Nat}
theorem okWide_cellsS {t : TypeId} {fs : Array Field} {v : Value} {ts : List TypeId} (ht : P.underlying t = some (.struct fs)) (hct : P.cellTypes P.depth t = some ts) (hsz : P.cellsOf t = ts.length) (hv : Value.okWide P w r b0 t v) :
    ∃ cs : Array Value, v = .agg cs ∧ cs.size = ts.length ∧ ∀ (i : Nat) (u : TypeId), ts[i]? = some u → ∃ x, cs[i]? = some x ∧ Cell.okWide P w r b0 u x := by
  simp only [Value.okWide, ht] at hv
  obtain ⟨cs, rfl, h2, ts', h3, _, h5⟩ := hv
  rw [hct] at h3
  obtain rfl : ts = ts' := Option.some.inj h3
  rw [hsz] at h2
  refine ⟨cs, rfl, h2, fun i u hu => ?_⟩
  have hi : i < ts.length := (List.getElem?_eq_some_iff.1 hu).1
  have hc : cs[i]? = some (cs[i]'(by omega)) := Array.getElem?_eq_getElem (by omega)
  obtain ⟨u', hu', hk⟩ := h5 i _ hc
  rw [Nat.mod_eq_of_lt hi, hu] at hu'
  obtain rfl := Option.some.inj hu'
  exact ⟨_, hc, hk⟩
theorem cell_intS {u : TypeId} {k : IntKind} {x : Value} (hu : P.underlying u = some (.int k)) (h : Cell.okWide P w r b0 u x) : ∃ n, x = .int k n ∧ (Lit.int k n).wf = true := by
  simp only [Cell.okWide, hu] at h
  cases x <;> simp_all [Cell.ok, IntKind.has, Lit.wf]
theorem cell_sliceS {u e : TypeId} {x : Value} (hu : P.underlying u = some (.slice e)) (h : Cell.okWide P w r b0 u x) : ∃ a n c, x = .slice a n c := by
  simp only [Cell.okWide, hu] at h
  cases x <;> simp_all [Cell.ok]
end
theorem wd_of {k : Int} (h : (Lit.int .u32 k).wf = true) : ∃ x : Wd, k = (wn x : Int) := by
  simp [Lit.wf, IntKind.min, IntKind.max, IntKind.signed, IntKind.bits] at h
  refine ⟨BitVec.ofNat 32 k.toNat, ?_⟩
  unfold wn
  rw [BitVec.toNat_ofNat]
  omega
theorem u64_of {k : Int} (h : (Lit.int .u64 k).wf = true) : ∃ n : Nat, k = n ∧ n < W64 := by
  simp [Lit.wf, IntKind.min, IntKind.max, IntKind.signed, IntKind.bits] at h
  exact ⟨k.toNat, by omega, by unfold W64; omega⟩
set_option maxRecDepth 100000 in
theorem open_state {H : Type} {enc : TypeId × Value → H} {w : World} {r : Reach} {b0 : Nat} {v : Value} {d : DataW H} {p : List MemPlace} (hv : Value.okWide Tryd.prog w r b0 29 v)
    (h : DataW.Trod enc Tryd.prog w 0 (fun _ => true) true 29 v d p) (hwt : (DataW.weights Tryd.prog 29 d).all (· ≤ reachBytes) = true) :
    ∃ (Hs : List Wd) (a : Option Addr) (n c : Nat) (l : List UInt8) (N : Nat), v = .agg (stC Hs (.slice a n c) N) ∧ Hs.length = 8 ∧ N < W64 ∧ l.length = n ∧ n ≤ c ∧ c ≤ 140737488355328 ∧ (a = none → n = 0 ∧ c = 0) ∧ RdS w a l := by
  have hct : Tryd.prog.cellTypes Tryd.prog.depth 29 = some [24, 24, 24, 24, 24, 24, 24, 24, 26, 27] := by kernel_rfl
  obtain ⟨cs, rfl, hsz, hc⟩ := okWide_cellsS Tryd.underlying29 hct (by kernel_rfl) hv
  obtain ⟨x0, e0, k0⟩ := hc 0 _ rfl
  obtain ⟨x1, e1, k1⟩ := hc 1 _ rfl
  obtain ⟨x2, e2, k2⟩ := hc 2 _ rfl
  obtain ⟨x3, e3, k3⟩ := hc 3 _ rfl
  obtain ⟨x4, e4, k4⟩ := hc 4 _ rfl
  obtain ⟨x5, e5, k5⟩ := hc 5 _ rfl
  obtain ⟨x6, e6, k6⟩ := hc 6 _ rfl
  obtain ⟨x7, e7, k7⟩ := hc 7 _ rfl
  obtain ⟨x8, e8, k8⟩ := hc 8 _ rfl
  obtain ⟨x9, e9, k9⟩ := hc 9 _ rfl
  obtain ⟨z0, rfl, w0⟩ := cell_intS Tryd.underlying24 k0
  obtain ⟨z1, rfl, w1⟩ := cell_intS Tryd.underlying24 k1
  obtain ⟨z2, rfl, w2⟩ := cell_intS Tryd.underlying24 k2
  obtain ⟨z3, rfl, w3⟩ := cell_intS Tryd.underlying24 k3
  obtain ⟨z4, rfl, w4⟩ := cell_intS Tryd.underlying24 k4
  obtain ⟨z5, rfl, w5⟩ := cell_intS Tryd.underlying24 k5
  obtain ⟨z6, rfl, w6⟩ := cell_intS Tryd.underlying24 k6
  obtain ⟨z7, rfl, w7⟩ := cell_intS Tryd.underlying24 k7
  obtain ⟨a, n, c, rfl⟩ := cell_sliceS Tryd.underlying26 k8
  obtain ⟨z9, rfl, w9⟩ := cell_intS Tryd.underlying27 k9
  obtain ⟨y0, rfl⟩ := wd_of w0
  obtain ⟨y1, rfl⟩ := wd_of w1
  obtain ⟨y2, rfl⟩ := wd_of w2
  obtain ⟨y3, rfl⟩ := wd_of w3
  obtain ⟨y4, rfl⟩ := wd_of w4
  obtain ⟨y5, rfl⟩ := wd_of w5
  obtain ⟨y6, rfl⟩ := wd_of w6
  obtain ⟨y7, rfl⟩ := wd_of w7
  obtain ⟨N, rfl, hN⟩ := u64_of w9
  have hcs : cs = stC [y0, y1, y2, y3, y4, y5, y6, y7] (.slice a n c) N := by
    obtain ⟨l⟩ := cs
    match l, hsz with
    | [q0, q1, q2, q3, q4, q5, q6, q7, q8, q9], _ =>
      simp at e0 e1 e2 e3 e4 e5 e6 e7 e8 e9
      subst e0 e1 e2 e3 e4 e5 e6 e7 e8 e9
      rfl
  obtain ⟨fuel, hf⟩ := h
  obtain ⟨xs, m, _, hx, hl, hlen, hg⟩ := DataW.trod_struct Tryd.underlying29 hf
  have hlen3 : xs.length = 3 := hlen
  have hd : d = .agg (xs.map (·.1)) := by
    have := congrArg Prod.fst hx
    simpa using this
  obtain ⟨u0, u1, u2, rfl⟩ : ∃ u0 u1 u2, xs = [u0, u1, u2] := by
    match xs, hlen3 with
    | [u0, u1, u2], _ => exact ⟨_, _, _, rfl⟩
  have h1 := hg 1 _ rfl
  have hwb : (DataW.weights Tryd.prog 26 u1.1).all (· ≤ reachBytes) = true := by
    rw [hd] at hwt
    have hw2 : (DataW.weightsEach Tryd.prog [25, 26, 27] [u0.1, u1.1, u2.1]).all (· ≤ reachBytes) = true := by
      have hu := Tryd.underlying29
      simp only [DataW.weights, hu] at hwt
      exact hwt
    simp only [DataW.weightsEach, List.all_append, Bool.and_eq_true] at hw2
    exact hw2.2.1
  subst hcs
  have h1' : DataW.trod enc Tryd.prog w 0 (fun _ => true) true m 26 [.slice a n c] = some (u1.1, u1.2) := h1
  obtain ⟨a', n', c', l, he, q1, q2, q3, q4, q5⟩ := open_bytes_at Tryd.underlying26 Tryd.underlying5 (by kernel_rfl) (by kernel_rfl) h1' hwb
  injection he with he1 he2 he3
  subst he1 he2 he3
  exact ⟨[y0, y1, y2, y3, y4, y5, y6, y7], a, n, c, l, N, rfl, rfl, hN, q1, q2, q3, q4, q5⟩
end Go.Proofs.YtfebknplkbeblaaDoor
