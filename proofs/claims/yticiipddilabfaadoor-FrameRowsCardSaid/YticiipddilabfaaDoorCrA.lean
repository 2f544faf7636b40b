/- The statement FrameRows: for every input the call returns true, and its arguments read as before; the card ties SHA-256's tables to the program's text. How arguments are opened: a state of a sum, by value. How arguments are opened: messages and streams of the document's. Messages in a row: the plain law. Two rows of the call's own, both growing; messages put. FrameRows: the law's walk. -/
import Derived.Test.YticiipddilabfaaDoorCqD
import Derived.Deep.Slices
import Derived.Test.YticiipddilabfaaDoorCqL
import Derived.Test.YticiipddilabfaaDoorCqK
import Derived.Test.YticiipddilabfaaDoorCqM
import Derived.BigQuiet
import Derived.Test.YticiipddilabfaaDoorCqC
namespace Go.Proofs.YticiipddilabfaaDoor
open Go.ChangeShapes Go.WideShapes Go.ChangeAt Go.RowKit
set_option linter.unusedVariables false
theorem open_bytes_at {H : Type} {enc : TypeId × Value → H} {P : Program} {w : World} {t e : TypeId} {d : DataW H} {p : List MemPlace} {fuel : Nat} {a0 : Option Addr} {len cap : Nat} (ht : P.underlying t = some (.slice e)) (he : P.underlying e = some (.int .u8)) (hc : P.cellsOf e = 1) (hby : P.bytesOf e = 1)
    (hf : DataW.trod enc P w 0 (fun _ => true) true fuel t [.slice a0 len cap] = some (d, p)) (hwt : (DataW.weights P t d).all (· ≤ reachBytes) = true) :
    ∃ (a : Option Addr) (n c : Nat) (l : List UInt8), Value.slice a0 len cap = .slice a n c ∧ l.length = n ∧ n ≤ c ∧ c ≤ 140737488355328 ∧ (a = none → n = 0 ∧ c = 0) ∧ RdS w a l := by
  rcases open_ints ht he hc hf with ⟨hcs, hx⟩ | ⟨a, len', cap', zs, hcs, _, hl, hm, hz, hx, hcell, hwz⟩
  · simp [Value.cells] at hcs
    obtain ⟨rfl, rfl, rfl⟩ := hcs
    exact ⟨none, 0, 0, [], rfl, rfl, Nat.le_refl _, by omega, fun _ => ⟨rfl, rfl⟩, .inl rfl⟩
  · simp [Value.cells] at hcs
    obtain ⟨rfl, rfl, rfl⟩ := hcs
    simp only [if_true] at hz
    simp only [Prod.mk.injEq] at hx
    obtain ⟨rfl, rfl⟩ := hx
    have hcap : cap ≤ 140737488355328 := by
      simp only [DataW.weights, ht, List.all_cons, Bool.and_eq_true, decide_eq_true_eq] at hwt
      have h1 := hwt.1
      rw [hby, Nat.mul_one] at h1
      have e1 : (lits (H := H) IntKind.u8 (zs.take len)).length + (lits (H := H) IntKind.u8 (zs.drop len)).length = cap := by
        simp [lits]; omega
      rw [e1] at h1
      unfold reachBytes at h1
      omega
    have hlz : len ≤ zs.length := by rw [hz]; exact hl
    refine ⟨some a, len, cap, (zs.take len).map fun z => UInt8.ofNat z.toNat, rfl, by simp; omega, hl, hcap, fun h => (by cases h), ?_⟩
    by_cases h0 : len = 0
    · left
      subst h0
      rfl
    · right
      have hc0 := hcell 0 (by omega)
      obtain ⟨e1, e2⟩ := spot_none (w := w) (a := a) (by simpa [Addr.add] using hc0)
      refine ⟨a.block, a.off, by rw [← e1], e2, fun i hi => ?_⟩
      have hi' : i < len := by simp at hi; omega
      have hci := hcell i (by omega)
      have ea : a.add i = ⟨a.block, a.off + i, none⟩ := by
        unfold Addr.add
        split
        · rename_i h; subst h; exact e1
        · rfl
      rw [ea] at hci
      rw [hci]
      have hzi : zs.getD i 0 = zs[i]'(by omega) := by simp [List.getD, List.getElem?_eq_getElem (show i < zs.length by omega)]
      have hgd : (((zs.take len).map fun z => UInt8.ofNat z.toNat).getD i 0) = UInt8.ofNat (zs[i]'(by omega)).toNat := by
        rw [List.getD, List.getElem?_map, List.getElem?_take_of_lt hi', List.getElem?_eq_getElem (by omega)]
        rfl
      rw [hgd, hzi, ← u8_of _ (hwz _ (List.getElem_mem _))]
section
variable {P : Program} {w : World} {r : Reach} {b0 : Nat}
theorem okWide_cellsS {t : TypeId} {fs : Array Field} {v : Value} {ts : List TypeId} (ht : P.underlying t = some (.struct fs)) (hct : P.cellTypes P.depth t = some ts) (hsz : P.cellsOf t = ts.length) (hv : Value.okWide P w r b0 t v) :
    ∃ cs : Array Value, v = .agg cs ∧ cs.size = ts.length ∧ ∀ (i : Nat) (u : TypeId), ts[i]? = some u → ∃ x, cs[i]? = some x ∧ Cell.okWide P w r b0 u x := by
  simp only [Value.okWide, ht] at hv
  obtain ⟨cs, rfl, h2, ts', h3, _, h5⟩ := hv
  rw [hct] at h3
  obtain rfl : ts = ts' := Option.some.inj h3
  rw [hsz] at h2
  refine ⟨cs, rfl, h2, fun i u hu => ?_⟩
  have hi : i < ts.length := (List.getElem?_eq_some_iff.1 hu).1
  have hc : cs[i]? = some (cs[i]'(by omega)) := Array.getElem?_eq_getElem (by omega)
  obtain ⟨u', hu', hk⟩ := h5 i _ hc
  rw [Nat.mod_eq_of_lt hi, hu] at hu'
  obtain rfl := Option.some.inj hu'
  exact ⟨_, hc, hk⟩
theorem cell_intS {u : TypeId} {k : IntKind} {x : Value} (hu : P.underlying u = some (.int k)) (h : Cell.okWide P w r b0 u x) : ∃ n, x = .int k n ∧ (Lit.int k n).wf = true := by
  simp only [Cell.okWide, hu] at h
  cases x <;> simp_all [Cell.ok, IntKind.has, Lit.wf]
theorem cell_sliceS {u e : TypeId} {x : Value} (hu : P.underlying u = some (.slice e)) (h : Cell.okWide P w r b0 u x) : ∃ a n c, x = .slice a n c := by
  simp only [Cell.okWide, hu] at h
  cases x <;> simp_all [Cell.ok]
end
theorem wd_of {k : Int} (h : (Lit.int .u32 k).wf = true) : ∃ x : Wd, k = (wn x : Int) := by
  simp [Lit.wf, IntKind.min, IntKind.max, IntKind.signed, IntKind.bits] at h
  refine ⟨BitVec.ofNat 32 k.toNat, ?_⟩
  unfold wn
  rw [BitVec.toNat_ofNat]
  omega
theorem u64_of {k : Int} (h : (Lit.int .u64 k).wf = true) : ∃ n : Nat, k = n ∧ n < W64 := by
  simp [Lit.wf, IntKind.min, IntKind.max, IntKind.signed, IntKind.bits] at h
  exact ⟨k.toNat, by omega, by unfold W64; omega⟩
set_option maxRecDepth 100000 in
theorem open_state {H : Type} {enc : TypeId × Value → H} {w : World} {r : Reach} {b0 : Nat} {v : Value} {d : DataW H} {p : List MemPlace} (hv : Value.okWide Tryd.prog w r b0 91 v)
    (h : DataW.Trod enc Tryd.prog w 0 (fun _ => true) true 91 v d p) (hwt : (DataW.weights Tryd.prog 91 d).all (· ≤ reachBytes) = true) :
    ∃ (Hs : List Wd) (a : Option Addr) (n c : Nat) (l : List UInt8) (N : Nat), v = .agg (stC Hs (.slice a n c) N) ∧ Hs.length = 8 ∧ N < W64 ∧ l.length = n ∧ n ≤ c ∧ c ≤ 140737488355328 ∧ (a = none → n = 0 ∧ c = 0) ∧ RdS w a l := by
  have hct : Tryd.prog.cellTypes Tryd.prog.depth 91 = some [22, 22, 22, 22, 22, 22, 22, 22, 23, 68] := by kernel_rfl
  obtain ⟨cs, rfl, hsz, hc⟩ := okWide_cellsS Tryd.underlying91 hct (by kernel_rfl) hv
  obtain ⟨x0, e0, k0⟩ := hc 0 _ rfl
  obtain ⟨x1, e1, k1⟩ := hc 1 _ rfl
  obtain ⟨x2, e2, k2⟩ := hc 2 _ rfl
  obtain ⟨x3, e3, k3⟩ := hc 3 _ rfl
  obtain ⟨x4, e4, k4⟩ := hc 4 _ rfl
  obtain ⟨x5, e5, k5⟩ := hc 5 _ rfl
  obtain ⟨x6, e6, k6⟩ := hc 6 _ rfl
  obtain ⟨x7, e7, k7⟩ := hc 7 _ rfl
  obtain ⟨x8, e8, k8⟩ := hc 8 _ rfl
  obtain ⟨x9, e9, k9⟩ := hc 9 _ rfl
  obtain ⟨z0, rfl, w0⟩ := cell_intS Tryd.underlying22 k0
  obtain ⟨z1, rfl, w1⟩ := cell_intS Tryd.underlying22 k1
  obtain ⟨z2, rfl, w2⟩ := cell_intS Tryd.underlying22 k2
  obtain ⟨z3, rfl, w3⟩ := cell_intS Tryd.underlying22 k3
  obtain ⟨z4, rfl, w4⟩ := cell_intS Tryd.underlying22 k4
  obtain ⟨z5, rfl, w5⟩ := cell_intS Tryd.underlying22 k5
  obtain ⟨z6, rfl, w6⟩ := cell_intS Tryd.underlying22 k6
  obtain ⟨z7, rfl, w7⟩ := cell_intS Tryd.underlying22 k7
  obtain ⟨a, n, c, rfl⟩ := cell_sliceS Tryd.underlying23 k8
  obtain ⟨z9, rfl, w9⟩ := cell_intS Tryd.underlying68 k9
  obtain ⟨y0, rfl⟩ := wd_of w0
  obtain ⟨y1, rfl⟩ := wd_of w1
  obtain ⟨y2, rfl⟩ := wd_of w2
  obtain ⟨y3, rfl⟩ := wd_of w3
  obtain ⟨y4, rfl⟩ := wd_of w4
  obtain ⟨y5, rfl⟩ := wd_of w5
  obtain ⟨y6, rfl⟩ := wd_of w6
  obtain ⟨y7, rfl⟩ := wd_of w7
  obtain ⟨N, rfl, hN⟩ := u64_of w9
  have hcs : cs = stC [y0, y1, y2, y3, y4, y5, y6, y7] (.slice a n c) N := by
    obtain ⟨l⟩ := cs
    match l, hsz with
    | [q0, q1, q2, q3, q4, q5, q6, q7, q8, q9], _ =>
      simp at e0 e1 e2 e3 e4 e5 e6 e7 e8 e9
      subst e0 e1 e2 e3 e4 e5 e6 e7 e8 e9
      rfl
  obtain ⟨fuel, hf⟩ := h
  obtain ⟨xs, m, _, hx, hl, hlen, hg⟩ := DataW.trod_struct Tryd.underlying91 hf
  have hlen3 : xs.length = 3 := hlen
  have hd : d = .agg (xs.map (·.1)) := by
    have := congrArg Prod.fst hx
    simpa using this
  obtain ⟨u0, u1, u2, rfl⟩ : ∃ u0 u1 u2, xs = [u0, u1, u2] := by
    match xs, hlen3 with
    | [u0, u1, u2], _ => exact ⟨_, _, _, rfl⟩
  have h1 := hg 1 _ rfl
  have hwb : (DataW.weights Tryd.prog 23 u1.1).all (· ≤ reachBytes) = true := by
    rw [hd] at hwt
    have hw2 : (DataW.weightsEach Tryd.prog [85, 23, 68] [u0.1, u1.1, u2.1]).all (· ≤ reachBytes) = true := by
      have hu := Tryd.underlying91
      simp only [DataW.weights, hu] at hwt
      exact hwt
    simp only [DataW.weightsEach, List.all_append, Bool.and_eq_true] at hw2
    exact hw2.2.1
  subst hcs
  have h1' : DataW.trod enc Tryd.prog w 0 (fun _ => true) true m 23 [.slice a n c] = some (u1.1, u1.2) := h1
  obtain ⟨a', n', c', l, he, q1, q2, q3, q4, q5⟩ := open_bytes_at Tryd.underlying23 Tryd.underlying5 (by kernel_rfl) (by kernel_rfl) h1' hwb
  injection he with he1 he2 he3
  subst he1 he2 he3
  exact ⟨[y0, y1, y2, y3, y4, y5, y6, y7], a, n, c, l, N, rfl, rfl, hN, q1, q2, q3, q4, q5⟩
end Go.Proofs.YticiipddilabfaaDoor

namespace Go.Proofs.YticiipddilabfaaDoor
open Go.ChangeShapes Go.WideShapes Go.ChangeAt Go.RowKit Go.Deep
set_option linter.unusedVariables false
theorem bstr_ex (s : ByteArray) : ∃ l, s = bstr l ∧ l.length = s.size := by
  obtain ⟨a⟩ := s
  refine ⟨a.toList, ?_, by simp [ByteArray.size]⟩
  unfold bstr
  simp
theorem list_of {α : Type} (Q : Nat → α → Prop) : ∀ n, (∀ i, i < n → ∃ x, Q i x) → ∃ L : List α, L.length = n ∧ ∀ i x, L[i]? = some x → Q i x
  | 0, _ => ⟨[], rfl, fun i x h => by simp at h⟩
  | n + 1, h => by
    obtain ⟨L, h1, h2⟩ := list_of Q n (fun i hi => h i (by omega))
    obtain ⟨y, hy⟩ := h n (by omega)
    refine ⟨L ++ [y], by rw [List.length_append, h1]; rfl, fun i x hx => ?_⟩
    by_cases hi : i < n
    · rw [List.getElem?_append_left (by omega)] at hx
      exact h2 i x hx
    · rw [List.getElem?_append_right (by omega)] at hx
      obtain rfl : i = n := by
        have := (List.getElem?_eq_some_iff.1 hx).1
        simp at this
        omega
      rw [h1, Nat.sub_self] at hx
      injection hx with hx
      exact hx ▸ hy
theorem weightsAll_mem {H : Type} {P : Program} {e : TypeId} : ∀ {l : List (DataW H)}, (DataW.weightsAll P e l).all (· ≤ reachBytes) = true → ∀ d ∈ l, (DataW.weights P e d).all (· ≤ reachBytes) = true
  | [], _, d, hd => by cases hd
  | x :: r, h, d, hd => by
    simp only [DataW.weightsAll, List.all_append, Bool.and_eq_true] at h
    rcases List.mem_cons.1 hd with rfl | hd
    · exact h.1
    · exact weightsAll_mem h.2 d hd
section
variable {H : Type} {enc : TypeId × Value → H} {w : World}
set_option maxRecDepth 100000 in
theorem bytes_ok {n : Nat} {cs : List Value} {d : DataW H} {pl : List MemPlace} (h : DataW.trod enc Tryd.prog w 0 (fun _ => true) true n 23 cs = some (d, pl)) (hwt : (DataW.weights Tryd.prog 23 d).all (· ≤ reachBytes) = true) :
    ∃ (a : Option Addr) (c : Nat) (l : List UInt8), cs = [.slice a l.length c] ∧ CloV l (.slice a l.length c) w ∧ c ≤ 140737488355328 := by
  obtain ⟨a0, len, cap, rfl⟩ : ∃ a len cap, cs = [.slice a len cap] := by
    rcases open_slice Tryd.underlying23 h with ⟨hcs, _⟩ | ⟨a, len, cap, _, _, _, _, hcs, _⟩
    · exact ⟨_, _, _, hcs⟩
    · exact ⟨_, _, _, hcs⟩
  obtain ⟨a', n', c', l, he, q1, q2, q3, q4, q5⟩ := open_bytes_at Tryd.underlying23 Tryd.underlying5 (by kernel_rfl) (by kernel_rfl) h hwt
  subst q1
  rw [he]
  exact ⟨a', c', l, rfl, ⟨a', c', rfl, q5, q2, by unfold maxLen; omega, q4⟩, q3⟩
set_option maxRecDepth 100000 in
theorem msg_ok {n : Nat} {cs : List Value} {d : DataW H} {pl : List MemPlace} (h : DataW.trod enc Tryd.prog w 0 (fun _ => true) true n 25 cs = some (d, pl)) (hwt : (DataW.weights Tryd.prog 25 d).all (· ≤ reachBytes) = true) :
    ∃ (x : MsgT) (a : Option Addr) (c : Nat), cs = [.string (bstr x.1), .slice a x.2.length c] ∧ CloV x.2 (.slice a x.2.length c) w ∧ c ≤ 140737488355328 ∧ x.1.length ≤ maxLen := by
  obtain ⟨xs, m, _, hx, hl, hlen, hf⟩ := DataW.trod_struct Tryd.underlying25 h
  have hl2 : cs.length = 2 := hl.trans (by kernel_rfl)
  have hlen2 : xs.length = 2 := hlen
  obtain ⟨c0, c1, rfl⟩ : ∃ c0 c1, cs = [c0, c1] := by
    match cs, hl2 with
    | [c0, c1], _ => exact ⟨_, _, rfl⟩
  obtain ⟨u0, u1, rfl⟩ : ∃ u0 u1, xs = [u0, u1] := by
    match xs, hlen2 with
    | [u0, u1], _ => exact ⟨_, _, rfl⟩
  have h0 : DataW.trod enc Tryd.prog w 0 (fun _ => true) true m 9 [c0] = some u0 := hf 0 _ rfl
  have h1 : DataW.trod enc Tryd.prog w 0 (fun _ => true) true m 23 [c1] = some (u1.1, u1.2) := hf 1 _ rfl
  have hd : d = .agg [u0.1, u1.1] := by
    have := congrArg Prod.fst hx
    simpa using this
  have hwb : (DataW.weights Tryd.prog 23 u1.1).all (· ≤ reachBytes) = true := by
    rw [hd] at hwt
    have hw2 : (DataW.weightsEach Tryd.prog [9, 23] [u0.1, u1.1]).all (· ≤ reachBytes) = true := by
      have hu := Tryd.underlying25
      simp only [DataW.weights, hu] at hwt
      exact hwt
    simp only [DataW.weightsEach, List.all_append, Bool.and_eq_true] at hw2
    exact hw2.2.1
  obtain ⟨s, hs, _, hsz⟩ := DataW.trod_string Tryd.underlying9 h0
  obtain ⟨a, c, l, hcs, hc, hc2⟩ := bytes_ok h1 hwb
  injection hs with hs
  injection hcs with hcs
  subst hs hcs
  obtain ⟨x, rfl, hx2⟩ := bstr_ex s
  exact ⟨(x, l), a, c, rfl, hc, hc2, by rw [hx2]; exact hsz⟩
set_option maxRecDepth 100000 in
theorem open_msg {r : Reach} {b0 : Nat} {v : Value} {d : DataW H} {p : List MemPlace} (hv : Value.okWide Tryd.prog w r b0 25 v) (h : DataW.Trod enc Tryd.prog w 0 (fun _ => true) true 25 v d p) (hwt : (DataW.weights Tryd.prog 25 d).all (· ≤ reachBytes) = true) :
    ∃ (x : MsgT) (a : Option Addr) (c : Nat), v = .agg #[.string (bstr x.1), .slice a x.2.length c] ∧ CloV x.2 (.slice a x.2.length c) w ∧ c ≤ 140737488355328 ∧ x.1.length ≤ maxLen := by
  have hct : Tryd.prog.cellTypes Tryd.prog.depth 25 = some [9, 23] := by kernel_rfl
  obtain ⟨cs, rfl, hsz, _⟩ := okWide_cellsS Tryd.underlying25 hct (by kernel_rfl) hv
  obtain ⟨fuel, hf⟩ := h
  obtain ⟨x, a, c, hcs, h2⟩ := msg_ok (cs := cs.toList) hf hwt
  refine ⟨x, a, c, ?_, h2⟩
  have : cs = #[.string (bstr x.1), .slice a x.2.length c] := by
    apply Array.toList_inj.1
    rw [hcs]
  rw [this]
set_option maxRecDepth 100000 in
theorem open_buf {r : Reach} {b0 : Nat} {v : Value} {d : DataW H} {p : List MemPlace} (hv : Value.okWide Tryd.prog w r b0 28 v) (h : DataW.Trod enc Tryd.prog w 0 (fun _ => true) true 28 v d p) (hwt : (DataW.weights Tryd.prog 28 d).all (· ≤ reachBytes) = true) :
    ∃ (M : Nat) (K : Int) (a : Option Addr) (c : Nat) (l : List UInt8) (bad : Int), v = .agg #[.int .u32 M, .int .i64 K, .slice a l.length c, .int .i64 bad] ∧ M < 4294967296 ∧ (Lit.int .i64 K).wf = true ∧ (Lit.int .i64 bad).wf = true ∧ CloV l (.slice a l.length c) w ∧ c ≤ 140737488355328 := by
  have hct : Tryd.prog.cellTypes Tryd.prog.depth 28 = some [22, 3, 23, 26] := by kernel_rfl
  obtain ⟨cs, rfl, hsz, hc⟩ := okWide_cellsS Tryd.underlying28 hct (by kernel_rfl) hv
  obtain ⟨x0, e0, k0⟩ := hc 0 _ rfl
  obtain ⟨x1, e1, k1⟩ := hc 1 _ rfl
  obtain ⟨x2, e2, k2⟩ := hc 2 _ rfl
  obtain ⟨x3, e3, k3⟩ := hc 3 _ rfl
  obtain ⟨z0, rfl, w0⟩ := cell_intS Tryd.underlying22 k0
  obtain ⟨z1, rfl, w1⟩ := cell_intS Tryd.underlying3 k1
  obtain ⟨z3, rfl, w3⟩ := cell_intS Tryd.underlying26 k3
  obtain ⟨M, rfl, hM⟩ : ∃ n : Nat, z0 = n ∧ n < 4294967296 := by
    simp [Lit.wf, IntKind.min, IntKind.max, IntKind.signed, IntKind.bits] at w0
    exact ⟨z0.toNat, by omega, by omega⟩
  have hcs : cs = #[.int .u32 M, .int .i64 z1, x2, .int .i64 z3] := by
    obtain ⟨l⟩ := cs
    match l, hsz with
    | [q0, q1, q2, q3], _ =>
      simp at e0 e1 e2 e3
      subst e0 e1 e2 e3
      rfl
  obtain ⟨fuel, hf⟩ := h
  obtain ⟨xs, m, _, hx, hl, hlen, hg⟩ := DataW.trod_struct Tryd.underlying28 hf
  have hlen4 : xs.length = 4 := hlen
  have hd : d = .agg (xs.map (·.1)) := by
    have := congrArg Prod.fst hx
    simpa using this
  obtain ⟨u0, u1, u2, u3, rfl⟩ : ∃ u0 u1 u2 u3, xs = [u0, u1, u2, u3] := by
    match xs, hlen4 with
    | [u0, u1, u2, u3], _ => exact ⟨_, _, _, _, rfl⟩
  subst hcs
  have h1 : DataW.trod enc Tryd.prog w 0 (fun _ => true) true m 23 [x2] = some (u2.1, u2.2) := hg 2 _ rfl
  have hwb : (DataW.weights Tryd.prog 23 u2.1).all (· ≤ reachBytes) = true := by
    rw [hd] at hwt
    have hw2 : (DataW.weightsEach Tryd.prog [22, 3, 23, 26] [u0.1, u1.1, u2.1, u3.1]).all (· ≤ reachBytes) = true := by
      have hu := Tryd.underlying28
      simp only [DataW.weights, hu] at hwt
      exact hwt
    simp only [DataW.weightsEach, List.all_append, Bool.and_eq_true] at hw2
    exact hw2.2.2.1
  clear hc
  obtain ⟨a, c, l, hcs, hcl, hc2⟩ := bytes_ok h1 hwb
  injection hcs with hcs
  subst hcs
  exact ⟨M, z1, a, c, l, z3, rfl, hM, w1, w3, hcl, hc2⟩
set_option maxRecDepth 100000 in
theorem open_msgs {r : Reach} {b0 : Nat} {v : Value} {d : DataW H} {p : List MemPlace} (hv : Value.okWide Tryd.prog w r b0 43 v) (h : DataW.Trod enc Tryd.prog w 0 (fun _ => true) true 43 v d p) (hwt : (DataW.weights Tryd.prog 43 d).all (· ≤ reachBytes) = true) :
    ∃ (a : Option Addr) (n c : Nat) (T : List MsgT), v = .slice a n c ∧ n = T.length ∧ SlM T (.slice a n c) w := by
  obtain ⟨a0, len, cap, rfl⟩ := okWide_slice Tryd.underlying43 hv
  obtain ⟨fuel, hf⟩ := h
  have c2 : Tryd.prog.cellsOf 25 = 2 := by kernel_rfl
  rcases open_slice Tryd.underlying43 hf with ⟨hcs, hx⟩ | ⟨a, len', cap', m, n, D, Pl, hcs, _, hl, hcm, hm, hx, hel⟩
  · simp [Value.cells] at hcs
    obtain ⟨rfl, rfl, rfl⟩ := hcs
    exact ⟨none, 0, 0, [], rfl, rfl, [], none, 0, rfl, rfl, (fun x hx => by cases hx), .inl rfl, Nat.le_refl _, fun _ => ⟨rfl, rfl⟩⟩
  · simp [Value.cells] at hcs
    obtain ⟨rfl, rfl, rfl⟩ := hcs
    simp only [if_true] at hm
    rw [c2] at hel
    have hd : d = .slice ((List.range len).map D) ((List.range (m - len)).map fun j => D (len + j)) := congrArg Prod.fst hx
    have hwa : ∀ i, i < len → (DataW.weights Tryd.prog 25 (D i)).all (· ≤ reachBytes) = true := fun i hi => by
      rw [hd] at hwt
      simp only [DataW.weights, Tryd.underlying43, List.all_cons, List.all_append, Bool.and_eq_true] at hwt
      exact weightsAll_mem hwt.2.1 _ (List.mem_map.2 ⟨i, List.mem_range.2 hi, rfl⟩)
    obtain ⟨L, hL, hLq⟩ := list_of (fun i (y : MsgT × Value) => w.cells? 0 (a.add (i * 2)) 2 = some [.string (bstr y.1.1), y.2] ∧ CloV y.1.2 y.2 w) len (fun i hi => by
      obtain ⟨cs', h1, h2⟩ := hel i (by omega)
      obtain ⟨x, a', c', e, hc, _⟩ := msg_ok h2 (hwa i hi)
      exact ⟨(x, .slice a' x.2.length c'), by rw [h1, e], hc⟩)
    refine ⟨some a, len, cap, L.map (·.1), rfl, by rw [List.length_map, hL], L, some a, cap, by rw [List.length_map, hL], rfl, fun x hx => ?_, ?_, by rw [List.length_map, hL]; exact hl, fun h => by cases h⟩
    · obtain ⟨i, hi⟩ := List.mem_iff_getElem?.1 hx
      exact (hLq i x hi).2
    · by_cases h0 : len = 0
      · left
        have : L = [] := List.length_eq_zero_iff.1 (by omega)
        rw [this]
        rfl
      · right
        obtain ⟨y0, hy0⟩ : ∃ y, L[0]? = some y := ⟨_, List.getElem?_eq_getElem (by omega)⟩
        obtain ⟨_, hlen, hcell⟩ := World.cells?_some (hLq 0 y0 hy0).1
        have hc0 := hcell 0 (by omega)
        have ha0 : (a.add (0 * 2)).add 0 = a := by simp [Addr.add]
        rw [ha0] at hc0
        have sq := spot_none (w := w) (a := a) hc0
        refine ⟨a.block, a.off, by rw [← sq.1], sq.2, fun j u hu => ?_⟩
        have hj : j < L.length * 2 := by rw [← msgCs_length]; exact (List.getElem?_eq_some_iff.1 hu).1
        obtain ⟨y, hy⟩ : ∃ y, L[j / 2]? = some y := ⟨_, List.getElem?_eq_getElem (by omega)⟩
        obtain ⟨m1, m2⟩ := msgCs_at L (j / 2) y hy
        obtain ⟨_, hlen, hcell⟩ := World.cells?_some (hLq (j / 2) y hy).1
        have ea : ∀ r, (a.add (j / 2 * 2)).add r = ⟨a.block, a.off + j / 2 * 2 + r, none⟩ := fun r => by
          have := sq.1
          generalize a.block = ab at *
          generalize a.off = ao at *
          rw [this]
          simp only [Addr.add_mid]
        rcases (show j = 2 * (j / 2) ∨ j = 2 * (j / 2) + 1 by omega) with e | e
        · rw [e, m1] at hu
          have h3 := hcell 0 (by omega)
          rw [ea] at h3
          injection hu with hu
          subst hu
          rw [show a.off + j = a.off + j / 2 * 2 + 0 by omega]
          exact h3
        · rw [e, m2] at hu
          have h3 := hcell 1 (by omega)
          rw [ea] at h3
          injection hu with hu
          subst hu
          rw [show a.off + j = a.off + j / 2 * 2 + 1 by omega]
          exact h3
end
end Go.Proofs.YticiipddilabfaaDoor

namespace Go.Proofs.YticiipddilabfaaDoor
open Go.RowKit
set_option linter.unusedVariables false
/-- What is told of bytes, whatever stands behind them. -/
def RowF (magic K : Nat) (all : List UInt8) (want : List (List UInt8 × List UInt8)) (bad : Bool) : Prop :=
  (bad = false → ∀ X, feedA magic K (all ++ X) = (want ++ (feedA magic K X).1, (feedA magic K X).2)) ∧ (bad = true → ∀ X, (feedA magic K (all ++ X)).1 = want ∧ (feedA magic K (all ++ X)).2.2 = 3)
theorem rowF_nil (magic K : Nat) : RowF magic K [] [] false := ⟨fun _ X => by simp, fun h => by cases h⟩
section
variable {magic K : Nat} (hK : K ≤ 4000000) {all : List UInt8} {want : List (List UInt8 × List UInt8)} {c p : List UInt8} (hc : cmdOk c = true)
theorem rowF_good (h : RowF magic K all want false) (hc : cmdOk c = true) (hp : p.length ≤ K) (hK : K ≤ 4000000) : RowF magic K (all ++ (headOf magic c p ++ p)) (want ++ [(c, p)]) false := by
  refine ⟨fun _ X => ?_, fun h => by cases h⟩
  rw [List.append_assoc, h.1 rfl, feedA_put X hc hp hK]
  simp
theorem rowF_big (h : RowF magic K all want false) (hc : cmdOk c = true) (hp : K < p.length) (hn : p.length < 4294967296) : RowF magic K (all ++ (headOf magic c p ++ p)) want true := by
  refine ⟨fun h => (by cases h), fun _ X => ?_⟩
  rw [List.append_assoc, h.1 rfl, feedA_big X hc hp hn]
  simp
theorem rowF_bad {b : List UInt8} (h : RowF magic K all want true) : RowF magic K (all ++ b) want true := by
  refine ⟨fun h => (by cases h), fun _ X => ?_⟩
  rw [List.append_assoc]
  exact h.2 rfl _
end
theorem rowF_end {magic K : Nat} {all : List UInt8} {want : List (List UInt8 × List UInt8)} {bad : Bool} (h : RowF magic K all want bad) : fedA magic K all = (want, [], if bad = true then 3 else 0) := by
  unfold fedA
  cases bad
  · have h1 := h.1 rfl []
    rw [List.append_nil, feedA_nil] at h1
    rw [h1]
    simp
  · have h1 := h.2 rfl []
    rw [List.append_nil] at h1
    rw [h1.1, h1.2]
    simp
theorem rowF_endF {magic K : Nat} {all : List UInt8} {want : List (List UInt8 × List UInt8)} (h : RowF magic K all want false) : fedA magic K all = (want, [], 0) := rowF_end h
theorem rowF_endT {magic K : Nat} {all : List UInt8} {want : List (List UInt8 × List UInt8)} (h : RowF magic K all want true) : fedA magic K all = (want, [], 3) := rowF_end h
theorem putE_bad {c p : List UInt8} (h : cmdOk c = false) : putE c p = 2 := by unfold putE; rw [h]; rfl
theorem putE_good {c p : List UInt8} (h : cmdOk c = true) (hp : p.length ≤ 4000000) : putE c p = 0 := by unfold putE; rw [if_pos h, if_pos hp]
theorem putL_good {magic : Nat} {c p : List UInt8} (h : cmdOk c = true) (hp : p.length ≤ 4000000) : putL magic c p = headOf magic c p ++ p := by unfold putL; rw [if_pos (putE_good h hp)]
theorem put_length {magic : Nat} {c p : List UInt8} (h : cmdOk c = true) : (headOf magic c p ++ p).length = 24 + p.length := by
  rw [headOf_eq, List.length_append, headS_length (cmdOk_len h) (by rw [List.length_take, dbl_length]; rfl)]
end Go.Proofs.YticiipddilabfaaDoor

namespace Go.Proofs.YticiipddilabfaaDoor
open Go.RowKit
set_option linter.unusedVariables false
theorem own1_below {w w' : World} {base : Nat} {e : TypeId} {v : Value} {n : Nat} {xs : List Value} (h : w.ownsRow base e 1 v n xs) (hb : Below w.heap.size w w') : w'.ownsRow base e 1 v n xs :=
  h.kept (row := none) ⟨hb.os, hb.tape, hb.output, hb.size, fun k hk _ => hb.block k hk⟩ (by cases hv : v.ownBlock <;> simp)
/-- Two rows lie apart. -/
def Ap (v u : Value) : Prop := ∀ k, v.ownBlock = some k → u.ownBlock ≠ some k
theorem Ap.nil (u : Value) : Ap (.slice none 0 0) u := fun k h => by cases h
theorem Ap.symm {v u : Value} (h : Ap v u) : Ap u v := fun k h1 h2 => h k h2 h1
theorem Ap.grow {v v' u : Value} {W : World} {b : Nat} (h : Ap v u) (ho : v'.ownBlock = v.ownBlock ∨ v'.ownBlock = some W.heap.size) (hu : ∀ k, u.ownBlock = some k → b ≤ k ∧ k < W.heap.size) : Ap v' u := fun k h1 h2 => by
  rcases ho with e | e
  · exact h k (e ▸ h1) h2
  · rw [e] at h1
    injection h1 with h1
    have := (hu k h2).2
    omega
theorem Ap.ne {v u : Value} (h : Ap v u) : u.ownBlock = none ∨ u.ownBlock ≠ v.ownBlock := by
  cases hu : u.ownBlock with
  | none => exact .inl rfl
  | some k =>
    refine .inr fun e => ?_
    exact h k e.symm hu
/-- 'append(v, l...)' of bytes; where the row lies. -/
theorem wl_appB {P : Program} {w : World} {ops : Array Oper} {rest : List Oper} {o : Oper} {a : Act} {Q : Exit → Act → World → Prop} {base : Nat} {e : TypeId} {v : Value} {n : Nat} {xs : List UInt8} (hown : w.ownsRow base e 1 v n (xs.map fun c => Value.int .u8 (c.toNat : Int)))
    (hgd : o.guard = none) (s x : Operand) (t : TypeId) (ho : o.op = .call { callee := .builtin .append, args := #[s, x], argTypes := #[t, t] }) (ht : P.underlying t = some (.slice e)) (i : TypeInfo) (hi : P.info? e = some i) (hz : i.zero = some (.int .u8 0)) (h1 : i.size = 1) (hby : i.bytes = 1)
    (hs : a.eval s = v) (a2 : Option Addr) (m c : Nat) (l : List UInt8) (hx : a.eval x = .slice a2 m c) (hr : RdS w a2 l) (hl : l.length = m) (hno : a2 = none → m = 0 ∧ c = 0) (hn : n + m ≤ 140737488355328) (hbase : base ≤ w.heap.size)
    (k : ∀ v' w', w'.ownsRow base e 1 v' (n + m) ((xs ++ l).map fun c => Value.int .u8 (c.toNat : Int)) → w.grownBy w' v.ownBlock → (v'.ownBlock = v.ownBlock ∨ v'.ownBlock = some w.heap.size) → wpList P ops Q rest (a.put o.dst v') w') : wpList P ops Q (o :: rest) a w := by
  cases a2 with
  | none =>
    obtain ⟨h2, h3⟩ := hno rfl
    subst h2 h3
    have hl0 : l = [] := List.length_eq_zero_iff.1 hl
    subst hl0
    exact wpList_append_own_none hgd s x t ho base e i 1 ht hi v n _ hs hown hx (k v w (by rw [List.append_nil]; exact hown) ⟨rfl, rfl, rfl, Nat.le_refl _, fun _ _ _ => rfl⟩ (.inl rfl))
  | some ad =>
    refine wpList_append_own_at w hgd s x t ho base e i (.int .u8 0) 1 1 ht hi hz h1 hby rfl (by omega) v n _ hs hown ad m c (l.map fun c => Value.int .u8 (c.toNat : Int)) hx (by rw [List.length_map, hl, Nat.mul_one]) (fun j u hu => rd_news hr j u hu) (one_news l) (by unfold maxLen; omega) (by omega) hbase fun v' w' h2 h3 h4 h5 => ?_
    rw [List.map_append] at k
    exact k v' w' h2 h3 h5
/-- A row of the document's messages, the call's own; its payloads stand in the world w0. -/
def WantO (w0 : World) (b0 : Nat) (T : List MsgT) (v : Value) (W : World) : Prop :=
  ∃ L : List (MsgT × Value), L.map (·.1) = T ∧ W.ownsRow b0 25 2 v T.length (msgCs L) ∧ ∀ x ∈ L, CloV x.1.2 x.2 w0
theorem WantO.nil (w0 : World) (b0 : Nat) (W : World) : WantO w0 b0 [] (.slice none 0 0) W := ⟨[], rfl, World.ownsRow_nil _ _ _ _, fun x h => by cases h⟩
theorem WantO.below {w0 : World} {b0 : Nat} {T : List MsgT} {v : Value} {W W' : World} (h : WantO w0 b0 T v W) (hb : Below W.heap.size W W') : WantO w0 b0 T v W' := by
  obtain ⟨L, h1, h2, h3⟩ := h
  exact ⟨L, h1, own2_below h2 hb, h3⟩
theorem WantO.grown {w0 : World} {b0 : Nat} {T : List MsgT} {v u : Value} {W W' : World} (h : WantO w0 b0 T v W) (hg : W.grownBy W' u.ownBlock) (ha : Ap u v) : WantO w0 b0 T v W' := by
  obtain ⟨L, h1, h2, h3⟩ := h
  exact ⟨L, h1, h2.kept hg ha.ne, h3⟩
theorem WantO.own {w0 : World} {b0 : Nat} {T : List MsgT} {v : Value} {W : World} (h : WantO w0 b0 T v W) : ∀ k, v.ownBlock = some k → b0 ≤ k ∧ k < W.heap.size := by
  obtain ⟨L, h1, h2, h3⟩ := h
  exact h2.lt
theorem WantO.slm {w0 : World} {b0 : Nat} {T : List MsgT} {v : Value} {W : World} (h : WantO w0 b0 T v W) (hb : Below w0.heap.size w0 W) : SlM T v W := by
  obtain ⟨L, h1, h2, h3⟩ := h
  obtain ⟨a, c, e, r1, r2, _, r3⟩ := own2_rdc h2
  exact ⟨L, a, c, e, h1, fun x hx => (h3 x hx).keep hb, r1, r2, r3⟩
theorem WantO.slice {w0 : World} {b0 : Nat} {T : List MsgT} {v : Value} {W : World} (h : WantO w0 b0 T v W) : ∃ a c, v = .slice a T.length c := by
  obtain ⟨L, h1, h2, h3⟩ := h
  exact own2_slice h2
set_option maxRecDepth 100000 in
/-- 'append(v, m)' of one message of the document's. -/
theorem wl_appW {w : World} {ops : Array Oper} {rest : List Oper} {o : Oper} {a : Act} {Q : Exit → Act → World → Prop} {w0 : World} {b0 : Nat} {T : List MsgT} {v : Value} (h1 : WantO w0 b0 T v w) {g : Nat} {c q : List UInt8} {p : Option Addr} {m d : Nat} (hb : Blk w g 25 #[.string (bstr c), .slice p m d]) (hq : CloV q (.slice p m d) w0)
    (hgd : o.guard = none) (s x : Operand) (ho : o.op = .call { callee := .builtin .append, args := #[s, x], argTypes := #[43, 43] }) (hs : a.eval s = v) (hx : a.eval x = .slice (some ⟨g, 0, none⟩) 1 1) (hn : T.length ≤ 1000000) (hbase : b0 ≤ w.heap.size)
    (k : ∀ v' w', WantO w0 b0 (T ++ [(c, q)]) v' w' → w.grownBy w' v.ownBlock → (v'.ownBlock = v.ownBlock ∨ v'.ownBlock = some w.heap.size) → wpList Tryd.prog ops Q rest (a.put o.dst v') w') : wpList Tryd.prog ops Q (o :: rest) a w := by
  obtain ⟨iM, hi, hz0, hz1, hz2⟩ := info_parts (show (Tryd.prog.info? 25).map (fun i => (i.zero, i.size, i.bytes)) = some (some (.agg #[.string ⟨#[]⟩, .slice none 0 0]), 2, 40) by kernel_rfl)
  obtain ⟨L1, p1, p2, p3⟩ := h1
  refine wpList_append_own_at w hgd s x _ ho b0 25 iM (.agg #[.string ⟨#[]⟩, .slice none 0 0]) 2 40 Tryd.underlying43 hi hz0 hz1 hz2 rfl (by omega) v T.length (msgCs L1) hs p2 ⟨g, 0, none⟩ 1 1 [.string (bstr c), .slice p m d] hx rfl (fun jj u hu => by
    match jj with
    | 0 => injection hu with hu; subst hu; exact blk_get hb 0 _ rfl
    | 1 => injection hu with hu; subst hu; exact blk_get hb 1 _ rfl
    | jj + 2 => cases hu) (by simp [Value.oneCell']) (by unfold maxLen; omega) (by omega) hbase fun v' w' h3 h4 h5 h6 => ?_
  refine k v' w' ⟨L1 ++ [((c, q), .slice p m d)], by rw [List.map_append, p1]; rfl, ?_, fun y hy => ?_⟩ h4 h6
  · rw [List.length_append]
    have e : msgCs (L1 ++ [((c, q), .slice p m d)]) = msgCs L1 ++ [.string (bstr c), .slice p m d] := by unfold msgCs; rw [List.flatMap_append]; rfl
    rw [e]
    exact h3
  · rcases List.mem_append.1 hy with hy | hy
    · exact p3 y hy
    · obtain rfl := List.mem_singleton.1 hy
      exact hq
theorem op_bldF {Q : Exit → Act → World → Prop} {o : Oper} {A : Act} {w : World} (S : ByteArray) (p : Option Addr) (m d : Nat) (x y : Operand) (ho : o.op = .build 32 #[(0, x), (1, y)]) (hx : A.eval x = .string S) (hy : A.eval y = .slice p m d) :
    o.wp Tryd.prog A w (fun a' w'' => a' = A.put o.dst (.agg #[.string S, .slice p m d]) ∧ Below w.heap.size w w'') Q := by
  have hbu : (Instr.build 32 #[(0, .string S), (1, .slice p m d)]).run Tryd.prog w = .ok (.agg #[.string S, .slice p m d]) w := by kernel_rfl
  refine op_run ?_
  unfold execOp
  generalize A.eval = ρ at *
  simp only [ho]
  simp [hx, hy, hbu, go_sem]
/-- What Put hands back. -/
def PutP (E : Nat) (l : List UInt8) (u : Value) (w : World) : Prop := ∃ v, u = .tuple #[v, .int .i64 (E : Nat)] ∧ CloV l v w
theorem PutP.keep (E : Nat) (l : List UInt8) : Keeps (PutP E l) := fun u w1 w2 h hb => by
  obtain ⟨v, h1, h2⟩ := h
  exact ⟨v, h1, h2.keep hb⟩
theorem clo_keeps (l : List UInt8) : Keeps (CloV l) := fun u w1 w2 h hb => h.keep hb
theorem Put_ex (magic : Nat) (hm : magic < 4294967296) (cm : List UInt8) (hc : cm.length ≤ 9223372036854775807) (a : Option Addr) (n c : Nat) (p : List UInt8) (hl : p.length = n) (hn : n ≤ c) (hc2 : n ≤ 1000000 ∧ c ≤ 9223372036854775807) (hno : a = none → n = 0 ∧ c = 0) (E : Nat) (l : List UInt8) (hE : putE cm p = E) (hl2 : putL magic cm p = l) (w : World) (hr : RdS w a p) (hL : Laid w) :
    Calls Tryd.prog 9 #[.int .u32 magic, .agg #[.string (bstr cm), .slice a n c]] w fun e w' => ∃ u, e = .returned u ∧ Below w.heap.size w w' ∧ PutP E l u w' := by
  subst hE hl2
  refine (Put_any magic hm cm hc a n c p hl hn hc2 hno w hr hL).mono ?_
  rintro e w' ⟨u, rfl, hb, hu⟩
  exact ⟨_, rfl, hb, u, rfl, hu⟩
end Go.Proofs.YticiipddilabfaaDoor

namespace Go.Proofs.YticiipddilabfaaDoor
open Go.RowKit
set_option linter.unusedVariables false
set_option maxRecDepth 100000 in
set_option maxHeartbeats 4000000 in
theorem Rows_walk (w : World) (hL : Laid w) (magic : Nat) (hm : magic < 4294967296) (most : Int) (T : List MsgT) (a : Option Addr) (n c : Nat) (hn : n = T.length) (hS : SlM T (.slice a n c) w) :
    Calls Tryd.prog 7 #[.int .u32 magic, .int .i64 most, .slice a n c] w fun e w' => e = .returned (.bool true) ∧ Below w.heap.size w w' := by
  have cA := Awake06 w hL
  have H := Lib.hid (And.intro hL (And.intro hS (And.intro hn cA))); clear hL hS hn cA
  by_cases b0 : (12 : Int) < (n : Int)
  · go_enter Tryd.func7, Tryd.ntmps7
    go_wp2_with fail
    refine H.out.2.2.2.mono ?_
    rintro e w1 ⟨rfl, hb1⟩
    go_wp2_with fail
    go_ret
    exact ⟨rfl, hb1⟩
  have n12 : n ≤ 12 := by omega
  obtain ⟨K, hK⟩ : ∃ K, K = capN most := ⟨_, rfl⟩
  have K4 : K ≤ 4000000 := by rw [hK]; exact capN_le most
  have cN := fun w => New_any magic most w
  rw [← hK] at cN
  have hmx : max 0 (min most 4000000) = (K : Int) := by rw [hK]; unfold capN; omega
  obtain ⟨i0, hi, hz0, hz1, hz2⟩ := info_parts (show (Tryd.prog.info? 5).map (fun i => (i.zero, i.size, i.bytes)) = some (some (.int .u8 0), 1, 1) by kernel_rfl)
  have I := Lib.hid (And.intro hi (And.intro hz0 (And.intro hz1 hz2))); clear hi hz0 hz1 hz2
  have KK := Lib.hid (And.intro cN hmx); clear cN hmx hK
  go_enter Tryd.func7, Tryd.ntmps7
  go_wp2_with fail
  refine H.out.2.2.2.mono ?_
  rintro e w1 ⟨rfl, hb1⟩
  have H1 := Lib.hid hb1; clear hb1
  go_wp2_with fail
  go_loopw [8, 9, 10, 11] (fun v8 v9 v10 i wr => ∃ (k : Nat) (all : List UInt8) (want : List MsgT) (bad : Bool) (na : Nat), k ≤ n ∧ i = .int .i64 k ∧ v10 = .bool bad ∧ na ≤ 424 * k ∧ want.length ≤ k ∧ wr.ownsRow w.heap.size 5 1 v8 na (all.map fun c => Value.int .u8 (c.toNat : Int)) ∧ WantO w w.heap.size want v9 wr ∧ Ap v8 v9 ∧ RowF magic K all want bad ∧ Below w.heap.size w wr) (fun v8 v9 v10 i _ => n - (intOf i).toNat)
  case atStart => exact ⟨0, [], [], false, 0, Nat.zero_le _, rfl, rfl, Nat.zero_le _, Nat.le_refl _, World.ownsRow_nil _ _ _ _, WantO.nil _ _ _, Ap.nil _, rowF_nil _ _, H1.out⟩
  case round =>
    obtain ⟨k, all, want, bad, na, hk, rfl, rfl, hna, hwl, hO, hW, hA, hF0, hB⟩ := hrel
    obtain ⟨a8, c8, rfl⟩ := own_slice hO
    obtain ⟨a9, c9, rfl⟩ := hW.slice
    by_cases hlt : k < n
    · have hlti : (k : Int) < (n : Int) := by omega
      obtain ⟨x, hx⟩ : ∃ x, T[k]? = some x := ⟨_, List.getElem?_eq_getElem (by have := H.out.2.2.1; omega)⟩
      obtain ⟨g, o, p, d, rfl, hg, q1, q2, q3, q4, q5, q6⟩ := H.out.2.1.at hx
      have i1 := fun w => idx_msgR g o n c k hlt w
      have cx : CloV x.2 (.slice p x.2.length d) w := ⟨p, d, rfl, q3, q4, q5, q6⟩
      obtain ⟨S, hS⟩ : ∃ S, S = bstr x.1 := ⟨_, rfl⟩
      have hsz : S.size = x.1.length := by rw [hS]; simp [bstr, ByteArray.size]
      obtain ⟨m, hm2⟩ : ∃ m, m = x.2.length := ⟨_, rfl⟩
      obtain ⟨j, hj⟩ : ∃ j, j = o + 2 * k := ⟨_, rfl⟩
      rw [← hS] at q1
      rw [← hm2] at q2 q4 q6 cx
      rw [← hj] at q1 q2 i1
      have Q := Lib.hid (And.intro hg (And.intro q1 q2))
      replace q1 := (hB.cell (p := ⟨g, j, none⟩) hg).trans q1
      replace q2 := (hB.cell (p := ⟨g, j + 1, none⟩) hg).trans q2
      replace hg : g < wr.heap.size := Nat.lt_of_lt_of_le hg hB.size
      by_cases pb : (400 : Int) < (m : Int)
      · have R := Lib.hid (And.intro i1 hB); clear hO hW hA hF0 hB cx hS hm2 hj q3 q4 q5 q6
        have i1 := R.out.1
        go_wp2
        go_ret
        exact ⟨rfl, R.out.2⟩
      by_cases sb : (100 : Int) < (S.size : Int)
      · have R := Lib.hid (And.intro i1 hB); clear hO hW hA hF0 hB cx hS hm2 hj q3 q4 q5 q6 hsz
        have i1 := R.out.1
        go_wp2
        go_ret
        exact ⟨rfl, R.out.2⟩
      obtain ⟨E, hE⟩ : ∃ E, putE x.1 x.2 = E := ⟨_, rfl⟩
      obtain ⟨l, hl⟩ : ∃ l, putL magic x.1 x.2 = l := ⟨_, rfl⟩
      have m400 : m ≤ 400 := by omega
      have LA := H.out.1.calls hB
      have hRx := q3.calls hB
      have cP := fun w' (h : Below wr.heap.size wr w') => Put_ex magic hm x.1 (by omega) p m d x.2 hm2.symm q4 ⟨by omega, by unfold maxLen at q5; omega⟩ q6 E l hE hl w' (hRx.calls h) (LA.calls h)
      rw [← hS] at cP
      have R := Lib.hid (And.intro i1 (And.intro cP (And.intro hO (And.intro hW (And.intro hA (And.intro hF0 (And.intro hB (And.intro cx (And.intro hS (And.intro hm2 (And.intro hE (And.intro hl q5)))))))))))); clear hO hW hA hF0 hB cx hS hm2 hj q3 q4 q5 q6 hsz hE hl i1 cP LA hRx
      have i1 := R.out.1
      go_wp2_with fail
      clear i1
      refine wp_region_g [some 45, some 46, some 47, some 48, some 49, some 50, some 51, some 52, some 53, some 54, some 55, some 56, some 57, some 44, some 58, some 59, some 12, some 13] (FL [
          EqV (.int .u32 magic),
          EqV (.slice (some ⟨g, o, none⟩) n c),
          EqV (.int .i64 k),
          EqV (.pointer (some ⟨g, j, none⟩)),
          EqV (.pointer (some ⟨g, j + 0, none⟩)),
          EqV (.string S),
          EqV (.slice (some ⟨g, o, none⟩) n c),
          EqV (.int .i64 k),
          EqV (.pointer (some ⟨g, j, none⟩)),
          EqV (.pointer (some ⟨g, j + 1, none⟩)),
          EqV (.slice p m d),
          EqV (.agg #[.string S, .slice p m d]),
          (PutP E l),
          (PutP E l),
          (CloV l),
          EqV (.int .i64 (E : Nat)),
          (CloV l),
          EqV (.int .i64 (E : Nat))
        ]) (FL_keeps ⟨keeps_eq _, keeps_eq _, keeps_eq _, keeps_eq _, keeps_eq _, keeps_eq _, keeps_eq _, keeps_eq _, keeps_eq _, keeps_eq _, keeps_eq _, keeps_eq _, PutP.keep E l, PutP.keep E l, clo_keeps l, keeps_eq _, clo_keeps l, keeps_eq _, trivial⟩) (by kernel_rfl) rfl rfl rfl rfl ⟨
        .inr ⟨gk0 rfl, fun A w' γ hb hF hs => g_eq (op_move (.tmp 0) (.inl rfl) ((hs.2 0 rfl).trans rfl))⟩,
        .inr ⟨gk0 rfl, fun A w' γ hb hF hs => g_eq (op_move (.tmp 2) (.inl rfl) ((hs.2 2 rfl).trans rfl))⟩,
        .inr ⟨gk0 rfl, fun A w' γ hb hF hs => g_eq (op_move (.tmp 11) (.inl rfl) ((hs.2 11 rfl).trans rfl))⟩,
        .inr ⟨gk0 rfl, fun A w' γ hb hF hs => g_eq (op_idxa 43 (.tmp 46) (.tmp 47) rfl ((hs.1 1 rfl 46 rfl).trans (hF 1 rfl)) ((hs.1 2 rfl 47 rfl).trans (hF 2 rfl)) (R.out.1 _))⟩,
        .inr ⟨gk0 rfl, fun A w' γ hb hF hs => g_eq (op_mf 25 (.tmp 48) 0 0 rfl (g) (j) ((hs.1 3 rfl 48 rfl).trans (hF 3 rfl)) fun _ _ _ => by kernel_rfl)⟩,
        .inr ⟨gk0 rfl, fun A w' γ hb hF hs => g_eq (op_cel 9 (.tmp 49) rfl _ ((hs.1 4 rfl 49 rfl).trans (hF 4 rfl)) _ ((hb.cell (p := ⟨g, j, none⟩) hg).trans q1) _ Tryd.underlying9 rfl)⟩,
        .inr ⟨gk0 rfl, fun A w' γ hb hF hs => g_eq (op_move (.tmp 2) (.inl rfl) ((hs.2 2 rfl).trans rfl))⟩,
        .inr ⟨gk0 rfl, fun A w' γ hb hF hs => g_eq (op_move (.tmp 11) (.inl rfl) ((hs.2 11 rfl).trans rfl))⟩,
        .inr ⟨gk0 rfl, fun A w' γ hb hF hs => g_eq (op_idxa 43 (.tmp 51) (.tmp 52) rfl ((hs.1 6 rfl 51 rfl).trans (hF 6 rfl)) ((hs.1 7 rfl 52 rfl).trans (hF 7 rfl)) (R.out.1 _))⟩,
        .inr ⟨gk0 rfl, fun A w' γ hb hF hs => g_eq (op_mf 25 (.tmp 53) 1 1 rfl (g) (j) ((hs.1 8 rfl 53 rfl).trans (hF 8 rfl)) fun _ _ _ => by kernel_rfl)⟩,
        .inr ⟨gk0 rfl, fun A w' γ hb hF hs => g_eq (op_cel 23 (.tmp 54) rfl _ ((hs.1 9 rfl 54 rfl).trans (hF 9 rfl)) _ ((hb.cell (p := ⟨g, j + 1, none⟩) hg).trans q2) _ Tryd.underlying23 rfl)⟩,
        .inr ⟨gk0 rfl, fun A w' γ hb hF hs => g_eq (op_bldF S p m d (.tmp 50) (.tmp 55) rfl ((hs.1 5 rfl 50 rfl).trans (hF 5 rfl)) ((hs.1 10 rfl 55 rfl).trans (hF 10 rfl)))⟩,
        .inr ⟨gk0 rfl, fun A w' γ hb hF hs => g_call 9 #[.int .u32 magic, .agg #[.string S, .slice p m d]] (exec_call _ 9 #[.int .u32 magic, .agg #[.string S, .slice p m d]] rfl rfl (oargs2 ((hs.1 0 rfl 45 rfl).trans (hF 0 rfl)) ((hs.1 11 rfl 56 rfl).trans (hF 11 rfl))) Tryd.func9 rfl rfl) (R.out.2.1 w' hb)⟩,
        .inr ⟨gk0 rfl, fun A w' γ hb hF hs => g_of (PutP.keep E l) (op_move (.tmp 57) (.inl rfl) (hs.1 12 rfl 57 rfl)) (hF 12 rfl)⟩,
        .inr ⟨gk0 rfl, fun A w' γ hb hF hs => by obtain ⟨v, e, hv⟩ := hF 13 rfl; exact g_of (clo_keeps l) (op_extract (.tmp 44) 0 _ rfl ((hs.1 13 rfl 44 rfl).trans e) rfl) hv⟩,
        .inr ⟨gk0 rfl, fun A w' γ hb hF hs => by obtain ⟨v, e, hv⟩ := hF 13 rfl; exact g_eq (op_extract (.tmp 44) 1 _ rfl ((hs.1 13 rfl 44 rfl).trans e) rfl)⟩,
        .inr ⟨gk0 rfl, fun A w' γ hb hF hs => g_of (clo_keeps l) (op_move (.tmp 58) (.inr rfl) (hs.1 14 rfl 58 rfl)) (hF 14 rfl)⟩,
        .inr ⟨gk0 rfl, fun A w' γ hb hF hs => g_eq (op_move (.tmp 59) (.inr rfl) ((hs.1 15 rfl 59 rfl).trans (hF 15 rfl)))⟩,
        trivial⟩ ?_
      intro γ wx hb hF
      have hu12 := hF 16 (by decide)
      have ez : γ 17 = .int .i64 (E : Nat) := hF 17 (by decide)
      simp only [Fr, if_true, Act.put, List.setIfInBounds_toArray, List.set_cons_zero, List.set_cons_succ]
      rw [ez]
      generalize γ 16 = u12 at *
      clear ez hF
      obtain ⟨a12, c12, rfl, r1, r2, r3, r4⟩ := hu12
      obtain ⟨ln, hln⟩ : ∃ ln, l.length = ln := ⟨_, rfl⟩
      rw [hln] at r2 r4 ⊢
      have RB := Lib.hid (And.intro hb (And.intro r1 (And.intro r2 (And.intro r3 (And.intro r4 hln))))); clear hb r1 r2 r3 r4 hln
      obtain ⟨i1, cP, hO, hW, hA, hF0, hB, cx, hS, hm2, hE, hl, q5⟩ := R.out
      clear cP
      have hO := own1_below hO RB.out.1
      have hW := hW.below RB.out.1
      have hB := bt hB RB.out.1
      have zx : w.heap.size ≤ wx.heap.size := hB.size
      clear q1 q2 hg
      cases hok : cmdOk x.1 with
      | false =>
        obtain rfl : E = 2 := by rw [← hE, putE_bad hok]
        have G := Lib.hid (And.intro hO (And.intro hW (And.intro hA (And.intro hF0 hB)))); clear hO hW hA hF0 hB cx hS hm2 hE hl q5 i1 R hok
        go_wp2
        go_roundw
        case rel => exact ⟨k + 1, all, want, bad, na, by omega, by go_num, rfl, by omega, by omega, G.out.1, G.out.2.1, G.out.2.2.1, G.out.2.2.2.1, G.out.2.2.2.2⟩
        case measure => simp [intOf]; omega
      | true =>
        obtain rfl : E = 0 := by rw [← hE, putE_good hok (by omega)]
        have el : l = headOf magic x.1 x.2 ++ x.2 := by rw [← hl, putL_good hok (by omega)]
        have eln : ln = 24 + m := by rw [← RB.out.2.2.2.2.2, el, put_length hok, hm2]
        have hnm : na + ln ≤ 140737488355328 := by omega
        have hna2 : na + ln ≤ 424 * (k + 1) := by omega
        have hsl := hW.own
        have G := Lib.hid (And.intro hO (And.intro hW (And.intro hA (And.intro hF0 (And.intro hB (And.intro el (And.intro eln hok))))))); clear hO hW hA hF0 hB hE hl q5 R hok el eln hna
        go_wp2_with (at_builtin; refine wl_appB G.out.1 rfl _ _ 23 rfl Tryd.underlying23 i0 I.out.1 I.out.2.1 I.out.2.2.1 I.out.2.2.2 rfl a12 ln c12 l rfl RB.out.2.1 RB.out.2.2.2.2.2 RB.out.2.2.2.2.1 hnm zx ?_)
        intro v8 w2 o2 g2 ho2
        replace o2 : w2.ownsRow w.heap.size 5 1 v8 (na + ln) ((all ++ l).map fun c => Value.int .u8 (c.toNat : Int)) := by rw [List.map_append]; exact o2
        have hW2 := G.out.2.1.grown g2 G.out.2.2.1
        have hA2 := G.out.2.2.1.grow ho2 hsl
        have hB2 := below_grown G.out.2.2.2.2.1 g2 zx (fun kk hk => (G.out.1.lt kk hk).1)
        have z2 : w.heap.size ≤ w2.heap.size := hB2.size
        have hF0 := G.out.2.2.2.1
        obtain ⟨a8', c8', rfl⟩ := own_slice o2
        clear hsl
        cases bad with
        | true =>
          have hF2 := rowF_bad (b := l) hF0
          have G2 := Lib.hid (And.intro o2 (And.intro hW2 (And.intro hA2 (And.intro hF2 hB2)))); clear o2 hW2 hA2 hF0 hF2 hB2 cx hS hm2 i1 g2 ho2
          go_wp2
          go_roundw
          case rel => exact ⟨k + 1, all ++ l, want, true, na + ln, by omega, by go_num, rfl, hna2, by omega, G2.out.1, G2.out.2.1, G2.out.2.2.1, G2.out.2.2.2.1, G2.out.2.2.2.2⟩
          case measure => simp [intOf]; omega
        | false =>
          have q1 := (hB2.cell (p := ⟨g, j, none⟩) Q.out.1).trans Q.out.2.1
          have q2 := (hB2.cell (p := ⟨g, j + 1, none⟩) Q.out.1).trans Q.out.2.2
          have hmx := KK.out.2
          obtain ⟨_, _, _, _, _, el, eln, hok⟩ := G.out
          by_cases hp : K < m
          · have hpi : (K : Int) < (m : Int) := by omega
            have hF2 := rowF_big hF0 hok (show K < x.2.length by omega) (by omega)
            rw [← el] at hF2
            have G2 := Lib.hid (And.intro o2 (And.intro hW2 (And.intro hA2 (And.intro hF2 hB2)))); clear o2 hW2 hA2 hF0 hF2 hB2 cx hS hm2 g2 ho2 el eln hok
            go_wp2
            go_roundw
            case rel => exact ⟨k + 1, all ++ l, want, true, na + ln, by omega, by go_num, rfl, hna2, by omega, G2.out.1, G2.out.2.1, G2.out.2.2.1, G2.out.2.2.2.1, G2.out.2.2.2.2⟩
            case measure => simp [intOf]; omega
          · have hpi : ¬ (K : Int) < (m : Int) := by omega
            have hF2 := rowF_good hF0 hok (show x.2.length ≤ K by omega) K4
            rw [← el] at hF2
            have hbs := fun w => bsMR_run S p m d w
            have k2 : Below w2.heap.size w2 (w2.alloc (.cells #[.string S, .slice p m d] 25)) := ba (Below.refl _ _) _
            have hBk : Blk (w2.alloc (.cells #[.string S, .slice p m d] 25)) w2.heap.size 25 #[.string (bstr x.1), .slice p m d] := by rw [← hS]; exact Blk.new _ _ _
            have zz : w.heap.size ≤ (w2.alloc (.cells #[.string S, .slice p m d] 25)).heap.size := by rw [World.size_alloc]; omega
            have wl6 : want.length ≤ 1000000 := by omega
            have G2 := Lib.hid (And.intro (own1_below o2 k2) (And.intro (hW2.below k2) (And.intro hA2 (And.intro hF2 (And.intro (hB2.trans (k2.mono z2)) (And.intro hBk cx)))))); clear o2 hW2 hA2 hF0 hF2 hB2 cx hS hm2 g2 ho2 el eln hok hBk k2
            have zz' := Lib.hid zz; clear zz
            go_wp2_with (at_builtin; refine wl_appW G2.out.2.1 G2.out.2.2.2.2.2.1 G2.out.2.2.2.2.2.2 rfl _ _ rfl rfl rfl wl6 zz'.out ?_)
            intro v9 w3 o3 g3 ho3
            replace ho3 : v9.ownBlock = (Value.slice a9 want.length c9).ownBlock ∨ v9.ownBlock = some (w2.alloc (.cells #[.string S, .slice p m d] 25)).heap.size := by rw [World.size_alloc]; exact ho3
            have hA3 := (G2.out.2.2.1.symm.grow ho3 G2.out.1.lt).symm
            have hO3 := G2.out.1.kept g3 G2.out.2.2.1.symm.ne
            have hB3 := below_grown G2.out.2.2.2.2.1 g3 zz'.out (fun kk hk => (G2.out.2.1.own kk hk).1)
            have G3 := Lib.hid (And.intro hO3 (And.intro o3 (And.intro hA3 (And.intro G2.out.2.2.2.1 hB3)))); clear hO3 o3 hA3 hB3 g3 ho3 G2 hbs
            go_wp2
            go_roundw
            case rel => exact ⟨k + 1, all ++ l, want ++ [(x.1, x.2)], false, na + ln, by omega, by go_num, rfl, hna2, by rw [List.length_append]; simp; omega, G3.out.1, G3.out.2.1, G3.out.2.2.1, G3.out.2.2.2.1, G3.out.2.2.2.2⟩
            case measure => simp [intOf]; omega
    · obtain rfl : k = n := by omega
      obtain ⟨a', c', e, e1, e2, e3, e4, e5⟩ := own_rds hO
      injection e with z1 z2 z3
      subst z1 z3
      have na6 : na ≤ 1000000 := by omega
      have c86 : c8 ≤ 9223372036854775807 := by unfold maxLen at e4; omega
      have wl6 : want.length ≤ 1000000 := by omega
      cases bad with
      | true =>
        have E0 := Lib.hid (And.intro hO (And.intro hW (And.intro (rowF_endT hF0) (And.intro hB (And.intro e1 (And.intro e2 (And.intro e3 e5))))))); clear hO hW hA hF0 hB e1 e2 e3 e4 e5 hna
        go_wp2_with fail
        refine (KK.out.1 _).mono ?_
        rintro e w5 ⟨rfl, hb5⟩
        have B5 := bt E0.out.2.2.2.1 hb5
        have cF := Feed_w magic hm K K4 0 none 0 0 [] a8 na c8 all rfl E0.out.2.2.2.2.1 (Nat.le_refl _) (by decide) E0.out.2.2.2.2.2.2.1 c86 (by omega) na6 (fun _ => ⟨rfl, rfl⟩) E0.out.2.2.2.2.2.2.2 _ (.inl rfl) (E0.out.2.2.2.2.2.1.calls hb5) (H.out.1.calls B5) want [] 3 0 rfl ((feedF_new magic K4 all).trans E0.out.2.2.1)
        have hW5 := E0.out.2.1.below hb5
        have G1 := Lib.hid (And.intro cF (And.intro hW5 B5)); clear cF hW5 B5 hb5
        unfold bufC
        go_wp2_with fail
        refine G1.out.1.mono ?_
        rintro e w6 ⟨u1, c1', v1, k1, rfl, hb6, hF1⟩
        have k6 : Below w6.heap.size w6 (w6.alloc (.cells (bufA magic K u1 0 c1' 3) 38)) := ba (Below.refl _ _) _
        have X6 : Blk (w6.alloc (.cells (bufA magic K u1 0 c1' 3) 38)) w6.heap.size 38 (bufA magic K u1 0 c1' 3) := Blk.new _ _ _
        have S6 : SlM want (.slice v1 want.length k1) (w6.alloc (.cells (bufA magic K u1 0 c1' 3) 38)) := ((hF1.calls k6).msgO (Nat.le_refl _)).slm
        have B6 := bt (bt G1.out.2.2 hb6) k6
        have hW6 := ((G1.out.2.1.below hb6).below k6).slm B6
        have G6 := Lib.hid (And.intro X6 (And.intro S6 (And.intro hW6 B6))); clear X6 S6 hW6 B6 k6 hb6 hF1 G1 E0
        go_wp2_with fail
        refine (msgs_ex want (.slice v1 want.length k1) wl6 _ G6.out.2.1).mono ?_
        rintro e w7 ⟨u7, rfl, hb7, hS7⟩
        have G7 := Lib.hid (And.intro (G6.out.1.calls hb7) (And.intro hS7 (And.intro (G6.out.2.2.1.calls hb7) (bt G6.out.2.2.2 hb7)))); clear hS7 hb7 G6
        go_wp2_with fail
        refine (Msgs_true want u7 (.slice a9 want.length c9) wl6 _ G7.out.2.1 G7.out.2.2.1).mono ?_
        rintro e w8 ⟨rfl, hb8⟩
        have X8 := G7.out.1.calls hb8
        have n2 : w8.cell? ⟨w6.heap.size, 2, none⟩ = some (.slice u1 0 c1') := X8.cell 2
        have n3 : w8.cell? ⟨w6.heap.size, 3, none⟩ = some (.int .i64 3) := X8.cell 3
        have G8 := Lib.hid (bt G7.out.2.2.2 hb8); clear hb8 X8 G7
        go_wp2_with fail
        go_ret
        exact ⟨rfl, G8.out⟩
      | false =>
        have E0 := Lib.hid (And.intro hO (And.intro hW (And.intro (rowF_endF hF0) (And.intro hB (And.intro e1 (And.intro e2 (And.intro e3 e5))))))); clear hO hW hA hF0 hB e1 e2 e3 e4 e5 hna
        go_wp2_with fail
        refine (KK.out.1 _).mono ?_
        rintro e w5 ⟨rfl, hb5⟩
        have B5 := bt E0.out.2.2.2.1 hb5
        have cF := Feed_w magic hm K K4 0 none 0 0 [] a8 na c8 all rfl E0.out.2.2.2.2.1 (Nat.le_refl _) (by decide) E0.out.2.2.2.2.2.2.1 c86 (by omega) na6 (fun _ => ⟨rfl, rfl⟩) E0.out.2.2.2.2.2.2.2 _ (.inl rfl) (E0.out.2.2.2.2.2.1.calls hb5) (H.out.1.calls B5) want [] 0 0 rfl ((feedF_new magic K4 all).trans E0.out.2.2.1)
        have hW5 := E0.out.2.1.below hb5
        have G1 := Lib.hid (And.intro cF (And.intro hW5 B5)); clear cF hW5 B5 hb5
        unfold bufC
        go_wp2_with fail
        refine G1.out.1.mono ?_
        rintro e w6 ⟨u1, c1', v1, k1, rfl, hb6, hF1⟩
        have k6 : Below w6.heap.size w6 (w6.alloc (.cells (bufA magic K u1 0 c1' 0) 38)) := ba (Below.refl _ _) _
        have X6 : Blk (w6.alloc (.cells (bufA magic K u1 0 c1' 0) 38)) w6.heap.size 38 (bufA magic K u1 0 c1' 0) := Blk.new _ _ _
        have S6 : SlM want (.slice v1 want.length k1) (w6.alloc (.cells (bufA magic K u1 0 c1' 0) 38)) := ((hF1.calls k6).msgO (Nat.le_refl _)).slm
        have B6 := bt (bt G1.out.2.2 hb6) k6
        have hW6 := ((G1.out.2.1.below hb6).below k6).slm B6
        have G6 := Lib.hid (And.intro X6 (And.intro S6 (And.intro hW6 B6))); clear X6 S6 hW6 B6 k6 hb6 hF1 G1 E0
        go_wp2_with fail
        refine (msgs_ex want (.slice v1 want.length k1) wl6 _ G6.out.2.1).mono ?_
        rintro e w7 ⟨u7, rfl, hb7, hS7⟩
        have G7 := Lib.hid (And.intro (G6.out.1.calls hb7) (And.intro hS7 (And.intro (G6.out.2.2.1.calls hb7) (bt G6.out.2.2.2 hb7)))); clear hS7 hb7 G6
        go_wp2_with fail
        refine (Msgs_true want u7 (.slice a9 want.length c9) wl6 _ G7.out.2.1 G7.out.2.2.1).mono ?_
        rintro e w8 ⟨rfl, hb8⟩
        have X8 := G7.out.1.calls hb8
        have n2 : w8.cell? ⟨w6.heap.size, 2, none⟩ = some (.slice u1 0 c1') := X8.cell 2
        have n3 : w8.cell? ⟨w6.heap.size, 3, none⟩ = some (.int .i64 0) := X8.cell 3
        have G8 := Lib.hid (bt G7.out.2.2.2 hb8); clear hb8 X8 G7
        go_wp2_with fail
        go_ret
        exact ⟨rfl, G8.out⟩
end Go.Proofs.YticiipddilabfaaDoor

namespace Go.Proofs.YticiipddilabfaaDoor
open Go.ChangeShapes Go.WideShapes Go.ChangeAt Go.RowKit
open Go.ChangeMaps (open_string shut_string)
set_option linter.unusedVariables false

theorem Rows_walk2 (w : World) (hL : Laid w) (a0 : Int) (w0 : (Lit.int .u32 a0).wf = true) (most : Int) (w1 : (Lit.int .i64 most).wf = true) (a2 : Option Addr) (n2 c2 : Nat) (T2 : List MsgT) (hn : n2 = T2.length) (hS : SlM T2 (.slice a2 n2 c2) w) :
    Calls Tryd.prog 7 #[.int .u32 a0, .int .i64 most, .slice a2 n2 c2] w fun e w' => e = .returned (.bool true) ∧ Below w.heap.size w w' := by
  obtain ⟨k, rfl, hk⟩ : ∃ n : Nat, a0 = n ∧ n < 4294967296 := by
    simp [Lit.wf, IntKind.min, IntKind.max, IntKind.signed, IntKind.bits] at w0
    exact ⟨a0.toNat, by omega, by omega⟩
  exact Rows_walk w hL k hk most T2 a2 n2 c2 hn hS

set_option maxRecDepth 100000 in
theorem contractFrameRows (H : Type) (enc : TypeId × Value → H) (W : World) (base : Nat) (args : Array Value) (ds gs : List (DataW H)) (before : List MemPlace)
    (hval0 : ∀ (j : Nat) t v, Tryd.f7.params[j]? = some t → args[j]? = some v → Value.okWide Tryd.prog W .any base t v)
    (hW : DataW.Whole enc Tryd.prog Tryd.f7.params.toList Rows.frameRowsSpec.vars false W args.toList ds gs before)
    (hwt0 : (DataW.weightsEach Tryd.prog (Tryd.f7.params.toList ++ (OpenSpec.ofChange Rows.frameRowsSpec).bare.plain.varTypes Tryd.prog) (ds ++ gs)).all (· ≤ reachBytes) = true)
    (hL : Laid W) :
    Calls Tryd.prog 7 args W fun e W' => ∃ v, e = .returned v ∧ Rows.frameRowsSpec.post enc Tryd.prog Tryd.f7 false true false false W args v W' := by
  have hval : ∀ (j : Nat) t v, Tryd.f7.params[j]? = some t → args[j]? = some v → Value.okWide Tryd.prog W .any base t v := hval0
  have hW' := hW
  obtain ⟨p, q, hA0, hV, rfl, hfz, hnd⟩ := hW
  have hA : DataW.TrodAll enc Tryd.prog W 0 (fun _ => true) true Tryd.f7.params.toList args.toList ds p := hA0
  rw [Tryd.params7] at hA hval hwt0
  obtain ⟨v0, vs0, d0, ds0, p0, q0, hargs, rfl, rfl, h0, r0⟩ := trodAll_cons hA
  obtain ⟨v1, vs1, d1, ds1, p1, q1, rfl, rfl, rfl, h1, r1⟩ := trodAll_cons r0
  obtain ⟨v2, vs2, d2, ds2, p2, q2, rfl, rfl, rfl, h2, r2⟩ := trodAll_cons r1
  obtain ⟨rfl, rfl, rfl⟩ := trodAll_nil r2
  obtain rfl : args = #[v0, v1, v2] := by cases args; simp_all
  obtain ⟨rfl, rfl⟩ := trodVars_none hV
  have hwt : (DataW.weights Tryd.prog 22 d0).all (· ≤ reachBytes) = true ∧ (DataW.weights Tryd.prog 3 d1).all (· ≤ reachBytes) = true ∧ (DataW.weights Tryd.prog 43 d2).all (· ≤ reachBytes) = true := by
    have h : (DataW.weightsEach Tryd.prog [22, 3, 43] [d0, d1, d2]).all (· ≤ reachBytes) = true := hwt0
    simp only [DataW.weightsEach, List.all_append, Bool.and_eq_true, List.append_nil] at h
    simpa only [and_assoc, List.all_nil, and_true] using h
  obtain ⟨wt0, wt1, wt2⟩ := hwt
  obtain ⟨a0, rfl, rfl, rfl, w0⟩ := open_int Tryd.underlying22 (hval 0 22 v0 rfl rfl) h0
  obtain ⟨a1, rfl, rfl, rfl, w1⟩ := open_int Tryd.underlying3 (hval 1 3 v1 rfl rfl) h1
  have k2 := h2
  have lt2 : ∀ x ∈ p2, x.block < W.heap.size := by obtain ⟨m, hm⟩ := k2; exact DataW.trod_lt m _ _ _ hm
  obtain ⟨a2, n2, c2, T2, rfl, hn2, hS2⟩ := open_msgs (hval 2 43 _ rfl rfl) h2 wt2
  clear hA0 hval0
  refine (Rows_walk2 W hL a0 w0 a1 w1 a2 n2 c2 T2 hn2 hS2).mono fun e W' ⟨he, bel⟩ => ?_
  subst he
  exact ⟨_, rfl, _, _, _, [], _, [], hW', trodAll_mk1 (shut_bool Tryd.underlying4 _), (trodAll_cons_mk (shut_int Tryd.underlying22 w0) (trodAll_cons_mk (shut_int Tryd.underlying3 w1) (trodAll_cons_mk (Below.trod laidOut (by kernel_rfl) (of_decide_eq_true (by kernel_rfl)) k2 bel lt2) trodAll_mk0))), rfl, bel.frame _, fun h => by cases h⟩

theorem laid_metFrameRows (os : Os) : laidMet Tryd.prog Rows.frameRowsRow.laid ((laidWorldF os).forCall (fun _ _ => 0) ⟨#[], #[.int .u32 0, .int .i64 0, .slice none 0 0], []⟩).memory :=
  laidMet_of_run' 8 (by kernel_rfl) (by kernel_rfl)
theorem readsFrameRows (os : Os) {H : Type} (enc : TypeId × Value → H) : ∃ places, DataW.whole enc Tryd.prog ((laidWorldF os).forCall (fun _ _ => 0) ⟨#[], #[.int .u32 0, .int .i64 0, .slice none 0 0], []⟩).memory Tryd.f7.params.toList Rows.frameRowsSpec.vars false (#[.int .u32 0, .int .i64 0, .slice none 0 0] : Array Value).toList 8 = some ([.lit (.int .u32 0), .lit (.int .i64 0), .nil], [], places) :=
  ⟨[], by kernel_rfl⟩
set_option maxRecDepth 100000 in
theorem liftedFrameRows (os : Os) (started : os.Started) (H : Type) (enc : TypeId × Value → H) (F : Stop.Interp) :
    ReturnsInHanded {} Tryd.checked os 7 .any ((OpenSpec.ofChange Rows.frameRowsSpec).preRow enc Tryd.prog Tryd.f7 Rows.frameRowsRow.domain false Rows.frameRowsRow.laid) (((OpenSpec.ofChange Rows.frameRowsSpec).at F).post enc Tryd.prog Tryd.f7 false true false false) := by
  obtain ⟨places, hx⟩ := readsFrameRows os enc
  refine returnsInHanded_of_row (C := Tryd.checked) (s := OpenSpec.ofChange Rows.frameRowsSpec) own started (by kernel_rfl) Tryd.func7
    (witness_row_at (enc := enc) (C := Tryd.checked) false (laidWorldF os) #[.int .u32 0, .int .i64 0, .slice none 0 0] rfl (by kernel_rfl) (by kernel_rfl) (by kernel_rfl)
      (OpenSpec.preRow_of_cond 8 hx (by kernel_rfl) (fun k hk => by cases hk) (by kernel_rfl) (laid_metFrameRows os))) ?_
  intro W base args ds gs before hval hW _ _ hwt hL _ _
  exact contractFrameRows H enc W base args ds gs before hval hW hwt (LaidF_of hL)
theorem FrameRows_said : Rows.FrameRowsSaid :=
  OpenClaim.holds_of_cond 7 Tryd.f7 rfl rfl rfl rfl rfl rfl rfl ⟨rfl, rfl, rfl, rfl, rfl⟩ rfl rfl rfl rfl rfl (by kernel_rfl) Tryd.func7 (by kernel_rfl)
    (of_decide_eq_true (by kernel_rfl)) (by unfold Func.isWrapper; first | (rw [if_pos (by decide +kernel)]; kernel_rfl) | (rw [if_neg (by decide +kernel)]; exact ⟨rfl, rfl⟩))
    (fun os started H enc _ F => by rw [OpenClaim.pre_eq_preRow]; exact liftedFrameRows os started H enc F)
theorem FrameRows_holds : Rows.FrameRowsCardSaid :=
  Claim7.holds_tied_plain_at .later [] _ _ _ _ FrameRows_said (fun _ h => by cases h) (by kernel_rfl) (fun _ h => by cases h) frameRows_row_tie rfl ⟨rfl, rfl⟩ (by kernel_rfl) rfl (plain_of (by kernel_rfl) Tryd.func7 (by kernel_rfl)) (by kernel_rfl)
#print axioms FrameRows_holds
end Go.Proofs.YticiipddilabfaaDoor
