/- How arguments are opened: a state of a sum, by value. Rows of bytes of the call's own: one byte more; a row that is laid with one byte. What sha2.Write comes to, of a state with no rest. -/
import Derived.Test.YtlegcceaoglpoaaDoorIsD
namespace Go.Proofs.YtlegcceaoglpoaaDoor
open Go.ChangeShapes Go.WideShapes Go.ChangeAt Go.RowKit
set_option linter.unusedVariables false
theorem open_bytes_at {H : Type} {enc : TypeId × Value → H} {P : Program} {w : World} {t e : TypeId} {d : DataW H} {p : List MemPlace} {fuel : Nat} {a0 : Option Addr} {len cap : Nat} (ht : P.underlying t = some (.slice e)) (he : P.underlying e = some (.int .u8)) (hc : P.cellsOf e = 1) (hby : P.bytesOf e = 1)
    (hf : DataW.trod enc P w 0 (fun _ => true) true fuel t [.slice a0 len cap] = some (d, p)) (hwt : (DataW.weights P t d).all (· ≤ reachBytes) = true) :
    ∃ (a : Option Addr) (n c : Nat) (l : List UInt8), Value.slice a0 len cap = .slice a n c ∧ l.length = n ∧ n ≤ c ∧ c ≤ 140737488355328 ∧ (a = none → n = 0 ∧ c = 0) ∧ RdS w a l := by
  rcases open_ints ht he hc hf with ⟨hcs, hx⟩ | ⟨a, len', cap', zs, hcs, _, hl, hm, hz, hx, hcell, hwz⟩
  · simp [Value.cells] at hcs
    obtain ⟨rfl, rfl, rfl⟩ := hcs
    exact ⟨none, 0, 0, [], rfl, rfl, Nat.le_refl _, by omega, fun _ => ⟨rfl, rfl⟩, .inl rfl⟩
  · simp [Value.cells] at hcs
    obtain ⟨rfl, rfl, rfl⟩ := hcs
    simp only [if_true] at hz
    simp only [Prod.mk.injEq] at hx
    obtain ⟨rfl, rfl⟩ := hx
    have hcap : cap ≤ 140737488355328 := by
      simp only [DataW.weights, ht, List.all_cons, Bool.and_eq_true, decide_eq_true_eq] at hwt
      have h1 := hwt.1
      rw [hby, Nat.mul_one] at h1
      have e1 : (lits (H := H) IntKind.u8 (zs.take len)).length + (lits (H := H) IntKind.u8 (zs.drop len)).length = cap := by
        simp [lits]; omega
      rw [e1] at h1
      unfold reachBytes at h1
      omega
    have hlz : len ≤ zs.length := by rw [hz]; exact hl
    refine ⟨some a, len, cap, (zs.take len).map fun z => UInt8.ofNat z.toNat, rfl, by simp; omega, hl, hcap, fun h => (by cases h), ?_⟩
    by_cases h0 : len = 0
    · left
      subst h0
      rfl
    · right
      have hc0 := hcell 0 (by omega)
      obtain ⟨e1, e2⟩ := spot_none (w := w) (a := a) (by simpa [Addr.add] using hc0)
      refine ⟨a.block, a.off, by rw [← e1], e2, fun i hi => ?_⟩
      have hi' : i < len := by simp at hi; omega
      have hci := hcell i (by omega)
      have ea : a.add i = ⟨a.block, a.off + i, none⟩ := by
        unfold Addr.add
        split
        · rename_i h; subst h; exact e1
        · rfl
      rw [ea] at hci
      rw [hci]
      have hzi : zs.getD i 0 = zs[i]'(by omega) := by simp [List.getD, List.getElem?_eq_getElem (show i < zs.length by omega)]
      have hgd : (((zs.take len).map fun z => UInt8.ofNat z.toNat).getD i 0) = UInt8.ofNat (zs[i]'(by omega)).toNat := by
        rw [List.getD, List.getElem?_map, List.getElem?_take_of_lt hi', List.getElem?_eq_getElem (by omega)]
        rfl
      rw [hgd, hzi, ← u8_of _ (hwz _ (List.getElem_mem _))]
section
variable {P : Program} {w : World} {r : Reach} {b0 : Nat}
theorem okWide_cellsS {t : TypeId} {fs : Array Field} {v : Value} {ts : List TypeId} (ht : P.underlying t = some (.struct fs)) (hct : P.cellTypes P.depth t = some ts) (hsz : P.cellsOf t = ts.length) (hv : Value.okWide P w r b0 t v) :
    ∃ cs : Array Value, v = .agg cs ∧ cs.size = ts.length ∧ ∀ (i : Nat) (u : TypeId), ts[i]? = some u → ∃ x, cs[i]? = some x ∧ Cell.okWide P w r b0 u x := by
  simp only [Value.okWide, ht] at hv
  obtain ⟨cs, rfl, h2, ts', h3, _, h5⟩ := hv
  rw [hct] at h3
  obtain rfl : ts = ts' := Option.some.inj h3
  rw [hsz] at h2
  refine ⟨cs, rfl, h2, fun i u hu => ?_⟩
  have hi : i < ts.length := (List.getElem?_eq_some_iff.1 hu).1
  have hc : cs[i]? = some (cs[i]'(by omega)) := Array.getElem?_eq_getElem (by omega)
  obtain ⟨u', hu', hk⟩ := h5 i _ hc
  rw [Nat.mod_eq_of_lt hi, hu] at hu'
  obtain rfl := Option.some.inj hu'
  exact ⟨_, hc, hk⟩
theorem cell_intS {u : TypeId} {k : IntKind} {x : Value} (hu : P.underlying u = some (.int k)) (h : Cell.okWide P w r b0 u x) : ∃ n, x = .int k n ∧ (Lit.int k n).wf = true := by
  simp only [Cell.okWide, hu] at h
  cases x <;> simp_all [Cell.ok, IntKind.has, Lit.wf]
theorem cell_sliceS {u e : TypeId} {x : Value} (hu : P.underlying u = some (.slice e)) (h : Cell.okWide P w r b0 u x) : ∃ a n c, x = .slice a n c := by
  simp only [Cell.okWide, hu] at h
  cases x <;> simp_all [Cell.ok]
end
theorem wd_of {k : Int} (h : (Lit.int .u32 k).wf = true) : ∃ x : Wd, k = (wn x : Int) := by
  simp [Lit.wf, IntKind.min, IntKind.max, IntKind.signed, IntKind.bits] at h
  refine ⟨BitVec.ofNat 32 k.toNat, ?_⟩
  unfold wn
  rw [BitVec.toNat_ofNat]
  omega
theorem u64_of {k : Int} (h : (Lit.int .u64 k).wf = true) : ∃ n : Nat, k = n ∧ n < W64 := by
  simp [Lit.wf, IntKind.min, IntKind.max, IntKind.signed, IntKind.bits] at h
  exact ⟨k.toNat, by omega, by unfold W64; omega⟩
set_option maxRecDepth 100000 in
theorem open_state {H : Type} {enc : TypeId × Value → H} {w : World} {r : Reach} {b0 : Nat} {v : Value} {d : DataW H} {p : List MemPlace} (hv : Value.okWide Tryd.prog w r b0 87 v)
    (h : DataW.Trod enc Tryd.prog w 0 (fun _ => true) true 87 v d p) (hwt : (DataW.weights Tryd.prog 87 d).all (· ≤ reachBytes) = true) :
    ∃ (Hs : List Wd) (a : Option Addr) (n c : Nat) (l : List UInt8) (N : Nat), v = .agg (stC Hs (.slice a n c) N) ∧ Hs.length = 8 ∧ N < W64 ∧ l.length = n ∧ n ≤ c ∧ c ≤ 140737488355328 ∧ (a = none → n = 0 ∧ c = 0) ∧ RdS w a l := by
  have hct : Tryd.prog.cellTypes Tryd.prog.depth 87 = some [22, 22, 22, 22, 22, 22, 22, 22, 23, 63] := by kernel_rfl
  obtain ⟨cs, rfl, hsz, hc⟩ := okWide_cellsS Tryd.underlying87 hct (by kernel_rfl) hv
  obtain ⟨x0, e0, k0⟩ := hc 0 _ rfl
  obtain ⟨x1, e1, k1⟩ := hc 1 _ rfl
  obtain ⟨x2, e2, k2⟩ := hc 2 _ rfl
  obtain ⟨x3, e3, k3⟩ := hc 3 _ rfl
  obtain ⟨x4, e4, k4⟩ := hc 4 _ rfl
  obtain ⟨x5, e5, k5⟩ := hc 5 _ rfl
  obtain ⟨x6, e6, k6⟩ := hc 6 _ rfl
  obtain ⟨x7, e7, k7⟩ := hc 7 _ rfl
  obtain ⟨x8, e8, k8⟩ := hc 8 _ rfl
  obtain ⟨x9, e9, k9⟩ := hc 9 _ rfl
  obtain ⟨z0, rfl, w0⟩ := cell_intS Tryd.underlying22 k0
  obtain ⟨z1, rfl, w1⟩ := cell_intS Tryd.underlying22 k1
  obtain ⟨z2, rfl, w2⟩ := cell_intS Tryd.underlying22 k2
  obtain ⟨z3, rfl, w3⟩ := cell_intS Tryd.underlying22 k3
  obtain ⟨z4, rfl, w4⟩ := cell_intS Tryd.underlying22 k4
  obtain ⟨z5, rfl, w5⟩ := cell_intS Tryd.underlying22 k5
  obtain ⟨z6, rfl, w6⟩ := cell_intS Tryd.underlying22 k6
  obtain ⟨z7, rfl, w7⟩ := cell_intS Tryd.underlying22 k7
  obtain ⟨a, n, c, rfl⟩ := cell_sliceS Tryd.underlying23 k8
  obtain ⟨z9, rfl, w9⟩ := cell_intS Tryd.underlying63 k9
  obtain ⟨y0, rfl⟩ := wd_of w0
  obtain ⟨y1, rfl⟩ := wd_of w1
  obtain ⟨y2, rfl⟩ := wd_of w2
  obtain ⟨y3, rfl⟩ := wd_of w3
  obtain ⟨y4, rfl⟩ := wd_of w4
  obtain ⟨y5, rfl⟩ := wd_of w5
  obtain ⟨y6, rfl⟩ := wd_of w6
  obtain ⟨y7, rfl⟩ := wd_of w7
  obtain ⟨N, rfl, hN⟩ := u64_of w9
  have hcs : cs = stC [y0, y1, y2, y3, y4, y5, y6, y7] (.slice a n c) N := by
    obtain ⟨l⟩ := cs
    match l, hsz with
    | [q0, q1, q2, q3, q4, q5, q6, q7, q8, q9], _ =>
      simp at e0 e1 e2 e3 e4 e5 e6 e7 e8 e9
      subst e0 e1 e2 e3 e4 e5 e6 e7 e8 e9
      rfl
  obtain ⟨fuel, hf⟩ := h
  obtain ⟨xs, m, _, hx, hl, hlen, hg⟩ := DataW.trod_struct Tryd.underlying87 hf
  have hlen3 : xs.length = 3 := hlen
  have hd : d = .agg (xs.map (·.1)) := by
    have := congrArg Prod.fst hx
    simpa using this
  obtain ⟨u0, u1, u2, rfl⟩ : ∃ u0 u1 u2, xs = [u0, u1, u2] := by
    match xs, hlen3 with
    | [u0, u1, u2], _ => exact ⟨_, _, _, rfl⟩
  have h1 := hg 1 _ rfl
  have hwb : (DataW.weights Tryd.prog 23 u1.1).all (· ≤ reachBytes) = true := by
    rw [hd] at hwt
    have hw2 : (DataW.weightsEach Tryd.prog [81, 23, 63] [u0.1, u1.1, u2.1]).all (· ≤ reachBytes) = true := by
      have hu := Tryd.underlying87
      simp only [DataW.weights, hu] at hwt
      exact hwt
    simp only [DataW.weightsEach, List.all_append, Bool.and_eq_true] at hw2
    exact hw2.2.1
  subst hcs
  have h1' : DataW.trod enc Tryd.prog w 0 (fun _ => true) true m 23 [.slice a n c] = some (u1.1, u1.2) := h1
  obtain ⟨a', n', c', l, he, q1, q2, q3, q4, q5⟩ := open_bytes_at Tryd.underlying23 Tryd.underlying5 (by kernel_rfl) (by kernel_rfl) h1' hwb
  injection he with he1 he2 he3
  subst he1 he2 he3
  exact ⟨[y0, y1, y2, y3, y4, y5, y6, y7], a, n, c, l, N, rfl, rfl, hN, q1, q2, q3, q4, q5⟩
end Go.Proofs.YtlegcceaoglpoaaDoor

namespace Go.Proofs.YtlegcceaoglpoaaDoor
open Go.RowKit
set_option linter.unusedVariables false
/-- 'append(v, c)' where v is the call's own row of bytes. -/
theorem wl_one {P : Program} {w : World} {ops : Array Oper} {rest : List Oper} {o : Oper} {a : Act} {Q : Exit → Act → World → Prop} {base : Nat} {e : TypeId} {v : Value} {n : Nat} {xs : List UInt8} (hown : w.ownsRow base e 1 v n (xs.map fun c => Value.int .u8 (c.toNat : Int)))
    (hgd : o.guard = none) (s x : Operand) (t : TypeId) (ho : o.op = .call { callee := .builtin .append, args := #[s, x], argTypes := #[t, t] }) (ht : P.underlying t = some (.slice e)) (i : TypeInfo) (hi : P.info? e = some i) (hz : i.zero = some (.int .u8 0)) (h1 : i.size = 1) (hby : i.bytes = 1)
    (hs : a.eval s = v) (g c : Nat) (ch : UInt8) (hx : a.eval x = .slice (some ⟨g, 0, none⟩) 1 c) (hc : w.cell? ⟨g, 0, none⟩ = some (.int .u8 ch.toNat)) (hn : n + 1 ≤ 140737488355328) (hbase : base ≤ w.heap.size)
    (k : ∀ v' w', w'.ownsRow base e 1 v' (n + 1) ((xs ++ [ch]).map fun c => Value.int .u8 (c.toNat : Int)) → w.grownBy w' v.ownBlock → ¬ v' = .slice none 0 0 → wpList P ops Q rest (a.put o.dst v') w') : wpList P ops Q (o :: rest) a w := by
  refine wpList_append_own w hgd s x t ho base e i (.int .u8 0) 1 1 ht hi hz h1 hby rfl (by omega) v n _ hs hown ⟨g, 0, none⟩ 1 c [Value.int .u8 (ch.toNat : Int)] hx rfl (fun j u hu => ?_) (fun u hu => ?_) (by unfold maxLen; omega) (by omega) hbase fun v' w' h2 h3 h4 => ?_
  · match j with
    | 0 => injection hu with hu; subst hu; exact hc
    | j + 1 => cases hu
  · obtain rfl := List.mem_singleton.1 hu
    rfl
  · refine k v' w' (by rw [List.map_append]; exact h2) h3 fun h5 => by have := (h4.1 h5).2; omega
/-- What a row of one's own is, as a slice. -/
theorem own_slice {w : World} {base : Nat} {e : TypeId} {v : Value} {n : Nat} {xs : List Value} (h : w.ownsRow base e 1 v n xs) : ∃ a c, v = .slice a n c := by
  obtain ⟨_, ⟨rfl, rfl⟩ | ⟨g, cap, _, rfl, _⟩⟩ := h
  · exact ⟨_, _, rfl⟩
  · exact ⟨_, _, rfl⟩
/-- A row that is laid with its bytes. -/
theorem own_laid (w : World) (l : List UInt8) (e : TypeId) (n : Nat) (hn : l.length = n) (hm : n ≤ maxLen) {base : Nat} (hb : base ≤ w.heap.size) :
    (w.alloc (.cells (l.map fun c => Value.int .u8 (c.toNat : Int)).toArray e)).ownsRow base e 1 (.slice (some ⟨w.heap.size, 0, none⟩) n n) n (l.map fun c => Value.int .u8 (c.toNat : Int)) :=
  ⟨by simp [hn], .inr ⟨w.heap.size, n, _, rfl, hb, heap_alloc_new w _, Nat.le_refl _, hm, by simp [hn], List.take_of_length_le (by simp [hn])⟩⟩
/-- What is read of a row of one's own. -/
theorem own_rds {w : World} {base : Nat} {e : TypeId} {v : Value} {n : Nat} {l : List UInt8} (h : w.ownsRow base e 1 v n (l.map fun c => Value.int .u8 (c.toNat : Int))) :
    ∃ (a : Option Addr) (c : Nat), v = .slice a n c ∧ l.length = n ∧ RdS w a l ∧ n ≤ c ∧ c ≤ maxLen ∧ (a = none → n = 0 ∧ c = 0) := by
  by_cases hv : v = .slice none 0 0
  · obtain ⟨h1, h2 | ⟨g, cap, cur, h3, _⟩⟩ := h
    · obtain ⟨h3, rfl⟩ := h2
      refine ⟨none, 0, hv, by simpa using h1, .inl ?_, Nat.le_refl _, Nat.zero_le _, fun _ => ⟨rfl, rfl⟩⟩
      simpa using h1
    · rw [hv] at h3; cases h3
  · obtain ⟨g, cap, cur, rfl, hb, hbg, h1, h2, h3, h4⟩ := own_blk h hv
    exact ⟨some ⟨g, 0, none⟩, cap, rfl, h3, .inr ⟨g, 0, rfl, hbg.lt, fun i hi => (hbg.cell (0 + i)).trans (by rw [Nat.zero_add]; exact h4 i hi)⟩, h1, h2, fun h => by cases h⟩
end Go.Proofs.YtlegcceaoglpoaaDoor

namespace Go.Proofs.YtlegcceaoglpoaaDoor
open Go.RowKit
set_option linter.unusedVariables false

/-- What Write leaves: a state that has taken up t. -/
def WrPost (w : World) (He : List Wd) (t : List UInt8) (N : Nat) (e : Ending) (w' : World) : Prop :=
  ∃ (a : Option Addr) (c : Nat), e = .returned (.agg (stC (absH He t) (.slice a (absR t).length c) N)) ∧ RdS w' a (absR t) ∧ (absR t).length ≤ c ∧ c ≤ maxLen ∧ Below w.heap.size w w'

set_option maxRecDepth 100000 in
set_option maxHeartbeats 4000000 in
theorem Write_empty (H : List Wd) (hH : H.length = 8) (a : Option Addr) (len c n : Nat) (hn : n < W64) (hlen : len ≤ 9223372036854775807) (He : List Wd) (hHe : He.length = 8) (ae : Option Addr) (ce ne : Nat) (hne : ne < W64) (hce : ce ≤ maxLen)
    (hE : (len = n % 64 ∧ He = H ∧ ae = a ∧ ce = c ∧ ne = n ∧ len = 0) ∨ (len ≠ n % 64 ∧ He = HI ∧ ae = none ∧ ce = 0 ∧ ne = 0))
    (a' : Option Addr) (t : List UInt8) (m c' : Nat) (hm : t.length = m) (hc : m ≤ c') (hc2 : m ≤ 140737488355328 ∧ c' ≤ 9223372036854775807) (hno : a' = none → m = 0 ∧ c' = 0) (w : World) (hr : RdS w a' t) (hL : Laid w) :
    Calls Tryd.prog 40 #[.agg (stC H (.slice a len c) n), .slice a' m c'] w (WrPost w He t ((ne + m) % W64)) := by
  obtain ⟨b, hb⟩ : ∃ b, decide (len = n % 64) = b := ⟨_, rfl⟩
  have iS := isSt10 (stC H (.slice a len c) n) (stC_size _ _ _ hH)
  have cS := fun w => Sane_any H hH a len c n hn hlen b hb w
  obtain ⟨S, hS⟩ : ∃ S, S = stC H (.slice a len c) n := ⟨_, rfl⟩
  have sS : S.size = 10 := by rw [hS]; exact stC_size _ _ _ hH
  rw [← hS] at iS cS ⊢
  obtain ⟨SE, hSE⟩ : ∃ SE, SE = stC He (.slice ae 0 ce) ne := ⟨_, rfl⟩
  have hcase : (b = true ∧ S = SE) ∨ (b = false ∧ stC HI (.slice none 0 0) 0 = SE) := by
    rcases hE with ⟨h1, h2, h3, h4, h5, h6⟩ | ⟨h1, h2, h3, h4, h5⟩
    · refine .inl ⟨by rw [← hb]; simpa using h1, ?_⟩
      rw [hS, hSE, h2, h3, h4, h5, h6]
    · refine .inr ⟨by rw [← hb]; simpa using h1, ?_⟩
      rw [hSE, h2, h3, h4, h5]
  have sE : SE.size = 10 := by rw [hSE]; exact stC_size _ _ _ hHe
  have iE := isSt10 SE sE
  have aE : SE.all (·.oneCell') = true := by rw [hSE]; exact stC_one _ _ _ _ _
  have sSE : S.size = SE.size := by rw [sS, sE]
  have F := Lib.hid (And.intro hSE (And.intro hS (And.intro hb (And.intro hr (And.intro hL (And.intro hHe (And.intro hm hn)))))))
  have CS := Lib.hid cS
  clear hSE hS hb hr hL hE hH hn hHe hm cS sS sE
  go_enter Tryd.func40, Tryd.ntmps40
  go_wp2_with (with_reducible refine wl_st ((Blk.newAt w _ S rfl).alloc _) _ _ rfl rfl rfl _ Tryd.underlying83 iS ?_)
  refine (CS.out _).mono ?_
  rintro e w1 ⟨rfl, hb1⟩
  have A0 : Blk w1 w.heap.size 83 S := ((Blk.newAt w _ S rfl).alloc _).calls hb1
  have A1 : Blk w1 (w.heap.size + 1) 83 (startC 0) := by rw [startC_zero]; exact (Blk.second w _ _ _).calls hb1
  have AB : Below w.heap.size w w1 := bt (ba (ba (Below.refl _ _) _) _) hb1
  have z0 := A0.lt
  have z1 := A1.lt
  clear hb1
  go_upto_if 10 with fail
  go_cut [] (fun wx => Blk wx w.heap.size 83 SE ∧ Blk wx (w.heap.size + 1) 83 (startC 0) ∧ Below w.heap.size w wx)
  case first =>
    rcases hcase with ⟨h1, h2⟩ | ⟨h1, h2⟩
    · subst h1
      rw [h2] at A0
      have HA := Lib.hid (And.intro A0 (And.intro A1 AB)); clear A0 A1 AB h2
      go_wp2_with fail
      go_meet
      exact HA.out
    · subst h1
      have HA := Lib.hid (And.intro A0 (And.intro A1 AB)); clear A0 A1 AB
      have h2' := Lib.hid h2; clear h2
      go_wp2_with fail
      refine (Start_any _ (F.out.2.2.2.2.1.below HA.out.2.2 (Nat.le_refl _))).mono ?_
      rintro e w2 ⟨rfl, hb2⟩
      rw [h2'.out]
      have B0 := HA.out.1.calls hb2
      have B1 := HA.out.2.1.calls hb2
      have BB := bt HA.out.2.2 hb2
      have HB := Lib.hid (And.intro B0 (And.intro B1 BB)); clear B0 B1 BB hb2 HA
      go_wp2_with (with_reducible refine ws_row HB.out.1 _ _ _ _ rfl rfl rfl rfl iE sSE aE ?_)
      go_meet
      exact ⟨HB.out.1.row _, HB.out.2.1.rowFar (by omega) _, setRow_below HB.out.2.2 (by omega) _⟩
  case rest =>
    obtain ⟨B0, B1, BB⟩ := hcut
    clear hcase iE aE sSE iS A0 A1 AB CS z0 z1
    have z0 := B0.lt
    have z1 := B1.lt
    obtain ⟨N, hN⟩ : ∃ N, N = (ne + m) % W64 := ⟨_, rfl⟩
    have hNi := add_num ne m hne
    rw [← hN] at hNi
    obtain ⟨x0, x1, x2, x3, x4, x5, x6, x7, h8⟩ := eight He F.out.2.2.2.2.2.1
    have B0' := B0
    rw [F.out.1, h8, stC_lit] at B0'
    have cc := B0'.cell
    have hm0 : 0 ≤ (m : Int) := by omega
    have hmb : m ≤ 140737488355328 := by omega
    have G := Lib.hid (And.intro hN (And.intro h8 (And.intro B0 (And.intro B1 BB)))); clear hN h8 B0 B0' B1 BB
    go_wp2
    have FIN := Lib.hid (fun (a : Option Addr) (c : Nat) (w2 : World) (h1 : RdS w2 a (absR t)) (h2 : (absR t).length ≤ c) (h3 : c ≤ maxLen) (h4 : Below w.heap.size w w2) => show WrPost w He t ((ne + m) % W64) (.returned (.agg (stC (absH He t) (.slice a (absR t).length c) N))) w2 from ⟨a, c, by rw [G.out.1], h1, h2, h3, h4⟩)
    have A5 : Blk _ wc.heap.size 83 (stC He (.slice none 0 0) N) := Blk.new wc 83 (stC He (.slice none 0 0) N)
    have A1 : Blk _ (w.heap.size + 1) 83 (startC 0) := G.out.2.2.2.1.alloc (.cells (stC He (.slice none 0 0) N) 83)
    have AB : Below w.heap.size w _ := ba G.out.2.2.2.2 (.cells (stC He (.slice none 0 0) N) 83)
    have HA := Lib.hid (And.intro A5 (And.intro A1 AB)); clear A5 A1 AB
    have hq := G.out.2.1
    rw [hq, stC_lit] at HA
    clear hq cc
    generalize wc.alloc _ = w3 at *
    go_loopw [1] (fun s wr => ∃ (j : Nat) (a1 : Option Addr) (c1 p : Nat), p = m - 64 * j ∧ 64 * j ≤ m ∧ s = .slice a1 p c1 ∧ p ≤ c1 ∧ (p ≤ 140737488355328 ∧ c1 ≤ 9223372036854775807) ∧ RdS w a1 (t.drop (64 * j)) ∧ (a1 = none → p = 0 ∧ c1 = 0) ∧ Blk wr (w.heap.size + 1) 83 (startC 0) ∧ Blk wr wc.heap.size 83 (stC (blks t j He) (.slice none 0 0) N) ∧ Below w.heap.size w wr) (fun s _ => lenS s)
    case atStart =>
      obtain ⟨A5, A1, AB⟩ := HA.out
      refine ⟨0, a', c', m, by omega, by omega, rfl, hc, hc2, F.out.2.2.2.1, hno, A1, ?_, AB⟩
      rw [G.out.2.1, blks, stC_lit]
      exact A5
    case round =>
      clear HA
      obtain ⟨j, a1, c1, p, hp, hj, rfl, hpc, hc1, hr1, hno1, h1, h5, hb⟩ := hrel
      have hpi : (p : Int) ≤ 140737488355328 := by omega
      by_cases h64 : 64 ≤ p
      · obtain ⟨a2, hs2, hr2, _, _⟩ := slice_to a1 (t.drop (64 * j)) p c1 64 (by rw [drop_length_eq, F.out.2.2.2.2.2.2.1, hp]) h64 hpc
        obtain ⟨Hj, hHj⟩ : ∃ Hj, Hj = blks t j He := ⟨_, rfl⟩
        have hHl : Hj.length = 8 := by rw [hHj]; exact blks_length t j He F.out.2.2.2.2.2.1
        obtain ⟨r, hrr⟩ : ∃ r, r = blk Hj ((t.drop (64 * j)).take 64) := ⟨_, rfl⟩
        have hnext : blks t (j + 1) He = r := by rw [blks, ← hHj, hrr]
        have hrl : r.length = 8 := by rw [hrr]; exact blk_length _ _ hHl
        have htl : ((t.drop (64 * j)).take 64).length = 64 := by rw [List.length_take, drop_length_eq, F.out.2.2.2.2.2.2.1, ← hp]; omega
        obtain ⟨g2, o2, ha2, hg2, hrd2⟩ : ∃ g off, a2 = some ⟨g, off, none⟩ ∧ g < w.heap.size ∧ Rd w g off ((t.drop (64 * j)).take 64) := by
          rcases hr2 w hr1 with hh | hh
          · rw [hh] at htl; cases htl
          · exact hh
        subst ha2
        have hcall : ∀ w', Below w.heap.size w w' → Calls Tryd.prog 50 #[.agg (u32c Hj), .slice (some ⟨g2, o2, none⟩) 64 c1] w' fun e w'' => e = .returned (.agg (u32c r)) ∧ Below w'.heap.size w' w'' := fun w' hw' => by
          rw [hrr]
          exact Block_any Hj hHl g2 o2 c1 _ w' (fun i hi => hrd2.at hw' hg2 i hi) (Nat.lt_of_lt_of_le hg2 hw'.size) htl (F.out.2.2.2.2.1.below hw' (Nat.le_refl _))
        rw [← hHj] at h5
        have l5 := h5.lt
        have l1 := h1.lt
        have i8H := is8 (u32c Hj) (by rw [u32c_size, hHl])
        have s8r : (u32c r).size = 8 := by rw [u32c_size, hrl]
        have i8r := is8 (u32c r) s8r
        have a8r := u32c_one r
        have hpm : (p : Int) - 64 = ((p - 64 : Nat) : Int) := by omega
        have K := Lib.hid (And.intro h1 (And.intro h5 (And.intro hb (And.intro hp (And.intro hHj (And.intro hHl (And.intro hrr (And.intro hnext (And.intro hrl (And.intro htl (And.intro hr1 (And.intro hr1 s8r))))))))))))
        clear h1 h5 hb hp hHj hHl hrr hnext hrl htl hr1 hr2 s8r
        have KC := Lib.hid hcall; clear hcall
        have KS := Lib.hid hs2; clear hs2
        go_wp2_with fail
        refine wp_region_tail [some 61, some 62, some 63, some 64, some 65, some 66, none] (fun i => ([.pointer (some ⟨wc.heap.size, 0, none⟩), .agg (u32c Hj), .slice a1 p c1, .slice (some ⟨g2, o2, none⟩) 64 c1, .agg (u32c r), .pointer (some ⟨wc.heap.size, 0, none⟩), undef] : List Value).getD i undef) 6 (fun w' => ∃ wq, Below wr.heap.size wr wq ∧ w' = wq.setCells wc.heap.size 0 (u32c r).toList) (by kernel_rfl) rfl rfl rfl rfl rfl rfl ⟨
          .inr ⟨rfl, fun A w' hb hs => op_field0 (.tmp 5) rfl wc.heap.size ((hs.2 5 rfl).trans rfl)⟩,
          .inr ⟨rfl, fun A w' hb hs => op_load_mid _ (.tmp 61) rfl wc.heap.size 0 (hs.1 0 rfl 61 rfl) (u32c Hj).toList _ (words_range (K.out.2.1.below hb K.out.2.1.lt) K.out.2.2.2.2.2.1) Tryd.underlying81 rfl (by simpa using i8H)⟩,
          .inr ⟨rfl, fun A w' hb hs => op_move (.tmp 1) (.inl rfl) ((hs.2 1 rfl).trans rfl)⟩,
          .inr ⟨rfl, fun A w' hb hs => op_slice_s _ (.tmp 63) none (some (.const (.int .i64 64))) rfl (hs.1 2 rfl 63 rfl) rfl rfl (by kernel_rfl) (KS.out w')⟩,
          .inr ⟨rfl, fun A w' hb hs => op_call 50 _ (exec_call _ 50 _ rfl rfl (margs2 (hs.1 1 rfl 62 rfl) (hs.1 3 rfl 64 rfl)) Tryd.func50 rfl rfl) (KC.out w' (bt K.out.2.2.1 hb))⟩,
          .inr ⟨rfl, fun A w' hb hs => op_field0 (.tmp 5) rfl wc.heap.size ((hs.2 5 rfl).trans rfl)⟩,
          .inl ⟨rfl, rfl, fun A w' hb hs => wp_store_mid _ (.tmp 66) (.tmp 65) rfl wc.heap.size 0 (u32c r) (hs.1 5 rfl 66 rfl) (hs.1 4 rfl 65 rfl) (by rw [K.out.2.2.2.2.2.2.2.2.2.2.2.2]; exact words_there (K.out.2.1.below hb K.out.2.1.lt) K.out.2.2.2.2.2.1) i8r a8r ⟨rfl, w', hb, rfl⟩⟩, trivial⟩ ?_
        rintro _ ⟨wq, hbq, rfl⟩
        simp only [Fr, if_true, Act.put, List.setIfInBounds_toArray, List.set_cons_zero, List.set_cons_succ, List.getD_cons_zero, List.getD_cons_succ]
        have D1 := (K.out.1.below hbq l1).setsFar (b := wc.heap.size) (by omega) (u32c r).toList 0
        have D5 := (K.out.2.1.below hbq l5).setWords K.out.2.2.2.2.2.1 K.out.2.2.2.2.2.2.2.2.1
        have DB := below_sets (b := wc.heap.size) (show w.heap.size ≤ wc.heap.size by omega) (u32c r).toList 0 (bt K.out.2.2.1 hbq)
        have D := Lib.hid (And.intro D1 (And.intro D5 DB)); clear D1 D5 DB hbq
        generalize wq.setCells _ _ _ = w6 at *
        go_wp2
        obtain ⟨D1, D5, DB⟩ := D.out
        obtain ⟨_, _, _, hp, hHj, _, _, hnext, _, _, hr1, _, _⟩ := K.out
        go_roundw
        case rel =>
          refine ⟨j + 1, _, c1 - 64, p - 64, by omega, by omega, rfl, by omega, by omega, ?_, ?_, D1, by rw [hnext]; exact D5, DB⟩
          · have := hr1.from (n := p) (c := c1) (k := 64) (by rw [drop_length_eq, F.out.2.2.2.2.2.2.1, hp]) h64 hpc
            rw [List.drop_drop, show 64 * j + 64 = 64 * (j + 1) by omega] at this
            exact this
          · intro hnone
            exfalso
            have hsome := hno1
            cases a1 with
            | none => have := (hno1 rfl).1; omega
            | some ad => split at hnone <;> cases hnone
        case measure => simp [lenS]; omega
      · have hjj : t.length / 64 = j := by rw [F.out.2.2.2.2.2.2.1]; omega
        have hpl : p = (absR t).length := by rw [absR_length, F.out.2.2.2.2.2.2.1]; omega
        have hdr : t.drop (64 * j) = absR t := by unfold absR; rw [hjj]
        have hHH : blks t j He = absH He t := by unfold absH; rw [hjj]
        rw [hdr] at hr1
        rw [hHH] at h5
        clear hjj hdr hHH
        have hRl : (absR t).length = p := hpl.symm
        have hmx : (absR t).length ≤ maxLen := by rw [hRl]; unfold maxLen; omega
        obtain ⟨i0, hi, hz0, hz1, hz2⟩ := info_parts (show (Tryd.prog.info? 5).map (fun i => (i.zero, i.size, i.bytes)) = some (some (.int .u8 0), 1, 1) by kernel_rfl)
        have l5 := h5.lt
        have l1 := h1.lt
        have hHl : (absH He t).length = 8 := blks_length _ _ _ F.out.2.2.2.2.2.1
        obtain ⟨HH, hHH⟩ : ∃ HH, HH = absH He t := ⟨_, rfl⟩
        obtain ⟨R, hR⟩ : ∃ R, R = absR t := ⟨_, rfl⟩
        rw [← hHH] at h5 hHl
        rw [← hR] at hr1 hRl hmx
        have K := Lib.hid (And.intro h1 (And.intro h5 (And.intro hb (And.intro hp (And.intro hHH (And.intro hHl (And.intro hR (And.intro hRl (And.intro hr1 hmx)))))))))
        clear h1 h5 hb hp hHH hHl hR hRl hr1 hpl hmx
        have HI0 := Lib.hid (And.intro hi (And.intro hz0 (And.intro hz1 hz2))); clear hi hz0 hz1 hz2
        cases a1 with
        | none =>
          obtain ⟨hp0, hc0⟩ := hno1 rfl
          subst hp0 hc0
          have R0 : R = [] := List.length_eq_zero_iff.1 K.out.2.2.2.2.2.2.2.1
          obtain ⟨C, hC⟩ : ∃ C, C = stC HH (.slice (some ⟨wr.heap.size, 0, none⟩) 0 0) N := ⟨_, rfl⟩
          have sC : C.size = 10 := by rw [hC]; exact stC_size _ _ _ K.out.2.2.2.2.2.1
          have iC := isSt10 C sC
          have s1 : (startC 0).size = C.size := by rw [sC]; rfl
          have aC : C.all (·.oneCell') = true := by rw [hC]; exact stC_one _ _ _ _ _
          have B5 := K.out.2.1.alloc (.cells #[] 5)
          have c8 := blk_get B5 8 _ (stC_rest _ _ _ K.out.2.2.2.2.2.1)
          have f8 := B5.frozen 8
          have M5 : Blk _ wc.heap.size 83 C := ((K.out.2.1.set_ 8 (.slice (some ⟨wr.heap.size, 0, none⟩) 0 0)).to (show _ = C by rw [hC]; exact stC_setRest _ _ _ _ K.out.2.2.2.2.2.1)).alloc (.cells #[] 5)
          have M1 := (K.out.1.far (show w.heap.size + 1 ≠ wc.heap.size by omega) (i := 8) (.slice (some ⟨wr.heap.size, 0, none⟩) 0 0)).alloc (.cells #[] 5)
          have MB := ba (K.out.2.2.1.setCell (show w.heap.size ≤ (⟨wc.heap.size, 8, none⟩ : Addr).block by show w.heap.size ≤ wc.heap.size; omega) (.slice (some ⟨wr.heap.size, 0, none⟩) 0 0)) (.cells #[] 5)
          have M := Lib.hid (And.intro M5 (And.intro M1 (And.intro MB (And.intro hC R0)))); clear M5 M1 MB B5 hC sC R0
          go_wp2_with (first | (at_builtin; refine wpList_append_own_none rfl _ _ 23 rfl wr.heap.size 5 i0 1 Tryd.underlying23 HI0.out.1 _ 0 [] rfl (World.ownsRow_made wr #[] 0 (Nat.le_refl _) (by omega) rfl) rfl ?_) | with_reducible refine wl_st M.out.1 _ _ rfl rfl rfl _ Tryd.underlying83 iC ?_ | with_reducible refine ws_row M.out.2.1 _ _ _ _ rfl rfl rfl rfl iC s1 aC ?_)
          obtain ⟨M5, M1, MB, hC, R0⟩ := M.out
          have hRR := K.out.2.2.2.2.2.2.1
          have hHH := K.out.2.2.2.2.1
          rw [R0] at hRR
          have hCC : C = stC (absH He t) (.slice (some ⟨wr.heap.size, 0, none⟩) (absR t).length 0) N := by rw [hC, hHH, ← hRR]; rfl
          refine bodyPost_ret (v := .agg C) ?_ rfl (by rw [hCC]; exact FIN.out _ _ _ (.inl hRR.symm) (by rw [← hRR]; exact Nat.le_refl _) (by unfold maxLen; omega) (setRow_below MB (by omega) _))
          exact results_cell_row rfl _ _ _ _ _ (0, 0) _ rfl (M1.row _) Tryd.underlying83 rfl iC
        | some ad =>
          clear hno1
          have hmb2 : p ≤ maxLen := by unfold maxLen; omega
          have hmb3 : (0 + p) * 1 ≤ 140737488355328 := by omega
          go_wp2_with (at_builtin; go_loud (refine wpList_append_own _ rfl _ _ 23 rfl wr.heap.size 5 i0 (.int .u8 0) 1 1 Tryd.underlying23 HI0.out.1 HI0.out.2.1 HI0.out.2.2.1 HI0.out.2.2.2 rfl (by omega) _ 0 [] rfl (World.ownsRow_made wr #[] 0 (Nat.le_refl _) (by omega) rfl) ad p c1 (R.map fun c => Value.int .u8 (c.toNat : Int)) rfl (by rw [List.length_map, K.out.2.2.2.2.2.2.2.1, Nat.mul_one]) (fun j u hu => rd_news ((K.out.2.2.2.2.2.2.2.2.1.below K.out.2.2.1 (Nat.le_refl _)).below ((Below.refl _ _).alloc (Nat.le_refl _) _) (Nat.le_refl _)) j u hu) (one_news R) (by omega) hmb3 (by simp) ?_))
          intro v' w' ho hg hnil
          obtain ⟨g, cap, cur, rfl, hgb, hbg, hpc2, hcm3, hRp, hrd⟩ := own_blk ho hnil
          clear ho hnil
          have B5 := (K.out.2.1.alloc (.cells #[] 5)).grown hg (by simp [Value.ownBlock]; omega)
          have B1 := (K.out.1.alloc (.cells #[] 5)).grown hg (by simp [Value.ownBlock]; omega)
          have BB := below_grown (ba K.out.2.2.1 (.cells #[] 5)) hg (by simp; omega) (by intro k hk; simp [Value.ownBlock] at hk; omega)
          clear hg
          obtain ⟨C, hC⟩ : ∃ C, C = stC HH (.slice (some ⟨g, 0, none⟩) p cap) N := ⟨_, rfl⟩
          have sC : C.size = 10 := by rw [hC]; exact stC_size _ _ _ K.out.2.2.2.2.2.1
          have iC := isSt10 C sC
          have s1 : (startC 0).size = C.size := by rw [sC]; rfl
          have aC : C.all (·.oneCell') = true := by rw [hC]; exact stC_one _ _ _ _ _
          have c8 := blk_get B5 8 _ (stC_rest _ _ _ K.out.2.2.2.2.2.1)
          have f8 := B5.frozen 8
          have M5 : Blk _ wc.heap.size 83 C := (B5.set_ 8 (.slice (some ⟨g, 0, none⟩) p cap)).to (show _ = C by rw [hC]; exact stC_setRest _ _ _ _ K.out.2.2.2.2.2.1)
          have M1 := B1.far (show w.heap.size + 1 ≠ wc.heap.size by omega) (i := 8) (.slice (some ⟨g, 0, none⟩) p cap)
          have MG := hbg.far (show g ≠ wc.heap.size by omega) (i := 8) (.slice (some ⟨g, 0, none⟩) p cap)
          have MB := BB.setCell (show w.heap.size ≤ (⟨wc.heap.size, 8, none⟩ : Addr).block by show w.heap.size ≤ wc.heap.size; omega) (.slice (some ⟨g, 0, none⟩) p cap)
          have M := Lib.hid (And.intro M5 (And.intro M1 (And.intro MB (And.intro hC (And.intro MG hrd))))); clear M5 M1 MB B5 B1 BB hbg hC sC MG hrd
          go_wp2_with (first | with_reducible refine wl_st M.out.1 _ _ rfl rfl rfl _ Tryd.underlying83 iC ?_ | with_reducible refine ws_row M.out.2.1 _ _ _ _ rfl rfl rfl rfl iC s1 aC ?_)
          obtain ⟨M5, M1, MB, hC, MG, hrd⟩ := M.out
          have hRR := K.out.2.2.2.2.2.2.1
          have hHH := K.out.2.2.2.2.1
          have hRl := K.out.2.2.2.2.2.2.2.1
          have hCC : C = stC (absH He t) (.slice (some ⟨g, 0, none⟩) (absR t).length cap) N := by rw [hC, hHH, ← hRR, hRl]
          refine bodyPost_ret (v := .agg C) ?_ rfl (by
            rw [hCC]
            refine FIN.out _ _ _ (.inr ⟨g, 0, rfl, (MG.rowFar (show g ≠ w.heap.size + 1 by omega) _).lt, ?_⟩) (by rw [← hRR, hRl]; exact hpc2) hcm3 (setRow_below MB (by omega) _)
            intro i hi
            rw [← hRR] at hi ⊢
            exact ((MG.rowFar (show g ≠ w.heap.size + 1 by omega) _).cell (0 + i)).trans (by rw [Nat.zero_add]; exact hrd i hi))
          exact results_cell_row rfl _ _ _ _ _ (0, 0) _ rfl (M1.row _) Tryd.underlying83 rfl iC
end Go.Proofs.YtlegcceaoglpoaaDoor
