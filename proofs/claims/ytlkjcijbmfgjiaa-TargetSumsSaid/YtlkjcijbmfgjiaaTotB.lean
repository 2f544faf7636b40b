/- Rows of numbers of 32 bits: appended, opened. -/
import Derived.Test.YtlkjcijbmfgjiaaTotA
import Derived.Test.YtlkjcijbmfgjiaaFrame
import Derived.ChangeSlices
import Derived.Laws.AppendOwn
import Derived.Laws.AppendOwnNone
namespace Go.Proofs.Ytlkjcijbmfgjiaa
open Go.ChangeShapes Go.WideShapes Go.ChangeAt Go.RowKit
set_option linter.unusedVariables false
abbrev nvals (l : List Nat) : List Value := l.map fun c => Value.int .u32 ((c : Nat) : Int)
theorem rdN_news {w : World} {a : Addr} {l : List Nat} (h : RdN w (some a) l) : ∀ j u, (nvals l)[j]? = some u → w.cell? (a.add j) = some u := by
  intro j u hu
  have hj : j < l.length := by simpa using (List.getElem?_eq_some_iff.1 hu).1
  rcases h with h | ⟨g, off, he, hg, hr⟩
  · rw [h] at hj; cases hj
  · injection he with he
    subst he
    rw [Addr.add_mid, hr j hj]
    simp [hj] at hu
    rw [← hu]
    simp [hj]
theorem oneN (l : List Nat) : ∀ u ∈ nvals l, u.oneCell' = true := by
  intro u hu
  obtain ⟨c, _, rfl⟩ := List.mem_map.1 hu
  rfl
theorem wl_appN {P : Program} {w : World} {ops : Array Oper} {rest : List Oper} {o : Oper} {a : Act} {Q : Exit → Act → World → Prop} {base : Nat} {e : TypeId} {v : Value} {n : Nat} {xs : List Nat} (hown : w.ownsRow base e 1 v n (nvals xs))
    (hgd : o.guard = none) (s x : Operand) (t : TypeId) (ho : o.op = .call { callee := .builtin .append, args := #[s, x], argTypes := #[t, t] }) (ht : P.underlying t = some (.slice e)) (i : TypeInfo) (hi : P.info? e = some i) (hz : i.zero = some (.int .u32 0)) (h1 : i.size = 1) (hby : i.bytes = 4)
    (hs : a.eval s = v) (a2 : Option Addr) (m c : Nat) (l : List Nat) (hx : a.eval x = .slice a2 m c) (hr : RdN w a2 l) (hl : l.length = m) (hno : a2 = none → m = 0 ∧ c = 0) (hn : n + m ≤ 1000) (hbase : base ≤ w.heap.size)
    (k : ∀ v' w', w'.ownsRow base e 1 v' (n + m) (nvals (xs ++ l)) → w.grownBy w' v.ownBlock → (¬ v = .slice none 0 0 → ¬ v' = .slice none 0 0) → wpList P ops Q rest (a.put o.dst v') w') : wpList P ops Q (o :: rest) a w := by
  cases a2 with
  | none =>
    obtain ⟨h2, h3⟩ := hno rfl
    subst h2 h3
    have hl0 : l = [] := List.length_eq_zero_iff.1 hl
    subst hl0
    exact wpList_append_own_none hgd s x t ho base e i 1 ht hi v n _ hs hown hx (k v w (by rw [List.append_nil]; exact hown) ⟨rfl, rfl, rfl, Nat.le_refl _, fun _ _ _ => rfl⟩ id)
  | some ad =>
    refine wpList_append_own w hgd s x t ho base e i (.int .u32 0) 1 4 ht hi hz h1 hby rfl (by omega) v n _ hs hown ad m c (nvals l) hx (by rw [List.length_map, hl, Nat.mul_one]) (fun j u hu => rdN_news hr j u hu) (oneN l) (by unfold maxLen; omega) (by omega) hbase fun v' w' h2 h3 h4 => ?_
    refine k v' w' (by rw [nvals, List.map_append]; exact h2) h3 fun h5 h6 => h5 (h4.1 h6).1
theorem own_newAt {w : World} {base n : Nat} (e : TypeId) (hn : n = w.heap.size) (hb : base ≤ n) : (w.alloc (.cells #[] e)).ownsRow base e 1 (.slice (some ⟨n, 0, none⟩) 0 0) 0 (nvals []) := by
  subst hn
  exact ⟨rfl, .inr ⟨_, 0, #[], rfl, hb, heap_alloc_new w _, Nat.le_refl _, by unfold maxLen; omega, rfl, rfl⟩⟩
theorem own_rdN {w : World} {base : Nat} {e : TypeId} {v : Value} {n : Nat} {l : List Nat} (h : w.ownsRow base e 1 v n (nvals l)) : ∃ (a : Option Addr) (c : Nat), v = .slice a n c ∧ l.length = n ∧ RdN w a l ∧ (v.ownBlock = none ∨ ∃ k, v.ownBlock = some k ∧ base ≤ k) := by
  obtain ⟨h1, ⟨rfl, rfl⟩ | ⟨g, cap, cur, rfl, h4, h5, h6, h7, h8, h9⟩⟩ := h
  · rw [List.length_map] at h1
    exact ⟨none, 0, rfl, by omega, .inl (List.length_eq_zero_iff.1 (by omega)), .inl rfl⟩
  · rw [List.length_map, Nat.mul_one] at h1
    refine ⟨_, _, rfl, h1, .inr ⟨g, 0, rfl, (show Blk w g e cur from h5).lt, fun i hi => ?_⟩, .inr ⟨g, rfl, h4⟩⟩
    rw [Nat.zero_add]
    refine blk_get (show Blk w g e cur from h5) i _ ?_
    have e1 : (cur.toList.take (n * 1))[i]? = some (.int .u32 (l.getD i 0 : Nat)) := by rw [h9]; simp [hi]
    rw [List.getElem?_take] at e1
    split at e1
    · simpa using e1
    · cases e1
theorem Blk.grownN {w w' : World} {g : Nat} {t : TypeId} {cs : Array Value} {row : Option Nat} (h : Blk w g t cs) (hg : w.grownBy w' row) (hne : some g ≠ row) : Blk w' g t cs := (hg.block g h.lt hne).trans h
theorem below_grownN {w0 w w' : World} {B : Nat} {row : Option Nat} (h : Below B w0 w) (hg : w.grownBy w' row) (hB : B ≤ w.heap.size) (hr : ∀ k, row = some k → B ≤ k) : Below B w0 w' :=
  h.trans ⟨hg.os, hg.tape, hg.output, hg.size, fun k hk => hg.block k (by omega) (fun e => by have := hr k e.symm; omega)⟩
theorem bs0_run (w : World) : (Instr.buildSlice 44 0 #[]).run Try.prog w = .ok (.slice (some ⟨w.heap.size, 0, none⟩) 0 0) (w.alloc (.cells #[] 28)) := by
  obtain ⟨i, hi⟩ := Option.isSome_iff_exists.1 (show (Try.prog.info? 28).isSome = true by kernel_rfl)
  unfold Instr.buildSlice
  simp [run_underlying Try.underlying44, go_sem, sizeOf, typeInfo, hi, Instr.fill, newRow]
theorem bs1_run (b : Int) (w : World) : (Instr.buildSlice 44 1 #[(0, .int .u32 b)]).run Try.prog w = .ok (.slice (some ⟨w.heap.size, 0, none⟩) 1 1) (w.alloc (.cells #[.int .u32 b] 28)) := by
  obtain ⟨i, hi⟩ := Option.isSome_iff_exists.1 (show (Try.prog.info? 28).isSome = true by kernel_rfl)
  have h1 : i.size = 1 := by
    have : (Try.prog.info? 28).map (·.size) = some 1 := by kernel_rfl
    rw [hi] at this
    simpa using this
  unfold Instr.buildSlice
  simp [run_underlying Try.underlying44, go_sem, sizeOf, typeInfo, hi, h1, Try.zeroValue28, Instr.fill, Value.cells, newRow]
theorem spot_noneN {w : World} {a : Addr} {v : Value} (h : w.cell? a = some v) : a = ⟨a.block, a.off, none⟩ ∧ a.block < w.heap.size := by
  obtain ⟨b, o, s⟩ := a
  unfold World.cell? at h
  cases hb : w.heap[b]? with
  | none => rw [hb] at h; cases h
  | some ob =>
    have hlt : b < w.heap.size := (Array.getElem?_eq_some_iff.1 hb).1
    rw [hb] at h
    cases s with
    | none => exact ⟨rfl, hlt⟩
    | some k =>
      cases ob <;> simp at h
theorem open_u32s {H : Type} {enc : TypeId × Value → H} {P : Program} {w : World} {r : Reach} {b0 : Nat} {t e : TypeId} {v : Value} {d : DataW H} {p : List MemPlace} (ht : P.underlying t = some (.slice e)) (he : P.underlying e = some (.int .u32)) (hc : P.cellsOf e = 1)
    (hv : Value.okWide P w r b0 t v) (h : DataW.Trod enc P w 0 (fun _ => true) true t v d p) :
    ∃ (a : Option Addr) (n c : Nat) (l : List Nat), v = .slice a n c ∧ l.length = n ∧ n ≤ c ∧ (a = none → n = 0 ∧ c = 0) ∧ RdN w a l ∧ ∀ k, l.getD k 0 < 4294967296 := by
  obtain ⟨a0, len, cap, rfl⟩ := okWide_slice ht hv
  obtain ⟨fuel, hf⟩ := h
  rcases open_ints ht he hc hf with ⟨hcs, hx⟩ | ⟨a, len', cap', zs, hcs, _, hl, hm, hz, hx, hcell, hwz⟩
  · simp [Value.cells] at hcs
    obtain ⟨rfl, rfl, rfl⟩ := hcs
    exact ⟨none, 0, 0, [], rfl, rfl, Nat.le_refl _, fun _ => ⟨rfl, rfl⟩, .inl rfl, fun k => by simp⟩
  · simp [Value.cells] at hcs
    obtain ⟨rfl, rfl, rfl⟩ := hcs
    simp only [if_true] at hz
    have hlz : len ≤ zs.length := by rw [hz]; exact hl
    have hu : ∀ z ∈ zs, z = ((z.toNat : Nat) : Int) ∧ z.toNat < 4294967296 := fun z hz => by
      have h := hwz z hz
      simp [Lit.wf, IntKind.min, IntKind.max, IntKind.signed, IntKind.bits] at h
      omega
    have hgd : ∀ i, i < len → ((zs.take len).map Int.toNat).getD i 0 = (zs.getD i 0).toNat := fun i hi => by
      rw [List.getD, List.getElem?_map, List.getElem?_take_of_lt hi, List.getElem?_eq_getElem (by omega), List.getD, List.getElem?_eq_getElem (by omega)]
      rfl
    have hgz : ∀ i, i < len → zs.getD i 0 ∈ zs := fun i hi => by
      rw [List.getD, List.getElem?_eq_getElem (by omega)]
      exact List.getElem_mem _
    refine ⟨some a, len, cap, (zs.take len).map Int.toNat, rfl, by simp; omega, hl, fun h => (by cases h), ?_, fun k => ?_⟩
    · by_cases h0 : len = 0
      · left
        subst h0
        rfl
      · right
        have hc0 := hcell 0 (by omega)
        obtain ⟨e1, e2⟩ := spot_noneN (w := w) (a := a) (by simpa [Addr.add] using hc0)
        refine ⟨a.block, a.off, by rw [← e1], e2, fun i hi => ?_⟩
        have hi' : i < len := by simp at hi; omega
        have hci := hcell i (by omega)
        have ea : a.add i = ⟨a.block, a.off + i, none⟩ := by
          unfold Addr.add
          split
          · rename_i h; subst h; exact e1
          · rfl
        rw [ea] at hci
        rw [hci, hgd i hi', ← (hu _ (hgz i hi')).1]
    · by_cases hk : k < len
      · rw [hgd k hk]; exact (hu _ (hgz k hk)).2
      · rw [List.getD, List.getElem?_eq_none (by simp; omega)]; decide
end Go.Proofs.Ytlkjcijbmfgjiaa
