/- Slices of bytes, and how a text is taken up block by block. -/
import Derived.Test.YtfebknplkbeblaaDoorShaG
import Derived.Laws.AppendOwn
import Derived.Laws.AppendOwnNone
import Derived.Deep.DeepCutAuto
namespace Go.Proofs.YtfebknplkbeblaaDoor
open Go.RowKit
set_option linter.unusedVariables false

/-- The bytes of a slice, none of them perhaps. -/
def RdS (w : World) (a : Option Addr) (l : List UInt8) : Prop := l = [] ∨ ∃ g off, a = some ⟨g, off, none⟩ ∧ g < w.heap.size ∧ Rd w g off l
theorem RdS.below {w w' : World} {a : Option Addr} {l : List UInt8} {B : Nat} (h : RdS w a l) (hb : Below B w w') (hB : w.heap.size ≤ B) : RdS w' a l := by
  rcases h with h | ⟨g, off, e, hg, hr⟩
  · exact .inl h
  · exact .inr ⟨g, off, e, Nat.lt_of_lt_of_le hg hb.size, fun i hi => hr.at hb (Nat.lt_of_lt_of_le hg hB) i hi⟩
theorem RdS.calls {w w' : World} {a : Option Addr} {l : List UInt8} (h : RdS w a l) (hb : Below w.heap.size w w') : RdS w' a l := h.below hb (Nat.le_refl _)
theorem getD_drop (l : List UInt8) (k i : Nat) : (l.drop k).getD i 0 = l.getD (k + i) 0 := by simp [List.getD]
theorem Rd.drop {w : World} {g off k : Nat} {l : List UInt8} (h : Rd w g off l) : Rd w g (off + k) (l.drop k) := fun i hi => by
  rw [getD_drop]
  have := h (k + i) (by simp at hi; omega)
  rw [← Nat.add_assoc] at this
  exact this
theorem Rd.take {w : World} {g off k : Nat} {l : List UInt8} (h : Rd w g off l) : Rd w g off (l.take k) := fun i hi => by
  have hi' : i < k ∧ i < l.length := by rw [List.length_take] at hi; omega
  have := h i hi'.2
  rw [this]
  simp [List.getD, hi'.1]
/-- 's[k:]'. -/
theorem slice_from (a : Option Addr) (l : List UInt8) (n c k : Nat) (hn : l.length = n) (hk : k ≤ n) (hc : n ≤ c) :
    ∃ a', (∀ w, (Instr.slice 26 (.slice a n c) (some (.int .i64 k)) none none).run Tryd.prog w = .ok (.slice a' (n - k : Nat) (c - k : Nat)) w) ∧ (∀ w, RdS w a l → RdS w a' (l.drop k)) ∧ (a' = none → a = none) := by
  have h0 : ∀ w, (Instr.slice 26 (.slice a n c) (some (.int .i64 k)) none none).run Tryd.prog w = .ok (sliced a k n c 1) w := by
    intro w
    have hs : (sizeOf (Tryd.prog.elem 26)).run Tryd.prog w = .ok 1 w := by kernel_rfl
    rw [run_slice_l w 26 a n c (by kernel_rfl) .i64 k (by omega) (by omega), hs]
    rfl
  refine ⟨if c = k then a else a.map (·.add (k * 1)), fun w => ?_, fun w hr => ?_, fun h => by split at h <;> cases a <;> simp_all⟩
  · rw [h0 w]
    rfl
  · by_cases e : k = n
    · exact .inl (by rw [e, ← hn]; exact List.drop_length)
    · rcases hr with hr | ⟨g, off, he, hg, hr⟩
      · exact .inl (by rw [hr]; exact List.drop_nil)
      · refine .inr ⟨g, off + k, ?_, hg, hr.drop⟩
        rw [if_neg (by omega), he]
        simp [Addr.add_mid]
/-- 's[:k]'. -/
theorem slice_to (a : Option Addr) (l : List UInt8) (n c k : Nat) (hn : l.length = n) (hk : k ≤ n) (hc : n ≤ c) :
    ∃ a', (∀ w, (Instr.slice 26 (.slice a n c) none (some (.int .i64 k)) none).run Tryd.prog w = .ok (.slice a' k c) w) ∧ (∀ w, RdS w a l → RdS w a' (l.take k)) ∧ (a = none ↔ a' = none) ∧ ((∃ g off, a = some ⟨g, off, none⟩) → ∃ g off, a' = some ⟨g, off, none⟩) := by
  have h0 : ∀ w, (Instr.slice 26 (.slice a n c) none (some (.int .i64 k)) none).run Tryd.prog w = .ok (sliced a 0 k c 1) w := by
    intro w
    have hs : (sizeOf (Tryd.prog.elem 26)).run Tryd.prog w = .ok 1 w := by kernel_rfl
    rw [run_slice_h w 26 a n c (by kernel_rfl) .i64 k (by omega) (by omega), hs]
    rfl
  refine ⟨if c = 0 then a else a.map (·.add (0 * 1)), fun w => ?_, fun w hr => ?_, ?_, fun ⟨g, off, h⟩ => ?_⟩
  · rw [h0 w]
    rfl
  · rcases hr with hr | ⟨g, off, he, hg, hr⟩
    · exact .inl (by rw [hr]; exact List.take_nil)
    · refine .inr ⟨g, off, ?_, hg, hr.take⟩
      rw [he]
      split
      · rfl
      · simp [Addr.add_mid]
  · split
    · exact Iff.rfl
    · cases a <;> simp
  · refine ⟨g, off, ?_⟩
    rw [h]
    split
    · rfl
    · simp [Addr.add_mid]

/-! ## Taken up block by block -/
def blks (l : List UInt8) : Nat → List Wd → List Wd
  | 0, H => H
  | k + 1, H => blk (blks l k H) ((l.drop (64 * k)).take 64)
theorem blks_length (l : List UInt8) (k : Nat) (H : List Wd) (h : H.length = 8) : (blks l k H).length = 8 := by
  induction k with
  | zero => exact h
  | succ k ih => exact blk_length _ _ ih
def absH (H : List Wd) (l : List UInt8) : List Wd := blks l (l.length / 64) H
def absR (l : List UInt8) : List UInt8 := l.drop (64 * (l.length / 64))
theorem absR_length (l : List UInt8) : (absR l).length = l.length % 64 := by
  unfold absR
  rw [List.length_drop]
  omega
theorem drop_length_eq (l : List UInt8) (j : Nat) : (l.drop (64 * j)).length = l.length - 64 * j := List.length_drop
theorem add_num (n m : Nat) (hn : n < W64) : IntKind.u64.wrap ((n : Int) + (m : Int)) = (((n + m) % W64 : Nat) : Int) := by
  rw [IntKind.wrap_u64]
  unfold W64
  omega

/-! ## A state's words are read and set -/
theorem Blk.setsFar {g b : Nat} {t : TypeId} {cs : Array Value} (hne : g ≠ b) : ∀ (vs : List Value) (o : Nat) {w : World}, Blk w g t cs → Blk (w.setCells b o vs) g t cs
  | [], _, _, h => h
  | v :: vs, o, _, h => Blk.setsFar hne vs (o + 1) (h.far hne v)
theorem below_sets {B b : Nat} {w0 : World} (hb : B ≤ b) : ∀ (vs : List Value) (o : Nat) {w : World}, Below B w0 w → Below B w0 (w.setCells b o vs)
  | [], _, _, h => h
  | v :: vs, o, _, h => below_sets hb vs (o + 1) (h.setCell hb v)
theorem Blk.setWords {w : World} {g : Nat} {t : TypeId} {H r : List Wd} {v : Value} {n : Nat} (h : Blk w g t (stC H v n)) (hH : H.length = 8) (hr : r.length = 8) : Blk (w.setCells g 0 (u32c r).toList) g t (stC r v n) := by
  obtain ⟨x0, x1, x2, x3, x4, x5, x6, x7, rfl⟩ := eight H hH
  obtain ⟨y0, y1, y2, y3, y4, y5, y6, y7, rfl⟩ := eight r hr
  have e : (u32c [y0, y1, y2, y3, y4, y5, y6, y7]).toList = [.int .u32 (wn y0), .int .u32 (wn y1), .int .u32 (wn y2), .int .u32 (wn y3), .int .u32 (wn y4), .int .u32 (wn y5), .int .u32 (wn y6), .int .u32 (wn y7)] := rfl
  rw [e]
  simp only [World.setCells, Nat.zero_add, Nat.reduceAdd]
  refine ((((((((h.set_ 0 _).set_ 1 _).set_ 2 _).set_ 3 _).set_ 4 _).set_ 5 _).set_ 6 _).set_ 7 _).to ?_
  simp [stC]
theorem words_range {w : World} {g : Nat} {t : TypeId} {H : List Wd} {v : Value} {n : Nat} (h : Blk w g t (stC H v n)) (hH : H.length = 8) : w.rangeAt g 0 (u32c H).toList := by
  intro j u hu
  have hj : j < 8 := by
    have := (List.getElem?_eq_some_iff.1 hu).1
    simp [u32c, hH] at this
    exact this
  rw [Nat.zero_add, h.cell, stC_word H v n j hH hj]
  have e := u32c_at H j (by omega)
  rw [← Array.getElem?_toList, hu] at e
  exact e.symm
theorem words_there {w : World} {g : Nat} {t : TypeId} {H : List Wd} {v : Value} {n : Nat} (h : Blk w g t (stC H v n)) (hH : H.length = 8) : w.there g 0 8 := fun j hj => by
  rw [Nat.zero_add, h.cell, stC_word H v n j hH hj]
  exact ⟨rfl, h.frozen j⟩
theorem op_load_mid {P : Program} {Q : Exit → Act → World → Prop} {o : Oper} {A : Act} {w : World} (ty : TypeId) (x : Operand) (ho : o.op = .load ty x) (b f : Nat) (hx : A.eval x = .pointer (some ⟨b, f, none⟩)) (cs : List Value) (d : TypeDesc) (hc : w.rangeAt b f cs)
    (hu : P.underlying ty = some d) (hd : d.isRow = true) (hi : (P.info? ty).map (·.size) = some cs.length) : o.wp P A w (fun a' w'' => a' = A.put o.dst (.agg cs.toArray) ∧ Below w.heap.size w w'') Q :=
  wp_load_mid ty x ho b f hx cs d hc hu hd hi ⟨rfl, Below.refl _ _⟩
theorem op_field0 {Q : Exit → Act → World → Prop} {o : Oper} {A : Act} {w : World} (x : Operand) (ho : o.op = .fieldAddr 31 x 0) (g : Nat) (hx : A.eval x = .pointer (some ⟨g, 0, none⟩)) :
    o.wp Tryd.prog A w (fun a' w'' => a' = A.put o.dst (.pointer (some ⟨g, 0, none⟩)) ∧ Below w.heap.size w w'') Q := by
  have hf : (Instr.fieldAt 31 (.pointer (some ⟨g, 0, none⟩)) 0).run Tryd.prog w = .ok (.pointer (some ⟨g, 0, none⟩)) w := by kernel_rfl
  refine op_run ?_
  unfold execOp
  simp only [ho, hx, Sem.run_bind, hf]
  rfl
theorem op_slice_s {P : Program} {Q : Exit → Act → World → Prop} {o : Oper} {A : Act} {w : World} (t : TypeId) (x : Operand) (lo hi : Option Operand) (ho : o.op = .slice t x lo hi none) {xv u : Value} {lv hv : Option Value} (hx : A.eval x = xv) (hl : lo.map A.eval = lv) (hh : hi.map A.eval = hv)
    (ht : P.underlying t = some (.slice (P.elem t))) (hrun : (Instr.slice t xv lv hv none).run P w = .ok u w) : o.wp P A w (fun a' w'' => a' = A.put o.dst u ∧ Below w.heap.size w w'') Q := by
  refine op_run ?_
  unfold execOp
  simp only [ho, hx, hl, hh, Option.map_none, Sem.run_bind, run_sliceAt_slice w t xv lv hv none ht, hrun]
  rfl
theorem margs2 {A : Act} {x y : Operand} {u v : Value} (h1 : A.eval x = u) (h2 : A.eval y = v) : #[x, y].map A.eval = #[u, v] := by simp [h1, h2]
theorem margs1 {A : Act} {x : Operand} {u : Value} (h1 : A.eval x = u) : #[x].map A.eval = #[u] := by simp [h1]
/-- How long a slice is. -/
def lenS : Value → Nat
  | .slice _ n _ => n
  | _ => 0
theorem RdS.from {w : World} {a : Option Addr} {l : List UInt8} {n c k : Nat} (h : RdS w a l) (hn : l.length = n) (hk : k ≤ n) (hc : n ≤ c) : RdS w (if c = k then a else Option.map (fun x => ({ block := x.block, off := x.off + k } : Addr)) a) (l.drop k) := by
  by_cases e : k = n
  · exact .inl (by rw [e, ← hn]; exact List.drop_length)
  · rcases h with h | ⟨g, off, he, hg, hr⟩
    · exact .inl (by rw [h]; exact List.drop_nil)
    · refine .inr ⟨g, off + k, ?_, hg, hr.drop⟩
      rw [if_neg (by omega), he]
      rfl
/-- What a row of the call's own that has grown is. -/
theorem own_blk {w : World} {base : Nat} {e : TypeId} {v : Value} {n : Nat} {l : List UInt8} (h : w.ownsRow base e 1 v n (l.map fun c => Value.int .u8 c.toNat)) (hv : ¬ v = .slice none 0 0) :
    ∃ g cap cur, v = .slice (some ⟨g, 0, none⟩) n cap ∧ base ≤ g ∧ Blk w g e cur ∧ n ≤ cap ∧ cap ≤ maxLen ∧ l.length = n ∧ ∀ i, i < l.length → cur[i]? = some (.int .u8 (l.getD i 0).toNat) := by
  obtain ⟨h1, h2 | ⟨g, cap, cur, h3, h4, h5, h6, h7, h8, h9⟩⟩ := h
  · exact absurd h2.1 hv
  · refine ⟨g, cap, cur, h3, h4, h5, h6, h7, by simpa using h1, fun i hi => ?_⟩
    have e : (cur.toList.take (n * 1))[i]? = some (.int .u8 (l.getD i 0).toNat) := by rw [h9]; simp [hi]
    rw [List.getElem?_take] at e
    split at e
    · simpa using e
    · cases e
theorem Blk.grown {w w' : World} {g : Nat} {t : TypeId} {cs : Array Value} {row : Option Nat} (h : Blk w g t cs) (hg : w.grownBy w' row) (hne : some g ≠ row) : Blk w' g t cs := (hg.block g h.lt hne).trans h
theorem below_grown {w0 w w' : World} {B : Nat} {row : Option Nat} (h : Below B w0 w) (hg : w.grownBy w' row) (hB : B ≤ w.heap.size) (hr : ∀ k, row = some k → B ≤ k) : Below B w0 w' :=
  h.trans ⟨hg.os, hg.tape, hg.output, hg.size, fun k hk => hg.block k (by omega) (fun e => by have := hr k e.symm; omega)⟩
theorem rd_news {w : World} {a : Addr} {l : List UInt8} (h : RdS w (some a) l) : ∀ j u, (l.map fun c => Value.int .u8 (c.toNat : Int))[j]? = some u → w.cell? (a.add j) = some u := by
  intro j u hu
  have hj : j < l.length := by simpa using (List.getElem?_eq_some_iff.1 hu).1
  rcases h with h | ⟨g, off, he, hg, hr⟩
  · rw [h] at hj; cases hj
  · injection he with he
    subst he
    rw [Addr.add_mid, hr j hj]
    simp [hj] at hu
    rw [← hu]
    simp [hj]
theorem stC_setRest (H : List Wd) (v v' : Value) (n : Nat) (h : H.length = 8) : (stC H v n).setIfInBounds 8 v' = stC H v' n := by
  obtain ⟨x0, x1, x2, x3, x4, x5, x6, x7, rfl⟩ := eight H h
  rw [stC_lit, stC_lit]
  rfl
theorem one_news (l : List UInt8) : ∀ u ∈ (l.map fun c => Value.int .u8 (c.toNat : Int)), u.oneCell' = true := by
  intro u hu
  obtain ⟨c, _, rfl⟩ := List.mem_map.1 hu
  rfl
/-- 'append(v, l...)' where v is the call's own row of bytes. -/
theorem wl_app {P : Program} {w : World} {ops : Array Oper} {rest : List Oper} {o : Oper} {a : Act} {Q : Exit → Act → World → Prop} {base : Nat} {e : TypeId} {v : Value} {n : Nat} {xs : List UInt8} (hown : w.ownsRow base e 1 v n (xs.map fun c => Value.int .u8 (c.toNat : Int)))
    (hgd : o.guard = none) (s x : Operand) (t : TypeId) (ho : o.op = .call { callee := .builtin .append, args := #[s, x], argTypes := #[t, t] }) (ht : P.underlying t = some (.slice e)) (i : TypeInfo) (hi : P.info? e = some i) (hz : i.zero = some (.int .u8 0)) (h1 : i.size = 1) (hby : i.bytes = 1)
    (hs : a.eval s = v) (a2 : Option Addr) (m c : Nat) (l : List UInt8) (hx : a.eval x = .slice a2 m c) (hr : RdS w a2 l) (hl : l.length = m) (hno : a2 = none → m = 0 ∧ c = 0) (hn : n + m ≤ 140737488355328) (hbase : base ≤ w.heap.size)
    (k : ∀ v' w', w'.ownsRow base e 1 v' (n + m) ((xs ++ l).map fun c => Value.int .u8 (c.toNat : Int)) → w.grownBy w' v.ownBlock → (¬ v = .slice none 0 0 → ¬ v' = .slice none 0 0) → wpList P ops Q rest (a.put o.dst v') w') : wpList P ops Q (o :: rest) a w := by
  cases a2 with
  | none =>
    obtain ⟨h2, h3⟩ := hno rfl
    subst h2 h3
    have hl0 : l = [] := List.length_eq_zero_iff.1 hl
    subst hl0
    exact wpList_append_own_none hgd s x t ho base e i 1 ht hi v n _ hs hown hx (k v w (by rw [List.append_nil]; exact hown) ⟨rfl, rfl, rfl, Nat.le_refl _, fun _ _ _ => rfl⟩ id)
  | some ad =>
    refine wpList_append_own w hgd s x t ho base e i (.int .u8 0) 1 1 ht hi hz h1 hby rfl (by omega) v n _ hs hown ad m c (l.map fun c => Value.int .u8 (c.toNat : Int)) hx (by rw [List.length_map, hl, Nat.mul_one]) (fun j u hu => rd_news hr j u hu) (one_news l) (by unfold maxLen; omega) (by omega) hbase fun v' w' h2 h3 h4 => ?_
    refine k v' w' (by rw [List.map_append]; exact h2) h3 fun h5 h6 => h5 (h4.1 h6).1
/-- What is taken up: a text after 64 bytes. -/
theorem absH_cons (H : List Wd) (l : List UInt8) (h : 64 ≤ l.length) : absH H l = absH (blk H (l.take 64)) (l.drop 64) := by
  have hb : ∀ k, blks l (k + 1) H = blks (l.drop 64) k (blk H (l.take 64)) := by
    intro k
    induction k with
    | zero => rfl
    | succ k ih =>
      rw [blks, ih, blks, List.drop_drop, show 64 + 64 * k = 64 * (k + 1) by omega]
  unfold absH
  rw [List.length_drop, ← hb, show (l.length - 64) / 64 + 1 = l.length / 64 by omega]
theorem absR_cons (l : List UInt8) (h : 64 ≤ l.length) : absR l = absR (l.drop 64) := by
  unfold absR
  rw [List.length_drop, List.drop_drop]
  congr 1
  omega
theorem absH_few (H : List Wd) (l : List UInt8) (h : l.length < 64) : absH H l = H := by
  unfold absH
  rw [show l.length / 64 = 0 by omega]
  rfl
theorem absR_few (l : List UInt8) (h : l.length < 64) : absR l = l := by
  unfold absR
  rw [show l.length / 64 = 0 by omega]
  rfl
theorem make_bytesC (n c : Nat) (hnc : n ≤ c) (hn : c ≤ 140737488355328) (w : World) :
    (Instr.makeSlice 26 (.int .i64 n) (.int .i64 c)).run Tryd.prog w = .ok (.slice (some ⟨w.heap.size, 0, none⟩) n c) (w.alloc (.cells (Array.replicate c (.int .u8 0)) 5)) := by
  obtain ⟨i0, hi, hz0, hz1, hz2⟩ := info_parts (show (Tryd.prog.info? 5).map (fun i => (i.zero, i.size, i.bytes)) = some (some (.int .u8 0), 1, 1) by kernel_rfl)
  rw [run_make w 26 5 i0 (.int .u8 0) Tryd.underlying26 hi hz0 .i64 .i64 n c (by omega) (by omega) (by rw [hz2]; omega) (by omega), hz1, Int.toNat_natCast, Int.toNat_natCast, Nat.mul_one]
  exact congrArg (fun cs => Result.ok _ (w.alloc (.cells cs 5))) (madeCells_one _ c)
end Go.Proofs.YtfebknplkbeblaaDoor
