/- What keeps, where some blocks turn; a row of messages of the call's own. A message of a row of messages. A region whose order is open, whose last operations lay a slice of new values, append it to a row of the call's own, and assign the row. A region whose order is open and that fills several old blocks, each once. Single operations of regions: a cell is stored; an element's address; a cell is loaded. Single operations of regions: the bits of two numbers, products, quotients. Single operations of regions: fields and single cells. More operations: fields of a row of structs, strings that differ, slices of slices. -/
import Derived.RangeFuncKeeps
import Derived.Maps.OwnIn
import Derived.Test.YtlegcceaoglpoaaDoorIsI
import Derived.Test.YtlegcceaoglpoaaDoorIsH
import Derived.Test.YtlegcceaoglpoaaDoorIsB
namespace Go.Proofs.YtlegcceaoglpoaaDoor
open Go.RowKit
set_option linter.unusedVariables false
/-- But for the blocks X all stand as they stood. -/
def Kp (X : Nat → Prop) (W W' : World) : Prop := W.heap.size ≤ W'.heap.size ∧ (∀ k, k < W.heap.size → ¬ X k → W'.heap[k]? = W.heap[k]?) ∧ W'.os = W.os ∧ W'.tape = W.tape ∧ W'.output = W.output
theorem kp_alloc (X : Nat → Prop) (W : World) (o : Obj) : Kp X W (W.alloc o) := ⟨by simp, fun k hk _ => Below.heap_alloc W o k hk, rfl, rfl, rfl⟩
theorem kp_set (W : World) (b i : Nat) (v : Value) : Kp (fun k => k = b) W (W.setCell ⟨b, i, none⟩ v) := ⟨by simp, fun k _ h => Below.heap_setCell W ⟨b, i, none⟩ v k h, rfl, rfl, rfl⟩
theorem kp_put (W : World) (l : Nat) (o : Obj) : Kp (fun k => k = l) W (W.putObj l o) := ⟨by simp, fun k _ h => World.putObj_heap_other h, rfl, rfl, rfl⟩
theorem kp_grown {W W' : World} {row : Option Nat} (h : W.grownBy W' row) : Kp (fun k => some k = row) W W' := ⟨h.size, fun k hk hx => h.block k hk hx, h.os, h.tape, h.output⟩
theorem kp_below {X : Nat → Prop} {W W' : World} (h : Below W.heap.size W W') : Kp X W W' := ⟨h.size, fun k hk _ => h.block k hk, h.os, h.tape, h.output⟩
theorem Kp.mono {X Y : Nat → Prop} {W W' : World} (h : Kp X W W') (hx : ∀ k, X k → Y k) : Kp Y W W' := ⟨h.1, fun k hk hy => h.2.1 k hk fun hx' => hy (hx k hx'), h.2.2⟩
theorem Kp.trans {X : Nat → Prop} {A B C : World} (h : Kp X A B) (k : Kp X B C) : Kp X A C := ⟨Nat.le_trans h.1 k.1, fun i hi hx => (k.2.1 i (Nat.lt_of_lt_of_le hi h.1) hx).trans (h.2.1 i hi hx), k.2.2.1.trans h.2.2.1, k.2.2.2.1.trans h.2.2.2.1, k.2.2.2.2.trans h.2.2.2.2⟩
theorem Kp.below {X : Nat → Prop} {B : Nat} {A W W' : World} (k : Kp X W W') (h : Below B A W) (hB : B ≤ W.heap.size) (hx : ∀ k, k < B → ¬ X k) : Below B A W' :=
  ⟨k.2.2.1.trans h.os, k.2.2.2.1.trans h.tape, k.2.2.2.2.trans h.output, Nat.le_trans h.size k.1, fun i hi => (k.2.1 i (Nat.lt_of_lt_of_le hi hB) (hx i hi)).trans (h.block i hi)⟩
theorem Kp.obj {X : Nat → Prop} {W W' : World} (h : Kp X W W') {k : Nat} {o : Obj} (ho : W.heap[k]? = some o) (hx : ¬ X k) : W'.heap[k]? = some o :=
  (h.2.1 k (Array.getElem?_eq_some_iff.1 ho).1 hx).trans ho
theorem Kp.blk {X : Nat → Prop} {W W' : World} (h : Kp X W W') {g : Nat} {t : TypeId} {cs : Array Value} (hb : Blk W g t cs) (hx : ¬ X g) : Blk W' g t cs := h.obj hb hx
/-- Bytes that are read of a block of the class O. -/
def RdO (O : Nat → Prop) (W : World) (a : Option Addr) (l : List UInt8) : Prop := l = [] ∨ ∃ g off, a = some ⟨g, off, none⟩ ∧ O g ∧ g < W.heap.size ∧ Rd W g off l
theorem RdO.rds {O : Nat → Prop} {W : World} {a : Option Addr} {l : List UInt8} (h : RdO O W a l) : RdS W a l := by
  rcases h with h | ⟨g, off, h1, _, h2, h3⟩
  · exact .inl h
  · exact .inr ⟨g, off, h1, h2, h3⟩
theorem RdO.keep {O X : Nat → Prop} {W W' : World} {a : Option Addr} {l : List UInt8} (h : RdO O W a l) (k : Kp X W W') (hx : ∀ g, O g → ¬ X g) : RdO O W' a l := by
  rcases h with h | ⟨g, off, h1, ho, h2, h3⟩
  · exact .inl h
  · exact .inr ⟨g, off, h1, ho, Nat.lt_of_lt_of_le h2 k.1, fun i hi => (World.cell?_of_block (a := ⟨g, off + i, none⟩) (k.2.1 g h2 (hx g ho))).trans (h3 i hi)⟩
theorem RdO.mono {O O' : Nat → Prop} {W : World} {a : Option Addr} {l : List UInt8} (h : RdO O W a l) (ho : ∀ g, g < W.heap.size → O g → O' g) : RdO O' W a l := by
  rcases h with h | ⟨g, off, h1, h4, h2, h3⟩
  · exact .inl h
  · exact .inr ⟨g, off, h1, ho g h2 h4, h2, h3⟩
theorem RdS.rdo {O : Nat → Prop} {W : World} {a : Option Addr} {l : List UInt8} (h : RdS W a l) (ho : ∀ g off, a = some ⟨g, off, none⟩ → g < W.heap.size → O g) : RdO O W a l := by
  rcases h with h | ⟨g, off, h1, h2, h3⟩
  · exact .inl h
  · exact .inr ⟨g, off, h1, ho g off h1 h2, h2, h3⟩
theorem RdO.from {O : Nat → Prop} {W : World} {a : Option Addr} {l : List UInt8} {n c k : Nat} (h : RdO O W a l) (hn : l.length = n) (hk : k ≤ n) (hc : n ≤ c) : RdO O W (if c = k then a else Option.map (fun x => x.add k) a) (l.drop k) := by
  by_cases e : k = n
  · exact .inl (by rw [List.drop_eq_nil_iff]; omega)
  · rcases h with h | ⟨g, off, rfl, ho, h2, h3⟩
    · subst h
      simp at hn
      omega
    · rw [if_neg (by omega)]
      exact .inr ⟨g, off + k, by simp [Addr.add_mid], ho, h2, h3.drop⟩
/-- A slice of bytes that reads l. -/
def SlO (O : Nat → Prop) (l : List UInt8) (v : Value) (W : World) : Prop := ∃ (a : Option Addr) (c : Nat), v = .slice a l.length c ∧ RdO O W a l ∧ l.length ≤ c ∧ c ≤ maxLen ∧ (a = none → l.length = 0 ∧ c = 0)
theorem SlO.keep {O X : Nat → Prop} {W W' : World} {v : Value} {l : List UInt8} (h : SlO O l v W) (k : Kp X W W') (hx : ∀ g, O g → ¬ X g) : SlO O l v W' := by
  obtain ⟨a, c, h1, h2, h3⟩ := h
  exact ⟨a, c, h1, h2.keep k hx, h3⟩
theorem SlO.mono {O O' : Nat → Prop} {W : World} {v : Value} {l : List UInt8} (h : SlO O l v W) (ho : ∀ g, g < W.heap.size → O g → O' g) : SlO O' l v W := by
  obtain ⟨a, c, h1, h2, h3⟩ := h
  exact ⟨a, c, h1, h2.mono ho, h3⟩
theorem CloV.slo {O : Nat → Prop} {l : List UInt8} {v : Value} {W : World} (h : CloV l v W) (ho : ∀ ad n c, v = .slice (some ad) n c → ad.block < W.heap.size → O ad.block) : SlO O l v W := by
  obtain ⟨a, c, rfl, h2, h3⟩ := h
  exact ⟨a, c, rfl, h2.rdo (fun g off e hg => ho _ _ _ (by rw [e]) hg), h3⟩
theorem SlO.clo {O : Nat → Prop} {l : List UInt8} {v : Value} {W : World} (h : SlO O l v W) : CloV l v W := by
  obtain ⟨a, c, h1, h2, h3⟩ := h
  exact ⟨a, c, h1, h2.rds, h3⟩
/-- The cells of messages. -/
def msgCs (L : List ((List UInt8 × List UInt8) × Value)) : List Value := L.flatMap fun x => [.string (bstr x.1.1), x.2]
theorem msgCs_length (L : List ((List UInt8 × List UInt8) × Value)) : (msgCs L).length = L.length * 2 := by
  induction L with
  | nil => rfl
  | cons x L ih =>
    have : msgCs (x :: L) = [.string (bstr x.1.1), x.2] ++ msgCs L := rfl
    rw [this, List.length_append, ih]
    simp
    omega
/-- A row of the call's own that holds messages: from block b0 on. -/
def MsgL (b0 : Nat) (T : List (List UInt8 × List UInt8)) (v : Value) (W : World) : Prop :=
  ∃ L : List ((List UInt8 × List UInt8) × Value), L.map (·.1) = T ∧ W.ownsRow b0 32 2 v T.length (msgCs L) ∧ ∀ x ∈ L, SlO (fun k => b0 ≤ k ∧ some k ≠ v.ownBlock) x.1.2 x.2 W
theorem MsgL.nil (b0 : Nat) (W : World) : MsgL b0 [] (.slice none 0 0) W := ⟨[], rfl, World.ownsRow_nil _ _ _ _, fun x h => by cases h⟩
theorem MsgL.keep {X : Nat → Prop} {b0 : Nat} {T : List (List UInt8 × List UInt8)} {v : Value} {W W' : World} (h : MsgL b0 T v W) (k : Kp X W W') (hx : ∀ g, b0 ≤ g → ¬ X g) : MsgL b0 T v W' := by
  obtain ⟨L, h1, h2, h3⟩ := h
  refine ⟨L, h1, ⟨h2.1, ?_⟩, fun x hm => (h3 x hm).keep k fun g hg => hx g hg.1⟩
  rcases h2.2 with e | ⟨g, cap, cur, hv, hb, hg, rest⟩
  · exact .inl e
  · exact .inr ⟨g, cap, cur, hv, hb, k.obj hg (hx g hb), rest⟩
theorem MsgL.push {b0 : Nat} {T : List (List UInt8 × List UInt8)} {v v' : Value} {W W' : World} {c p : List UInt8} {u : Value} {L : List ((List UInt8 × List UInt8) × Value)}
    (h1 : L.map (·.1) = T) (h3 : ∀ x ∈ L, SlO (fun k => b0 ≤ k ∧ some k ≠ v.ownBlock) x.1.2 x.2 W) (hu : SlO (fun k => b0 ≤ k ∧ some k ≠ v.ownBlock) p u W)
    (hg : W.grownBy W' v.ownBlock) (ho : v'.ownBlock = v.ownBlock ∨ v'.ownBlock = some W.heap.size) (hr : W'.ownsRow b0 32 2 v' (T.length + 1) (msgCs L ++ [.string (bstr c), u])) : MsgL b0 (T ++ [(c, p)]) v' W' := by
  have keep : ∀ l x, SlO (fun k => b0 ≤ k ∧ some k ≠ v.ownBlock) l x W → SlO (fun k => b0 ≤ k ∧ some k ≠ v'.ownBlock) l x W' := fun l x h => by
    have h' : SlO (fun k => (b0 ≤ k ∧ some k ≠ v.ownBlock) ∧ k < W.heap.size) l x W := h.mono fun g hg ho => ⟨ho, hg⟩
    refine (h'.keep (kp_grown hg) fun g hg => hg.1.2).mono fun g _ hg => ⟨hg.1.1, ?_⟩
    rcases ho with e | e
    · rw [e]; exact hg.1.2
    · rw [e]; intro h; injection h with h; omega
  refine ⟨L ++ [((c, p), u)], by rw [List.map_append, h1]; rfl, ?_, fun x hx => ?_⟩
  · rw [List.length_append]
    have e : msgCs (L ++ [((c, p), u)]) = msgCs L ++ [.string (bstr c), u] := by unfold msgCs; rw [List.flatMap_append]; rfl
    rw [e]
    exact hr
  · rcases List.mem_append.1 hx with hx | hx
    · exact keep _ _ (h3 x hx)
    · obtain rfl := List.mem_singleton.1 hx
      exact keep _ _ hu
theorem own2_slice {w : World} {base : Nat} {e : TypeId} {v : Value} {n : Nat} {xs : List Value} (h : w.ownsRow base e 2 v n xs) : ∃ a c, v = .slice a n c := by
  obtain ⟨_, ⟨rfl, rfl⟩ | ⟨g, cap, _, rfl, _⟩⟩ := h
  · exact ⟨_, _, rfl⟩
  · exact ⟨_, _, rfl⟩
/-- A box that holds a slice which reads r. -/
def SlB (O : Nat → Prop) (b : Nat) (r : List UInt8) (W : World) : Prop := ∃ (a : Option Addr) (c : Nat), Blk W b 23 #[.slice a r.length c] ∧ RdO O W a r ∧ r.length ≤ c ∧ c ≤ 9223372036854775807 ∧ (a = none → r.length = 0 ∧ c = 0)
theorem SlB.keep {O X : Nat → Prop} {b : Nat} {r : List UInt8} {W W' : World} (h : SlB O b r W) (k : Kp X W W') (hb : ¬ X b) (hx : ∀ g, O g → ¬ X g) : SlB O b r W' := by
  obtain ⟨a, c, h1, h2, h3⟩ := h
  exact ⟨a, c, k.blk h1 hb, h2.keep k hx, h3⟩
/-- Where the feeding of a stream stands: s, q, S: where the blocks lie. -/
structure FdI (w : World) (s q S magic K : Nat) (r6 rb : List UInt8) (T : List (List UInt8 × List UInt8)) (v vm : Value) (W : World) : Prop where
  x6 : SlB (fun g => g < s ∨ q < g ∧ g < S) q r6 W
  xb : SlB (fun g => g < s ∨ q < g ∧ g < S) (S + 4) rb W
  out : Blk W S 38 #[.int .u32 magic, .int .i64 (K : Nat), .slice none 0 0, .int .i64 0]
  row : Blk W (S + 1) 39 #[v]
  ms : MsgL (S + 7) T vm W
  bm : Blk W (S + 2) 22 #[.int .u32 magic]
  bc : Blk W (S + 3) 3 #[.int .i64 (K : Nat)]
  z4 : Blk W (s + 1) 38 #[.int .u32 0, .int .i64 0, .slice none 0 0, .int .i64 0]
  bl : Below s w W
/-- How far the feeding has come. -/
def PK (magic K N : Nat) (all rest : List UInt8) (T : List (List UInt8 × List UInt8)) : Prop := T.length + rest.length ≤ N ∧ feedA magic K all = (T ++ (feedA magic K rest).1, (feedA magic K rest).2)
section
variable {X : Nat → Prop} {w W W' : World} {s q S magic K : Nat} {r6 rb : List UInt8} {T T' : List (List UInt8 × List UInt8)} {v vm vm' : Value}
theorem FdI.grow (h : FdI w s q S magic K r6 rb T v vm W) (k : Kp X W W') (hs : s + 1 < q ∧ q < S) (hx : ∀ g, X g → S + 5 ≤ g) (ms : MsgL (S + 7) T' vm' W') : FdI w s q S magic K r6 rb T' v vm' W' := by
  have hlt := h.z4.lt
  have ng : ∀ g, g < S + 5 → ¬ X g := fun g hg hx' => by have := hx g hx'; omega
  have no : ∀ g, (g < s ∨ q < g ∧ g < S) → ¬ X g := fun g hg hx' => by have := hx g hx'; omega
  exact ⟨h.x6.keep k (ng _ (by omega)) no, h.xb.keep k (ng _ (by omega)) no, k.blk h.out (ng _ (by omega)), k.blk h.row (ng _ (by omega)), ms, k.blk h.bm (ng _ (by omega)), k.blk h.bc (ng _ (by omega)),
    k.blk h.z4 (ng _ (by omega)), k.below h.bl (by omega) (fun g hg => ng g (by omega))⟩
theorem FdI.keep (h : FdI w s q S magic K r6 rb T v vm W) (k : Kp X W W') (hs : s + 1 < q ∧ q < S) (hx : ∀ g, X g → g = S + 5 ∨ g = S + 6) : FdI w s q S magic K r6 rb T v vm W' :=
  h.grow k hs (fun g hg => by have := hx g hg; omega) (h.ms.keep k fun g hg hx' => by have := hx g hx'; omega)
theorem FdI.setb (h : FdI w s q S magic K r6 rb T v vm W) (hs : s + 1 < q ∧ q < S) {a : Option Addr} {n c : Nat} {r : List UInt8} (hn : n = r.length) (hr : RdO (fun g => g < s ∨ q < g ∧ g < S) W a r) (h1 : n ≤ c) (h2 : c ≤ 9223372036854775807) (h3 : a = none → n = 0 ∧ c = 0) :
    FdI w s q S magic K r6 r T v vm (W.setCell ⟨S + 4, 0, none⟩ (.slice a n c)) := by
  subst hn
  have k := kp_set W (S + 4) 0 (.slice a r.length c)
  have hlt := h.z4.lt
  have no : ∀ g, (g < s ∨ q < g ∧ g < S) → ¬ g = S + 4 := fun g hg hx' => by omega
  obtain ⟨a0, c0, e1, _⟩ := h.xb
  exact ⟨h.x6.keep k (by omega) no, ⟨a, c, (e1.set_ 0 _).to rfl, hr.keep k no, h1, h2, h3⟩, k.blk h.out (by omega), k.blk h.row (by omega), h.ms.keep k (fun g hg => by omega), k.blk h.bm (by omega), k.blk h.bc (by omega), k.blk h.z4 (by omega), k.below h.bl (by omega) (fun g hg => by omega)⟩
theorem FdI.set6 (h : FdI w s q S magic K r6 rb T v vm W) (hs : s + 1 < q ∧ q < S) {a : Option Addr} {n c : Nat} {r : List UInt8} (hn : n = r.length) (hr : RdO (fun g => g < s ∨ q < g ∧ g < S) W a r) (h1 : n ≤ c) (h2 : c ≤ 9223372036854775807) (h3 : a = none → n = 0 ∧ c = 0) :
    FdI w s q S magic K r rb T v vm (W.setCell ⟨q, 0, none⟩ (.slice a n c)) := by
  subst hn
  have k := kp_set W q 0 (.slice a r.length c)
  have hlt := h.z4.lt
  have no : ∀ g, (g < s ∨ q < g ∧ g < S) → ¬ g = q := fun g hg hx' => by omega
  obtain ⟨a0, c0, e1, _⟩ := h.x6
  exact ⟨⟨a, c, (e1.set_ 0 _).to rfl, hr.keep k no, h1, h2, h3⟩, h.xb.keep k (by omega) no, k.blk h.out (by omega), k.blk h.row (by omega), h.ms.keep k (fun g hg => by omega), k.blk h.bm (by omega), k.blk h.bc (by omega), k.blk h.z4 (by omega), k.below h.bl (by omega) (fun g hg => by omega)⟩
theorem FdI.setr (h : FdI w s q S magic K r6 rb T v vm W) (hs : s + 1 < q ∧ q < S) : FdI w s q S magic K r6 rb T vm vm (W.setCell ⟨S + 1, 0, none⟩ vm) := by
  have k := kp_set W (S + 1) 0 vm
  have hlt := h.z4.lt
  have no : ∀ g, (g < s ∨ q < g ∧ g < S) → ¬ g = S + 1 := fun g hg hx' => by omega
  exact ⟨h.x6.keep k (by omega) no, h.xb.keep k (by omega) no, k.blk h.out (by omega), (h.row.set_ 0 _).to rfl, h.ms.keep k (fun g hg => by omega), k.blk h.bm (by omega), k.blk h.bc (by omega), k.blk h.z4 (by omega), k.below h.bl (by omega) (fun g hg => by omega)⟩
end
end Go.Proofs.YtlegcceaoglpoaaDoor

namespace Go.Proofs.YtlegcceaoglpoaaDoor
open Go.RowKit
set_option linter.unusedVariables false
theorem msgCs_at : ∀ (L : List ((List UInt8 × List UInt8) × Value)) (i : Nat) (x : (List UInt8 × List UInt8) × Value), L[i]? = some x → (msgCs L)[2 * i]? = some (.string (bstr x.1.1)) ∧ (msgCs L)[2 * i + 1]? = some x.2
  | [], i, x, h => by simp at h
  | y :: L, 0, x, h => by
    simp at h
    subst h
    exact ⟨rfl, rfl⟩
  | y :: L, i + 1, x, h => by
    have ih := msgCs_at L i x (by simpa using h)
    have e : msgCs (y :: L) = .string (bstr y.1.1) :: y.2 :: msgCs L := rfl
    rw [e, show 2 * (i + 1) = 2 * i + 1 + 1 by omega]
    exact ⟨by simpa using ih.1, by simpa using ih.2⟩
theorem MsgL.at {b0 : Nat} {T : List (List UInt8 × List UInt8)} {v : Value} {W : World} (h : MsgL b0 T v W) {i : Nat} {y : List UInt8 × List UInt8} (hi : T[i]? = some y) :
    ∃ g cap cur a c, v = .slice (some ⟨g, 0, none⟩) T.length cap ∧ T.length ≤ cap ∧ Blk W g 32 cur ∧ cur[2 * i]? = some (.string (bstr y.1)) ∧ cur[2 * i + 1]? = some (.slice a y.2.length c) ∧ RdS W a y.2 ∧ y.2.length ≤ c ∧ c ≤ maxLen ∧ (a = none → y.2.length = 0 ∧ c = 0) := by
  obtain ⟨L, h1, h2, h3⟩ := h
  have hlt : i < T.length := by
    rcases Nat.lt_or_ge i T.length with h | h
    · exact h
    · rw [List.getElem?_eq_none h] at hi; cases hi
  obtain ⟨x, hx, hxy⟩ : ∃ x, L[i]? = some x ∧ x.1 = y := by
    rw [← h1, List.getElem?_map] at hi
    cases hL : L[i]? with
    | none => rw [hL] at hi; cases hi
    | some x => rw [hL] at hi; injection hi with hi; exact ⟨x, rfl, hi⟩
  obtain ⟨c1, c2⟩ := msgCs_at L i x hx
  have hm : x ∈ L := List.mem_of_getElem? hx
  obtain ⟨a, c, e1, e2, e3, e4, e5⟩ := h3 x hm
  rcases h2.2 with ⟨_, h0⟩ | ⟨g, cap, cur, hv, hb, hg, q1, q2, q3, q4⟩
  · omega
  · have at_ : ∀ j u, (msgCs L)[j]? = some u → cur[j]? = some u := fun j u hu => by
      rw [← q4, List.getElem?_take] at hu
      split at hu
      · simpa using hu
      · cases hu
    subst hxy
    exact ⟨g, cap, cur, a, c, hv, q1, hg, at_ _ _ c1, at_ _ _ (by rw [c2, e1]), e2.rds, e3, e4, e5⟩
end Go.Proofs.YtlegcceaoglpoaaDoor

namespace Go.Proofs.YtlegcceaoglpoaaDoor
open Go.RowKit
set_option linter.unusedVariables false
theorem Fr_off (v : Nat → Value) (L : Nat → Bool) (t : Tmp) : ∀ (r : List (Option Tmp)) (k : Nat) (a : Act), (∀ j, r[j]? = some (some t) → L (k + j) = false) → (Fr v L r k a).tmps.getD t undef = a.tmps.getD t undef
  | [], _, _, _ => rfl
  | d :: r, k, a, h => by
    unfold Fr
    rw [Fr_off v L t r (k + 1) _ (fun j hj => by rw [show k + 1 + j = k + (j + 1) by omega]; exact h (j + 1) (by simpa using hj))]
    split
    · rename_i hL
      refine put_other a d _ t ?_
      cases d with
      | none => rfl
      | some x =>
        by_cases e : x = t
        · subst e
          have := h 0 rfl
          rw [Nat.add_zero, hL] at this
          cases this
        · simpa [apartD] using e
    · rfl
def OldAt (dsts : List (Option Tmp)) (p : Nat) (a0 A : Act) : Prop := ∀ t, dsts[p + 1]? = some (some t) → A.tmps.getD t undef = a0.tmps.getD t undef
/-- What each operation yields: p - 1 lays the slice (of m values, in block g), p appends (u), p + 1 assigns. -/
def vApp (vals : Nat → Value) (p m : Nat) (γ : Nat × Value) (i : Nat) : Value :=
  if Nat.beq (i + 1) p then .slice (some ⟨γ.1, 0, none⟩) m m else if Nat.beq i p || Nat.beq i (p + 1) then γ.2 else vals i
def AppI (p : Nat) (K R : World → Prop) (C : Nat → World → Prop) (T : Value → World → Prop) (γ : Nat × Value) (L : Nat → Bool) (w : World) : Prop :=
  K w ∧ (L p = true → L (p - 1) = true) ∧ (L (p + 1) = true → ∀ j, j ≤ p → L j = true) ∧ (L p = false → R w ∧ (L (p - 1) = true → C γ.1 w)) ∧ (L p = true → T γ.2 w)
def AppStep (P : Program) (Q : Exit → Act → World → Prop) (dsts : List (Option Tmp)) (vals : Nat → Value) (a0 : Act) (p m : Nat) (K R : World → Prop) (C : Nat → World → Prop) (T : Value → World → Prop) (i : Nat) (o : Oper) : Prop :=
  (Nat.beq (i + 1) p = false ∧ Nat.beq i p = false ∧ ∀ (γ : Nat × Value) (A : Act) w, K w → SlotF dsts (vApp vals p m γ) a0 o A → (Nat.ble i p = true → OldAt dsts p a0 A) → o.wp P A w (fun a' w' => a' = A.put o.dst (vApp vals p m γ i) ∧ Below w.heap.size w w') Q) ∨
  (Nat.beq (i + 1) p = true ∧ ∀ (γ : Nat × Value) (A : Act) w, K w → SlotF dsts (vApp vals p m γ) a0 o A → o.wp P A w (fun a' w' => ∃ g, a' = A.put o.dst (.slice (some ⟨g, 0, none⟩) m m) ∧ Below w.heap.size w w' ∧ C g w') Q) ∨
  (Nat.beq i p = true ∧ (edgesOf o).contains (p - 1) = true ∧ ∀ (γ : Nat × Value) (A : Act) w, K w → R w → C γ.1 w → SlotF dsts (vApp vals p m γ) a0 o A → o.wp P A w (fun a' w' => ∃ u, a' = A.put o.dst u ∧ T u w' ∧ K w') Q)
theorem wp_region_app {P : Program} {Q : Exit → Act → World → Prop} {id : Nat} {l : List Oper} {a : Act} {w : World} (dsts : List (Option Tmp)) (vals : Nat → Value) (p m : Nat) (K R : World → Prop) (C : Nat → World → Prop) (T : Value → World → Prop)
    (hK : ∀ w1 w2, Below w1.heap.size w1 w2 → (K w1 → K w2) ∧ (R w1 → R w2) ∧ (∀ g, C g w1 → C g w2) ∧ (∀ u, T u w1 → T u w2))
    (hm : P.follows .mixedOrders = true) (hds : l.map (·.dst) = dsts) (hnd : nodupD dsts = true) (hng : (l.all fun o => o.guard.isNone) = true) (hord : ordGo 0 l = true) (hin : inD a.tmps.size dsts = true) (hp : 0 < p) (hlen : l.length = p + 2) (hasg : ∀ o, l[p + 1]? = some o → ((List.range (p + 1)).all fun j => (edgesOf o).contains j) = true) (hone : ((dsts.take (p + 1)).all fun d => apartD d (dsts.getD (p + 1) none)) = true)
    (k0 : K w) (r0 : R w)
    (step : StepAll (AppStep P Q dsts vals a p m K R C T) 0 l)
    (fin : ∀ γ w', T γ.2 w' → K w' → Q .normal (Fr (vApp vals p m γ) (fun _ => true) dsts 0 a) w') : (Code.region id l.toArray true).wp P Q a w := by
  have hd0 : Below w.heap.size w w.drew := (Below.refl _ _).drew
  refine wp_region_inv (Γ := Nat × Value) dsts (vApp vals p m) (AppI p K R C T) hm hds hnd hng hord (0, undef) ⟨(hK _ _ hd0).1 k0, fun h => (by cases h), fun h => (by cases h), fun _ => ⟨(hK _ _ hd0).2.1 r0, fun h => (by cases h)⟩, fun h => by cases h⟩ ?_ ?_
  · have key : ∀ (l' : List Oper) (k : Nat), k + l'.length = p + 2 → (∀ j, l'[j]? = l[k + j]?) → StepAll (AppStep P Q dsts vals a p m K R C T) k l' → StepAll (fun i o => ∀ γ L w', AppI p K R C T γ L w' → L i = false → (∀ j ∈ edgesOf o, L j = true) →
      o.wp P (Fr (vApp vals p m γ) L dsts 0 a) w' (fun a' w'' => ∃ γ', (∀ j, L j = true → vApp vals p m γ' j = vApp vals p m γ j) ∧ a' = (Fr (vApp vals p m γ) L dsts 0 a).put o.dst (vApp vals p m γ' i) ∧ AppI p K R C T γ' (onL L i) w'') Q) k l' := by
      intro l'
      induction l' with
      | nil => intro k hk _ hs; trivial
      | cons o l' ih =>
        intro k hk hg hs
        refine ⟨?_, ih (k + 1) (by simp at hk; omega) (fun j => by have := hg (j + 1); rw [List.getElem?_cons_succ] at this; rw [this]; congr 1; omega) hs.2⟩
        rintro γ L w' ⟨hk0, hcl, hcl2, h1, h2⟩ hL hdep
        have hSF : SlotF dsts (vApp vals p m γ) a o (Fr (vApp vals p m γ) L dsts 0 a) :=
          ⟨fun j hj t ht => Fr_get (vApp vals p m γ) L t j (hdep j (List.contains_iff_mem.1 hj)) dsts 0 a hnd (Nat.zero_le _) (by simpa using ht) (inD_lt hin ht), fun t ht => Fr_old (vApp vals p m γ) L t dsts 0 a ht⟩
        have hlt : k < p + 2 := by simp at hk; omega
        have hold : Nat.ble k p = true → OldAt dsts p a (Fr (vApp vals p m γ) L dsts 0 a) := fun hkp t ht => by
          have hkp' : k ≤ p := Nat.le_of_ble_eq_true hkp
          have hLp1 : L (p + 1) = false := by
            cases h : L (p + 1) with
            | false => rfl
            | true => have := hcl2 h k hkp'; rw [hL] at this; cases this
          refine Fr_off _ L t dsts 0 a fun j hj => ?_
          rw [Nat.zero_add]
          by_cases e : j = p + 1
          · rw [e]; exact hLp1
          · have hjl : j < dsts.length := (List.getElem?_eq_some_iff.1 hj).1
            have hdl : dsts.length = p + 2 := by rw [← hds, List.length_map, hlen]
            have hm := List.all_eq_true.1 hone (some t) (List.mem_of_getElem? (i := j) (by rw [List.getElem?_take_of_lt (by omega)]; exact hj))
            rw [List.getD, ht] at hm
            simp [apartD] at hm
        rcases hs.1 with ⟨n1, n2, hq⟩ | ⟨e1, hq⟩ | ⟨e2, he, hq⟩
        · have n1' : k + 1 ≠ p := fun e => by rw [e, Nat.beq_refl] at n1; cases n1
          have n2' : p ≠ k := fun e => by rw [← e, Nat.beq_refl] at n2; cases n2
          have n3' : p - 1 ≠ k := by omega
          refine Oper.wp_mono ?_ (hq γ _ w' hk0 hSF hold)
          rintro a' w'' ⟨rfl, hb⟩
          obtain ⟨q1, q2, q3, q4⟩ := hK _ _ hb
          refine ⟨γ, fun _ _ => rfl, rfl, q1 hk0, ?_, ?_, ?_, ?_⟩
          · rw [onL_ne n2', onL_ne n3']; exact hcl
          · by_cases e : k = p + 1
            · subst e
              intro _
              have := hg 0
              rw [List.getElem?_cons_zero, Nat.add_zero] at this
              intro j hj
              by_cases ej : j = p + 1
              · omega
              · rw [onL_ne ej]; exact hdep j (List.contains_iff_mem.1 (List.all_eq_true.1 (hasg o this.symm) j (List.mem_range.2 (by omega))))
            · rw [onL_ne (Ne.symm e)]
              intro h j hj
              unfold onL
              rw [hcl2 h j hj]
              rfl
          · rw [onL_ne n2', onL_ne n3']; exact fun h => ⟨q2 (h1 h).1, fun h' => q3 _ ((h1 h).2 h')⟩
          · rw [onL_ne n2']; exact fun h => q4 _ (h2 h)
        · have e1' : k + 1 = p := Nat.eq_of_beq_eq_true e1
          have n2' : p ≠ k := by omega
          have e3' : p - 1 = k := by omega
          have hLp : L p = false := by
            cases h : L p with
            | false => rfl
            | true => have := hcl h; rw [e3', hL] at this; cases this
          refine Oper.wp_mono ?_ (hq γ _ w' hk0 hSF)
          rintro a' w'' ⟨g, rfl, hb, hC⟩
          obtain ⟨q1, q2, q3, q4⟩ := hK _ _ hb
          refine ⟨(g, γ.2), fun j hj => ?_, ?_, q1 hk0, ?_, ?_, ?_, ?_⟩
          · have nj : Nat.beq (j + 1) p = false := by
              cases h : Nat.beq (j + 1) p with
              | false => rfl
              | true =>
                have : j = k := by have := Nat.eq_of_beq_eq_true h; omega
                rw [this, hL] at hj; cases hj
            simp only [vApp, nj, Bool.false_eq_true, if_false]
          · simp only [vApp, e1, if_true]
          · rw [onL_ne n2', hLp]; exact fun h => by cases h
          · rw [onL_ne (show p + 1 ≠ k by omega)]
            intro h j hj
            unfold onL
            rw [hcl2 h j hj]
            rfl
          · intro _; exact ⟨q2 (h1 hLp).1, fun _ => hC⟩
          · rw [onL_ne n2', hLp]; exact fun h => by cases h
        · have e2' : k = p := Nat.eq_of_beq_eq_true e2
          subst e2'
          have hLq := hdep (k - 1) (List.contains_iff_mem.1 he)
          refine Oper.wp_mono ?_ (hq γ _ w' hk0 (h1 hL).1 ((h1 hL).2 hLq) hSF)
          rintro a' w'' ⟨u, rfl, hT, hk1⟩
          refine ⟨(γ.1, u), fun j hj => ?_, ?_, hk1, ?_, ?_, ?_, fun _ => hT⟩
          · have nj : Nat.beq j k = false := by
              cases h : Nat.beq j k with
              | false => rfl
              | true => rw [Nat.eq_of_beq_eq_true h, hL] at hj; cases hj
            have nj2 : Nat.beq j (k + 1) = false := by
              cases h : Nat.beq j (k + 1) with
              | false => rfl
              | true => have := hcl2 (by rw [← Nat.eq_of_beq_eq_true h]; exact hj) k (Nat.le_refl _); rw [hL] at this; cases this
            simp only [vApp, nj, nj2, Bool.or_self, Bool.false_eq_true, if_false]
          · have n : Nat.beq (k + 1) k = false := by
              cases h : Nat.beq (k + 1) k with
              | false => rfl
              | true => have := Nat.eq_of_beq_eq_true h; omega
            simp only [vApp, n, Nat.beq_refl, Bool.true_or, if_true]
            rfl
          · intro _
            rw [onL_ne (by omega)]
            exact hLq
          · rw [onL_ne (show k + 1 ≠ k by omega)]
            intro h j hj
            unfold onL
            rw [hcl2 h j hj]
            rfl
          · rw [onL_same]; exact fun h => by cases h
    exact key l 0 (by omega) (fun j => by rw [Nat.zero_add]) step
  · rintro γ L w' hL ⟨hk0, _, _, _, h2⟩
    exact fin γ w' (h2 (hL p (by omega))) hk0
end Go.Proofs.YtlegcceaoglpoaaDoor

namespace Go.Proofs.YtlegcceaoglpoaaDoor
open Go.RowKit
set_option linter.unusedVariables false

/-- i: the operation that fills block g; t: its type; z, c: its cells before and behind. -/
structure SB where
  i : Nat
  g : Nat
  t : TypeId
  z : Array Value
  c : Array Value
def Kept (w w' : World) (sts : List SB) : Prop := ∀ k, k < w.heap.size → (∀ s, s ∈ sts → s.g ≠ k) → w'.heap[k]? = w.heap[k]?
theorem Kept.blk {w w' : World} {sts : List SB} (h : Kept w w' sts) {g : Nat} {t : TypeId} {cs : Array Value} (hb : Blk w g t cs) (hne : (sts.all fun s => !Nat.beq s.g g) = true ∨ ∀ s, s ∈ sts → s.g ≠ g) : Blk w' g t cs := by
  refine (h g hb.lt ?_).trans hb
  rcases hne with hne | hne
  · intro s hs
    have := List.all_eq_true.1 hne s hs
    exact Nat.ne_of_beq_eq_false (by simpa using this)
  · exact hne
def StI (B : Nat) (w : World) (sts : List SB) (L : Nat → Bool) (w' : World) : Prop :=
  Below B w w' ∧ w.heap.size ≤ w'.heap.size ∧ Kept w w' sts ∧ ∀ s, s ∈ sts → Blk w' s.g s.t (if L s.i then s.c else s.z)
section
variable {B : Nat} {w w' w'' : World} {sts : List SB} {L : Nat → Bool} {i : Nat}
theorem StI.quiet (h : StI B w sts L w') (hi : (sts.all fun s => !Nat.beq s.i i) = true) (hb : Below w'.heap.size w' w'') (hB : B ≤ w.heap.size) : StI B w sts (onL L i) w'' := by
  obtain ⟨h1, h2, h3, h4⟩ := h
  refine ⟨h1.trans (hb.mono (by omega)), Nat.le_trans h2 hb.size, fun k hk hs => ?_, fun s hs => ?_⟩
  · rw [hb.block k (by omega)]
    exact h3 k hk hs
  · have e : s.i ≠ i := by have := List.all_eq_true.1 hi s hs; exact Nat.ne_of_beq_eq_false (by simpa using this)
    rw [onL_ne e]
    exact (h4 s hs).calls hb
theorem StI.store (h : StI B w sts L w') (hnd : (sts.map (·.i)).Nodup) (hgd : (sts.map (·.g)).Nodup) {s : SB} (hs : s ∈ sts) (hi : s.i = i) (hB : B ≤ s.g) : StI B w sts (onL L i) (w'.setRow s.g s.c) := by
  obtain ⟨h1, h2, h3, h4⟩ := h
  refine ⟨setRow_below h1 hB _, by simpa [World.setRow] using h2, fun k hk hne => ?_, fun r hr => ?_⟩
  · have : s.g ≠ k := hne s hs
    rw [← h3 k hk hne]
    simp [World.setRow, Array.getElem?_modify, this]
  · by_cases e : r.i = i
    · have : r = s := inj_nodup hnd hr hs (e.trans hi.symm)
      subst this
      rw [e, onL_same]
      exact (h4 r hr).row _
    · rw [onL_ne e]
      have : r.g ≠ s.g := fun hg => e ((inj_nodup hgd hr hs hg) ▸ hi)
      exact (h4 r hr).rowFar this _
end
def StStep (P : Program) (Q : Exit → Act → World → Prop) (B : Nat) (w0 : World) (sts : List SB) (dsts : List (Option Tmp)) (vals : Nat → Value) (a0 : Act) (i : Nat) (o : Oper) : Prop :=
  ((sts.all fun s => !Nat.beq s.i i) = true ∧ ∀ (A : Act) w', Below B w0 w' → Kept w0 w' sts → w0.heap.size ≤ w'.heap.size → SlotF dsts vals a0 o A → o.wp P A w' (fun a' w'' => a' = A.put o.dst (vals i) ∧ Below w'.heap.size w' w'') Q) ∨
  (∃ s, s ∈ sts ∧ s.i = i ∧ vals i = undef ∧ ∃ ty x y, o.op = .store ty x y ∧ (∀ A, SlotF dsts vals a0 o A → A.eval x = .pointer (some ⟨s.g, 0, none⟩) ∧ A.eval y = .agg s.c) ∧ (P.info? ty).map (·.size) = some s.c.size ∧ s.z.size = s.c.size ∧ s.c.all (·.oneCell') = true ∧ B ≤ s.g)
theorem wp_region_st {P : Program} {Q : Exit → Act → World → Prop} {id : Nat} {l : List Oper} {a : Act} {w : World} (B : Nat) (dsts : List (Option Tmp)) (sts : List SB) (vals : Nat → Value) (hB : B ≤ w.heap.size)
    (hm : P.follows .mixedOrders = true) (hds : l.map (·.dst) = dsts) (hnd : nodupD dsts = true) (hng : (l.all fun o => o.guard.isNone) = true) (hord : ordGo 0 l = true) (hin : inD a.tmps.size dsts = true)
    (hsi : nodupB (sts.map (·.i)) = true) (hsg : (sts.map (·.g)).Nodup) (hlen : (sts.all fun s => Nat.blt s.i l.length) = true) (h0 : ∀ s, s ∈ sts → Blk w s.g s.t s.z)
    (step : StepAll (StStep P Q B w sts dsts vals a) 0 l)
    (fin : ∀ w', Below B w w' → w.heap.size ≤ w'.heap.size → Kept w w' sts → (∀ s, s ∈ sts → Blk w' s.g s.t s.c) → Q .normal (Fr vals (fun _ => true) dsts 0 a) w') : (Code.region id l.toArray true).wp P Q a w := by
  refine wp_region_inv (Γ := Unit) dsts (fun _ => vals) (fun _ L w' => StI B w sts L w') hm hds hnd hng hord () ?_ ?_ ?_
  · exact ⟨(Below.refl B w).drew, Nat.le_refl _, fun _ _ _ => rfl, fun s hs => by simpa using (h0 s hs).drew⟩
  · refine StepAll.imp ?_ step
    rintro i o hst γ L w' hI hL hdep
    have hSF : SlotF dsts vals a o (Fr vals L dsts 0 a) :=
      ⟨fun j hj t ht => Fr_get vals L t j (hdep j (List.contains_iff_mem.1 hj)) dsts 0 a hnd (Nat.zero_le _) (by simpa using ht) (inD_lt hin ht), fun t ht => Fr_old vals L t dsts 0 a ht⟩
    rcases hst with ⟨hq, hw⟩ | ⟨s, hs, hi, hv, ty, x, y, ho, hxy, h1, h2, h3, h4⟩
    · refine Oper.wp_mono ?_ (hw _ w' hI.1 hI.2.2.1 hI.2.1 hSF)
      rintro a' w'' ⟨rfl, hb⟩
      exact ⟨(), fun _ _ => rfl, rfl, hI.quiet hq hb hB⟩
    · obtain ⟨hx, hy⟩ := hxy _ hSF
      have hb : Blk w' s.g s.t s.z := by have hb := hI.2.2.2 s hs; rw [hi, hL] at hb; exact hb
      refine wp_store_row ty x y ho s.g s.c hx hy s.t s.z hb h1 h2 h3 ⟨(), fun _ _ => rfl, ?_, hI.store (nodupB_spec hsi) hsg hs hi h4⟩
      rw [hv]
  · rintro γ L w' hL ⟨h1, h2, h3, h4⟩
    refine fin w' h1 h2 h3 fun s hs => ?_
    have := h4 s hs
    have hl := List.all_eq_true.1 hlen s hs
    simp only [Nat.blt_eq] at hl
    rw [hL _ hl] at this
    exact this
end Go.Proofs.YtlegcceaoglpoaaDoor

namespace Go.Proofs.YtlegcceaoglpoaaDoor
open Go.RowKit
set_option linter.unusedVariables false
section
variable {P : Program} {Q : Exit → Act → World → Prop} {o : Oper} {A : Act} {w : World} {u : Value}
theorem wp_store_int {K : Act → World → Prop} (ty : TypeId) (x y : Operand) (ho : o.op = .store ty x y) (g i : Nat) (hx : A.eval x = .pointer (some ⟨g, i, none⟩)) (k k' : IntKind) (v : Int) (hy : A.eval y = .int k v) (u : Value)
    (hc : w.cell? ⟨g, i, none⟩ = some u) (hf : w.frozen? ⟨g, i, none⟩ = false) (hu : P.underlying ty = some (.int k')) (hs : ∀ w, (sizeOf ty).run P w = .ok 1 w) (hK : K (A.put o.dst undef) (w.setCell ⟨g, i, none⟩ (.int k v))) : o.wp P A w K Q := by
  have h : (execOp A.eval o).run P w = .ok .skip (w.setCell ⟨g, i, none⟩ (.int k v)) := by
    generalize A.eval = ρ at *
    unfold execOp
    simp [ho, hx, hy, hc, hf, stored, hs, go_sem]
  unfold Oper.wp
  rw [h]
  exact hK
theorem run_loadVar_cellv (w : World) (a : Addr) (ty : TypeId) (v : Value) (d : TypeDesc) (hc : w.cell? a = some v) (hu : P.underlying ty = some d) (hd : (match d with | .struct _ | .array _ _ => false | _ => true) = true) :
    (loadVar ty a).run P w = .ok v w := by
  have hagg : (isAgg ty).run P w = .ok false w := by
    unfold isAgg
    rw [Sem.run_bind, run_underlying hu w]
    cases d <;> simp_all
  simp [loadVar, Sem.run_bind, hagg, hc]
theorem op_cellv (ty : TypeId) (x : Operand) (ho : o.op = .load ty x) (b : Addr) (hx : A.eval x = .pointer (some b)) (v : Value) (hc : w.cell? b = some v) (d : TypeDesc) (hu : P.underlying ty = some d)
    (hd : (match d with | .struct _ | .array _ _ => false | _ => true) = true) : o.wp P A w (fun a' w'' => a' = A.put o.dst v ∧ Below w.heap.size w w'') Q := by
  refine op_run ?_
  unfold execOp
  simp only [ho, hx, Instr.loadAt, Instr.sureAddr, Sem.run_bind, Sem.run_pure, Result.andThen_ok, run_loadVar_cellv w b ty v d hc hu hd]
theorem op_idxa (t : TypeId) (x i : Operand) (ho : o.op = .indexAddr t x i) {vx vi : Value} (hx : A.eval x = vx) (hi : A.eval i = vi) (hrun : (Instr.indexAt t vx vi).run P w = .ok u w) : o.wp P A w (fun a' w'' => a' = A.put o.dst u ∧ Below w.heap.size w w'') Q := by
  refine op_run ?_
  unfold execOp
  simp only [ho, hx, hi, Sem.run_bind, hrun]
  rfl
theorem op_cvt (src dst : TypeId) (x : Operand) {v : Value} (ho : o.op = .convert src dst x) (hx : A.eval x = v) (hrun : (convert src dst v).run P w = .ok u w) : o.wp P A w (fun a' w'' => a' = A.put o.dst u ∧ Below w.heap.size w w'') Q := by
  refine op_run ?_
  unfold execOp
  simp only [ho, hx, Sem.run_bind, hrun]
  rfl
theorem op_or (t r : TypeId) (x y : Operand) (k : IntKind) (m n s : Int) (ho : o.op = .binOp .or t x y r) (hx : A.eval x = .int k m) (hy : A.eval y = .int k n) (hb : bits .or k m n = s) : o.wp P A w (fun a' w'' => a' = A.put o.dst (.int k s) ∧ Below w.heap.size w w'') Q := by
  refine op_run ?_
  generalize A.eval = ρ at *
  unfold execOp
  subst hb
  simp [ho, hx, hy, eqGuard, binOp, Op.intBits, bits, go_sem]
end
end Go.Proofs.YtlegcceaoglpoaaDoor

namespace Go.Proofs.YtlegcceaoglpoaaDoor
open Go.RowKit
set_option linter.unusedVariables false
section
variable {P : Program} {Q : Exit → Act → World → Prop} {o : Oper} {A : Act} {w : World} {u : Value}
theorem op_and (t r : TypeId) (x y : Operand) (k : IntKind) (m n s : Int) (ho : o.op = .binOp .and t x y r) (hx : A.eval x = .int k m) (hy : A.eval y = .int k n) (hb : bits .and k m n = s) : o.wp P A w (fun a' w'' => a' = A.put o.dst (.int k s) ∧ Below w.heap.size w w'') Q := by
  refine op_run ?_
  generalize A.eval = ρ at *
  unfold execOp
  subst hb
  simp [ho, hx, hy, eqGuard, binOp, Op.intBits, bits, go_sem]
theorem op_mul (t r : TypeId) (x y : Operand) (k : IntKind) (m n s : Int) (ho : o.op = .binOp .mul t x y r) (hx : A.eval x = .int k m) (hy : A.eval y = .int k n) (hb : k.wrap (m * n) = s) : o.wp P A w (fun a' w'' => a' = A.put o.dst (.int k s) ∧ Below w.heap.size w w'') Q := by
  refine op_run ?_
  generalize A.eval = ρ at *
  unfold execOp
  subst hb
  simp [ho, hx, hy, eqGuard, binOp, Op.intArith, go_sem]
end
end Go.Proofs.YtlegcceaoglpoaaDoor

namespace Go.Proofs.YtlegcceaoglpoaaDoor
open Go.RowKit
set_option linter.unusedVariables false
section
variable {P : Program} {Q : Exit → Act → World → Prop} {o : Oper} {A : Act} {w : World} {u : Value}
theorem cell_load {P : Program} (w : World) (a : Addr) (ty : TypeId) (v : Value) (d : TypeDesc) (hc : w.cell? a = some v) (hu : P.underlying ty = some d) (hd : (match d with | .struct _ | .array _ _ => false | _ => true) = true) :
    (loadVar ty a).run P w = .ok v w := by
  have hagg : (isAgg ty).run P w = .ok false w := by
    unfold isAgg
    rw [Sem.run_bind, run_underlying hu w]
    cases d <;> simp_all
  simp [loadVar, Sem.run_bind, hagg, hc]
theorem op_cel (ty : TypeId) (x : Operand) (ho : o.op = .load ty x) (b : Addr) (hx : A.eval x = .pointer (some b)) (v : Value) (hc : w.cell? b = some v) (d : TypeDesc) (hu : P.underlying ty = some d)
    (hd : (match d with | .struct _ | .array _ _ => false | _ => true) = true) : o.wp P A w (fun a' w'' => a' = A.put o.dst v ∧ Below w.heap.size w w'') Q := by
  refine op_run ?_
  unfold execOp
  simp only [ho, hx, Instr.loadAt, Instr.sureAddr, Sem.run_bind, Sem.run_pure, Result.andThen_ok, cell_load w b ty v d hc hu hd]
theorem op_fld (T : TypeId) (x : Operand) (k off : Nat) (ho : o.op = .fieldAddr T x k) (g : Nat) (hx : A.eval x = .pointer (some ⟨g, 0, none⟩)) (hf : ∀ (g : Nat) (w : World), (Instr.fieldAt T (.pointer (some ⟨g, 0, none⟩)) k).run P w = .ok (.pointer (some ⟨g, off, none⟩)) w) :
    o.wp P A w (fun a' w'' => a' = A.put o.dst (.pointer (some ⟨g, off, none⟩)) ∧ Below w.heap.size w w'') Q := by
  refine op_run ?_
  unfold execOp
  simp only [ho, hx, Sem.run_bind, hf]
  rfl
theorem oargs1 {x : Operand} {u : Value} (h1 : A.eval x = u) : #[x].map A.eval = #[u] := by simp [h1]
theorem oargs2 {x y : Operand} {u v : Value} (h1 : A.eval x = u) (h2 : A.eval y = v) : #[x, y].map A.eval = #[u, v] := by simp [h1, h2]
theorem oargs3 {x y z : Operand} {u v s : Value} (h1 : A.eval x = u) (h2 : A.eval y = v) (h3 : A.eval z = s) : #[x, y, z].map A.eval = #[u, v, s] := by simp [h1, h2, h3]
theorem oargs4 {x y z q : Operand} {u v s t : Value} (h1 : A.eval x = u) (h2 : A.eval y = v) (h3 : A.eval z = s) (h4 : A.eval q = t) : #[x, y, z, q].map A.eval = #[u, v, s, t] := by simp [h1, h2, h3, h4]
end
end Go.Proofs.YtlegcceaoglpoaaDoor

namespace Go.Proofs.YtlegcceaoglpoaaDoor
open Go.RowKit
set_option linter.unusedVariables false
section
variable {P : Program} {Q : Exit → Act → World → Prop} {o : Oper} {A : Act} {w : World} {u : Value}
theorem op_mf (T : TypeId) (x : Operand) (k off : Nat) (ho : o.op = .fieldAddr T x k) (g f : Nat) (hx : A.eval x = .pointer (some ⟨g, f, none⟩)) (hf : ∀ (g f : Nat) (w : World), (Instr.fieldAt T (.pointer (some ⟨g, f, none⟩)) k).run P w = .ok (.pointer (some ⟨g, f + off, none⟩)) w) :
    o.wp P A w (fun a' w'' => a' = A.put o.dst (.pointer (some ⟨g, f + off, none⟩)) ∧ Below w.heap.size w w'') Q := by
  refine op_run ?_
  unfold execOp
  simp only [ho, hx, Sem.run_bind, hf]
  rfl
theorem op_nes (t r : TypeId) (x y : Operand) (m n : ByteArray) (b : Bool) (ho : o.op = .binOp .neq t x y r) (hx : A.eval x = .string m) (hy : A.eval y = .string n) (hb : (!(m.toList == n.toList)) = b) : o.wp P A w (fun a' w'' => a' = A.put o.dst (.bool b) ∧ Below w.heap.size w w'') Q := by
  refine op_run ?_
  generalize A.eval = ρ at *
  unfold execOp
  subst hb
  simp [ho, hx, hy, eqGuard, binOp, Op.stringOp, go_sem]
end
end Go.Proofs.YtlegcceaoglpoaaDoor
