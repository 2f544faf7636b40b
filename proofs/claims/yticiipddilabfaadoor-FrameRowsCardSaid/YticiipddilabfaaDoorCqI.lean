/- What keeps, where some blocks turn; a row of messages of the call's own. A range over the messages of bytes: the law. -/
import Derived.RangeFuncKeeps
import Derived.Maps.OwnIn
import Derived.Test.YticiipddilabfaaDoorCqH
namespace Go.Proofs.YticiipddilabfaaDoor
open Go.RowKit
set_option linter.unusedVariables false
/-- But for the blocks X all stand as they stood. -/
def Kp (X : Nat → Prop) (W W' : World) : Prop := W.heap.size ≤ W'.heap.size ∧ (∀ k, k < W.heap.size → ¬ X k → W'.heap[k]? = W.heap[k]?) ∧ W'.os = W.os ∧ W'.tape = W.tape ∧ W'.output = W.output
theorem kp_alloc (X : Nat → Prop) (W : World) (o : Obj) : Kp X W (W.alloc o) := ⟨by simp, fun k hk _ => Below.heap_alloc W o k hk, rfl, rfl, rfl⟩
theorem kp_set (W : World) (b i : Nat) (v : Value) : Kp (fun k => k = b) W (W.setCell ⟨b, i, none⟩ v) := ⟨by simp, fun k _ h => Below.heap_setCell W ⟨b, i, none⟩ v k h, rfl, rfl, rfl⟩
theorem kp_put (W : World) (l : Nat) (o : Obj) : Kp (fun k => k = l) W (W.putObj l o) := ⟨by simp, fun k _ h => World.putObj_heap_other h, rfl, rfl, rfl⟩
theorem kp_grown {W W' : World} {row : Option Nat} (h : W.grownBy W' row) : Kp (fun k => some k = row) W W' := ⟨h.size, fun k hk hx => h.block k hk hx, h.os, h.tape, h.output⟩
theorem kp_below {X : Nat → Prop} {W W' : World} (h : Below W.heap.size W W') : Kp X W W' := ⟨h.size, fun k hk _ => h.block k hk, h.os, h.tape, h.output⟩
theorem Kp.mono {X Y : Nat → Prop} {W W' : World} (h : Kp X W W') (hx : ∀ k, X k → Y k) : Kp Y W W' := ⟨h.1, fun k hk hy => h.2.1 k hk fun hx' => hy (hx k hx'), h.2.2⟩
theorem Kp.trans {X : Nat → Prop} {A B C : World} (h : Kp X A B) (k : Kp X B C) : Kp X A C := ⟨Nat.le_trans h.1 k.1, fun i hi hx => (k.2.1 i (Nat.lt_of_lt_of_le hi h.1) hx).trans (h.2.1 i hi hx), k.2.2.1.trans h.2.2.1, k.2.2.2.1.trans h.2.2.2.1, k.2.2.2.2.trans h.2.2.2.2⟩
theorem Kp.below {X : Nat → Prop} {B : Nat} {A W W' : World} (k : Kp X W W') (h : Below B A W) (hB : B ≤ W.heap.size) (hx : ∀ k, k < B → ¬ X k) : Below B A W' :=
  ⟨k.2.2.1.trans h.os, k.2.2.2.1.trans h.tape, k.2.2.2.2.trans h.output, Nat.le_trans h.size k.1, fun i hi => (k.2.1 i (Nat.lt_of_lt_of_le hi hB) (hx i hi)).trans (h.block i hi)⟩
theorem Kp.obj {X : Nat → Prop} {W W' : World} (h : Kp X W W') {k : Nat} {o : Obj} (ho : W.heap[k]? = some o) (hx : ¬ X k) : W'.heap[k]? = some o :=
  (h.2.1 k (Array.getElem?_eq_some_iff.1 ho).1 hx).trans ho
theorem Kp.blk {X : Nat → Prop} {W W' : World} (h : Kp X W W') {g : Nat} {t : TypeId} {cs : Array Value} (hb : Blk W g t cs) (hx : ¬ X g) : Blk W' g t cs := h.obj hb hx
/-- Bytes that are read of a block of the class O. -/
def RdO (O : Nat → Prop) (W : World) (a : Option Addr) (l : List UInt8) : Prop := l = [] ∨ ∃ g off, a = some ⟨g, off, none⟩ ∧ O g ∧ g < W.heap.size ∧ Rd W g off l
theorem RdO.rds {O : Nat → Prop} {W : World} {a : Option Addr} {l : List UInt8} (h : RdO O W a l) : RdS W a l := by
  rcases h with h | ⟨g, off, h1, _, h2, h3⟩
  · exact .inl h
  · exact .inr ⟨g, off, h1, h2, h3⟩
theorem RdO.keep {O X : Nat → Prop} {W W' : World} {a : Option Addr} {l : List UInt8} (h : RdO O W a l) (k : Kp X W W') (hx : ∀ g, O g → ¬ X g) : RdO O W' a l := by
  rcases h with h | ⟨g, off, h1, ho, h2, h3⟩
  · exact .inl h
  · exact .inr ⟨g, off, h1, ho, Nat.lt_of_lt_of_le h2 k.1, fun i hi => (World.cell?_of_block (a := ⟨g, off + i, none⟩) (k.2.1 g h2 (hx g ho))).trans (h3 i hi)⟩
theorem RdO.mono {O O' : Nat → Prop} {W : World} {a : Option Addr} {l : List UInt8} (h : RdO O W a l) (ho : ∀ g, g < W.heap.size → O g → O' g) : RdO O' W a l := by
  rcases h with h | ⟨g, off, h1, h4, h2, h3⟩
  · exact .inl h
  · exact .inr ⟨g, off, h1, ho g h2 h4, h2, h3⟩
theorem RdS.rdo {O : Nat → Prop} {W : World} {a : Option Addr} {l : List UInt8} (h : RdS W a l) (ho : ∀ g off, a = some ⟨g, off, none⟩ → g < W.heap.size → O g) : RdO O W a l := by
  rcases h with h | ⟨g, off, h1, h2, h3⟩
  · exact .inl h
  · exact .inr ⟨g, off, h1, ho g off h1 h2, h2, h3⟩
theorem RdO.from {O : Nat → Prop} {W : World} {a : Option Addr} {l : List UInt8} {n c k : Nat} (h : RdO O W a l) (hn : l.length = n) (hk : k ≤ n) (hc : n ≤ c) : RdO O W (if c = k then a else Option.map (fun x => x.add k) a) (l.drop k) := by
  by_cases e : k = n
  · exact .inl (by rw [List.drop_eq_nil_iff]; omega)
  · rcases h with h | ⟨g, off, rfl, ho, h2, h3⟩
    · subst h
      simp at hn
      omega
    · rw [if_neg (by omega)]
      exact .inr ⟨g, off + k, by simp [Addr.add_mid], ho, h2, h3.drop⟩
/-- A slice of bytes that reads l. -/
def SlO (O : Nat → Prop) (l : List UInt8) (v : Value) (W : World) : Prop := ∃ (a : Option Addr) (c : Nat), v = .slice a l.length c ∧ RdO O W a l ∧ l.length ≤ c ∧ c ≤ maxLen ∧ (a = none → l.length = 0 ∧ c = 0)
theorem SlO.keep {O X : Nat → Prop} {W W' : World} {v : Value} {l : List UInt8} (h : SlO O l v W) (k : Kp X W W') (hx : ∀ g, O g → ¬ X g) : SlO O l v W' := by
  obtain ⟨a, c, h1, h2, h3⟩ := h
  exact ⟨a, c, h1, h2.keep k hx, h3⟩
theorem SlO.mono {O O' : Nat → Prop} {W : World} {v : Value} {l : List UInt8} (h : SlO O l v W) (ho : ∀ g, g < W.heap.size → O g → O' g) : SlO O' l v W := by
  obtain ⟨a, c, h1, h2, h3⟩ := h
  exact ⟨a, c, h1, h2.mono ho, h3⟩
theorem CloV.slo {O : Nat → Prop} {l : List UInt8} {v : Value} {W : World} (h : CloV l v W) (ho : ∀ ad n c, v = .slice (some ad) n c → ad.block < W.heap.size → O ad.block) : SlO O l v W := by
  obtain ⟨a, c, rfl, h2, h3⟩ := h
  exact ⟨a, c, rfl, h2.rdo (fun g off e hg => ho _ _ _ (by rw [e]) hg), h3⟩
theorem SlO.clo {O : Nat → Prop} {l : List UInt8} {v : Value} {W : World} (h : SlO O l v W) : CloV l v W := by
  obtain ⟨a, c, h1, h2, h3⟩ := h
  exact ⟨a, c, h1, h2.rds, h3⟩
/-- The cells of messages. -/
def msgCs (L : List ((List UInt8 × List UInt8) × Value)) : List Value := L.flatMap fun x => [.string (bstr x.1.1), x.2]
theorem msgCs_length (L : List ((List UInt8 × List UInt8) × Value)) : (msgCs L).length = L.length * 2 := by
  induction L with
  | nil => rfl
  | cons x L ih =>
    have : msgCs (x :: L) = [.string (bstr x.1.1), x.2] ++ msgCs L := rfl
    rw [this, List.length_append, ih]
    simp
    omega
/-- A row of the call's own that holds messages: from block b0 on. -/
def MsgL (b0 : Nat) (T : List (List UInt8 × List UInt8)) (v : Value) (W : World) : Prop :=
  ∃ L : List ((List UInt8 × List UInt8) × Value), L.map (·.1) = T ∧ W.ownsRow b0 32 2 v T.length (msgCs L) ∧ ∀ x ∈ L, SlO (fun k => b0 ≤ k ∧ some k ≠ v.ownBlock) x.1.2 x.2 W
theorem MsgL.nil (b0 : Nat) (W : World) : MsgL b0 [] (.slice none 0 0) W := ⟨[], rfl, World.ownsRow_nil _ _ _ _, fun x h => by cases h⟩
theorem MsgL.keep {X : Nat → Prop} {b0 : Nat} {T : List (List UInt8 × List UInt8)} {v : Value} {W W' : World} (h : MsgL b0 T v W) (k : Kp X W W') (hx : ∀ g, b0 ≤ g → ¬ X g) : MsgL b0 T v W' := by
  obtain ⟨L, h1, h2, h3⟩ := h
  refine ⟨L, h1, ⟨h2.1, ?_⟩, fun x hm => (h3 x hm).keep k fun g hg => hx g hg.1⟩
  rcases h2.2 with e | ⟨g, cap, cur, hv, hb, hg, rest⟩
  · exact .inl e
  · exact .inr ⟨g, cap, cur, hv, hb, k.obj hg (hx g hb), rest⟩
theorem MsgL.push {b0 : Nat} {T : List (List UInt8 × List UInt8)} {v v' : Value} {W W' : World} {c p : List UInt8} {u : Value} {L : List ((List UInt8 × List UInt8) × Value)}
    (h1 : L.map (·.1) = T) (h3 : ∀ x ∈ L, SlO (fun k => b0 ≤ k ∧ some k ≠ v.ownBlock) x.1.2 x.2 W) (hu : SlO (fun k => b0 ≤ k ∧ some k ≠ v.ownBlock) p u W)
    (hg : W.grownBy W' v.ownBlock) (ho : v'.ownBlock = v.ownBlock ∨ v'.ownBlock = some W.heap.size) (hr : W'.ownsRow b0 32 2 v' (T.length + 1) (msgCs L ++ [.string (bstr c), u])) : MsgL b0 (T ++ [(c, p)]) v' W' := by
  have keep : ∀ l x, SlO (fun k => b0 ≤ k ∧ some k ≠ v.ownBlock) l x W → SlO (fun k => b0 ≤ k ∧ some k ≠ v'.ownBlock) l x W' := fun l x h => by
    have h' : SlO (fun k => (b0 ≤ k ∧ some k ≠ v.ownBlock) ∧ k < W.heap.size) l x W := h.mono fun g hg ho => ⟨ho, hg⟩
    refine (h'.keep (kp_grown hg) fun g hg => hg.1.2).mono fun g _ hg => ⟨hg.1.1, ?_⟩
    rcases ho with e | e
    · rw [e]; exact hg.1.2
    · rw [e]; intro h; injection h with h; omega
  refine ⟨L ++ [((c, p), u)], by rw [List.map_append, h1]; rfl, ?_, fun x hx => ?_⟩
  · rw [List.length_append]
    have e : msgCs (L ++ [((c, p), u)]) = msgCs L ++ [.string (bstr c), u] := by unfold msgCs; rw [List.flatMap_append]; rfl
    rw [e]
    exact hr
  · rcases List.mem_append.1 hx with hx | hx
    · exact keep _ _ (h3 x hx)
    · obtain rfl := List.mem_singleton.1 hx
      exact keep _ _ hu
theorem own2_slice {w : World} {base : Nat} {e : TypeId} {v : Value} {n : Nat} {xs : List Value} (h : w.ownsRow base e 2 v n xs) : ∃ a c, v = .slice a n c := by
  obtain ⟨_, ⟨rfl, rfl⟩ | ⟨g, cap, _, rfl, _⟩⟩ := h
  · exact ⟨_, _, rfl⟩
  · exact ⟨_, _, rfl⟩
/-- A box that holds a slice which reads r. -/
def SlB (O : Nat → Prop) (b : Nat) (r : List UInt8) (W : World) : Prop := ∃ (a : Option Addr) (c : Nat), Blk W b 23 #[.slice a r.length c] ∧ RdO O W a r ∧ r.length ≤ c ∧ c ≤ 9223372036854775807 ∧ (a = none → r.length = 0 ∧ c = 0)
theorem SlB.keep {O X : Nat → Prop} {b : Nat} {r : List UInt8} {W W' : World} (h : SlB O b r W) (k : Kp X W W') (hb : ¬ X b) (hx : ∀ g, O g → ¬ X g) : SlB O b r W' := by
  obtain ⟨a, c, h1, h2, h3⟩ := h
  exact ⟨a, c, k.blk h1 hb, h2.keep k hx, h3⟩
/-- Where the feeding of a stream stands: s, q, S: where the blocks lie. -/
structure FdI (w : World) (s q S magic K : Nat) (r6 rb : List UInt8) (T : List (List UInt8 × List UInt8)) (v vm : Value) (W : World) : Prop where
  x6 : SlB (fun g => g < s ∨ q < g ∧ g < S) q r6 W
  xb : SlB (fun g => g < s ∨ q < g ∧ g < S) (S + 4) rb W
  out : Blk W S 38 #[.int .u32 magic, .int .i64 (K : Nat), .slice none 0 0, .int .i64 0]
  row : Blk W (S + 1) 39 #[v]
  ms : MsgL (S + 7) T vm W
  bm : Blk W (S + 2) 22 #[.int .u32 magic]
  bc : Blk W (S + 3) 3 #[.int .i64 (K : Nat)]
  z4 : Blk W (s + 1) 38 #[.int .u32 0, .int .i64 0, .slice none 0 0, .int .i64 0]
  bl : Below s w W
/-- How far the feeding has come. -/
def PK (magic K N : Nat) (all rest : List UInt8) (T : List (List UInt8 × List UInt8)) : Prop := T.length + rest.length ≤ N ∧ feedA magic K all = (T ++ (feedA magic K rest).1, (feedA magic K rest).2)
section
variable {X : Nat → Prop} {w W W' : World} {s q S magic K : Nat} {r6 rb : List UInt8} {T T' : List (List UInt8 × List UInt8)} {v vm vm' : Value}
theorem FdI.grow (h : FdI w s q S magic K r6 rb T v vm W) (k : Kp X W W') (hs : s + 1 < q ∧ q < S) (hx : ∀ g, X g → S + 5 ≤ g) (ms : MsgL (S + 7) T' vm' W') : FdI w s q S magic K r6 rb T' v vm' W' := by
  have hlt := h.z4.lt
  have ng : ∀ g, g < S + 5 → ¬ X g := fun g hg hx' => by have := hx g hx'; omega
  have no : ∀ g, (g < s ∨ q < g ∧ g < S) → ¬ X g := fun g hg hx' => by have := hx g hx'; omega
  exact ⟨h.x6.keep k (ng _ (by omega)) no, h.xb.keep k (ng _ (by omega)) no, k.blk h.out (ng _ (by omega)), k.blk h.row (ng _ (by omega)), ms, k.blk h.bm (ng _ (by omega)), k.blk h.bc (ng _ (by omega)),
    k.blk h.z4 (ng _ (by omega)), k.below h.bl (by omega) (fun g hg => ng g (by omega))⟩
theorem FdI.keep (h : FdI w s q S magic K r6 rb T v vm W) (k : Kp X W W') (hs : s + 1 < q ∧ q < S) (hx : ∀ g, X g → g = S + 5 ∨ g = S + 6) : FdI w s q S magic K r6 rb T v vm W' :=
  h.grow k hs (fun g hg => by have := hx g hg; omega) (h.ms.keep k fun g hg hx' => by have := hx g hx'; omega)
theorem FdI.setb (h : FdI w s q S magic K r6 rb T v vm W) (hs : s + 1 < q ∧ q < S) {a : Option Addr} {n c : Nat} {r : List UInt8} (hn : n = r.length) (hr : RdO (fun g => g < s ∨ q < g ∧ g < S) W a r) (h1 : n ≤ c) (h2 : c ≤ 9223372036854775807) (h3 : a = none → n = 0 ∧ c = 0) :
    FdI w s q S magic K r6 r T v vm (W.setCell ⟨S + 4, 0, none⟩ (.slice a n c)) := by
  subst hn
  have k := kp_set W (S + 4) 0 (.slice a r.length c)
  have hlt := h.z4.lt
  have no : ∀ g, (g < s ∨ q < g ∧ g < S) → ¬ g = S + 4 := fun g hg hx' => by omega
  obtain ⟨a0, c0, e1, _⟩ := h.xb
  exact ⟨h.x6.keep k (by omega) no, ⟨a, c, (e1.set_ 0 _).to rfl, hr.keep k no, h1, h2, h3⟩, k.blk h.out (by omega), k.blk h.row (by omega), h.ms.keep k (fun g hg => by omega), k.blk h.bm (by omega), k.blk h.bc (by omega), k.blk h.z4 (by omega), k.below h.bl (by omega) (fun g hg => by omega)⟩
theorem FdI.set6 (h : FdI w s q S magic K r6 rb T v vm W) (hs : s + 1 < q ∧ q < S) {a : Option Addr} {n c : Nat} {r : List UInt8} (hn : n = r.length) (hr : RdO (fun g => g < s ∨ q < g ∧ g < S) W a r) (h1 : n ≤ c) (h2 : c ≤ 9223372036854775807) (h3 : a = none → n = 0 ∧ c = 0) :
    FdI w s q S magic K r rb T v vm (W.setCell ⟨q, 0, none⟩ (.slice a n c)) := by
  subst hn
  have k := kp_set W q 0 (.slice a r.length c)
  have hlt := h.z4.lt
  have no : ∀ g, (g < s ∨ q < g ∧ g < S) → ¬ g = q := fun g hg hx' => by omega
  obtain ⟨a0, c0, e1, _⟩ := h.x6
  exact ⟨⟨a, c, (e1.set_ 0 _).to rfl, hr.keep k no, h1, h2, h3⟩, h.xb.keep k (by omega) no, k.blk h.out (by omega), k.blk h.row (by omega), h.ms.keep k (fun g hg => by omega), k.blk h.bm (by omega), k.blk h.bc (by omega), k.blk h.z4 (by omega), k.below h.bl (by omega) (fun g hg => by omega)⟩
theorem FdI.setr (h : FdI w s q S magic K r6 rb T v vm W) (hs : s + 1 < q ∧ q < S) : FdI w s q S magic K r6 rb T vm vm (W.setCell ⟨S + 1, 0, none⟩ vm) := by
  have k := kp_set W (S + 1) 0 vm
  have hlt := h.z4.lt
  have no : ∀ g, (g < s ∨ q < g ∧ g < S) → ¬ g = S + 1 := fun g hg hx' => by omega
  exact ⟨h.x6.keep k (by omega) no, h.xb.keep k (by omega) no, k.blk h.out (by omega), (h.row.set_ 0 _).to rfl, h.ms.keep k (fun g hg => by omega), k.blk h.bm (by omega), k.blk h.bc (by omega), k.blk h.z4 (by omega), k.below h.bl (by omega) (fun g hg => by omega)⟩
end
end Go.Proofs.YticiipddilabfaaDoor

namespace Go.Proofs.YticiipddilabfaaDoor
open Go.RowKit
set_option linter.unusedVariables false
/-- How a round's body is left: off its end; the record and the block of its deferred calls as they stood. -/
def okPost (D : Nat) (W2 : World) (Post : World → Prop) : Exit → Act → World → Prop
  | .normal, _, W3 => W3.heap[D + 1]? = W2.heap[D + 1]? ∧ W3.heap[D]? = W2.heap[D]? ∧ Post W3
  | _, _, _ => False
/-- A round, walked: the assignments, then the body. -/
def RoundOk (D : Nat) (ps : Array Tmp) (assign body : Code) (tmps : Array Value) (args : Array Value) (W : World) (Post : World → Prop) : Prop :=
  ∀ m, assign.wpIn (Fence.wide.inRound (D + 1)) m Tryd.prog (Exit.then (fun a1 W1 => Kp (fun _ => False) W W1 ∧ ∀ W2, Kp (fun k => k = D + 1) W1 W2 → body.wpIn (Fence.wide.inRound (D + 1)) m Tryd.prog (okPost D W2 Post) a1 W2) (fun _ _ _ => False))
    { tmps := (ps.zip args).foldl (fun t (p, v) => t.setIfInBounds p v) tmps, defers := [] } W
set_option maxHeartbeats 1000000 in
theorem range_msgs {g : Operand} {ps : Array Tmp} {assign body : Code} {Q : Exit → Act → World → Prop} {a : Act} {w : World} {n : Nat} (h6 : 6 ≤ n) (magic : Nat) (hm : magic < 4294967296) (K : Nat) (hK : K ≤ 4000000) (Bm Bc Bb : Nat) (hBb : Bb < w.heap.size)
    (hg : a.eval g = .func (.func 42) #[] #[.pointer (some ⟨Bm, 0, none⟩), .pointer (some ⟨Bc, 0, none⟩), .pointer (some ⟨Bb, 0, none⟩)]) (hps : ps.size = 2)
    (I : List UInt8 → World → Prop) (J : List UInt8 → Nat → World → Prop) (Fn : World → Prop)
    (kI : ∀ rest W W', I rest W → Kp (fun k => k = w.heap.size + 1) W W' → I rest W') (kJ : ∀ rest k W W', J rest k W → Kp (fun k => k = w.heap.size + 1) W W' → J rest k W') (kF : ∀ W W', Fn W → Kp (fun k => k = w.heap.size + 1) W W' → Fn W')
    (hI : ∀ rest W, I rest W → W.cell? ⟨Bm, 0, none⟩ = some (.int .u32 magic) ∧ W.cell? ⟨Bc, 0, none⟩ = some (.int .i64 K) ∧ Laid W ∧ ∃ a c, W.cell? ⟨Bb, 0, none⟩ = some (.slice a rest.length c) ∧ RdS W a rest ∧ rest.length ≤ c ∧ (rest.length ≤ 140737488355328 ∧ c ≤ 9223372036854775807) ∧ (a = none → rest.length = 0 ∧ c = 0))
    (hyes : ∀ rest W0 W c p u, I rest W0 → w.heap.size + 1 < W0.heap.size → Below W0.heap.size W0 W → getG magic K rest = .yes c p → CloV p u W → (∀ ad n c, u = .slice (some ad) n c → W0.heap.size ≤ ad.block) → RoundOk w.heap.size ps assign body a.tmps #[.agg (msgC c u), .int .i64 0] W (fun W3 => J rest (24 + p.length) W3))
    (hJ : ∀ rest k W, J rest k W → ∃ a c, W.cell? ⟨Bb, 0, none⟩ = some (.slice a rest.length c) ∧ W.frozen? ⟨Bb, 0, none⟩ = false ∧ rest.length ≤ c ∧ c ≤ 9223372036854775807 ∧ I (rest.drop k) (W.setCell ⟨Bb, 0, none⟩ (.slice (if c = k then a else Option.map (fun x => x.add k) a) (rest.length - k) (c - k))))
    (hno : ∀ rest W e, I rest W → w.heap.size + 1 < W.heap.size → getG magic K rest = .no e → RoundOk w.heap.size ps assign body a.tmps #[.agg #[.string ⟨#[]⟩, .slice none 0 0], .int .i64 (e : Nat)] W Fn)
    (rest0 : List UInt8) (h0 : I rest0 w)
    (hdone : ∀ W, Fn W → W.heap[w.heap.size]? = some (.deferred (some [])) → Q .normal { a with defers := { target := .collected w.heap.size, args := #[] } :: a.defers } W) :
    (Code.rangeFunc g ps assign body).wpIn Fence.wide n Tryd.prog Q a w := by
  refine wpIn_rangeFunc ?_
  intro fn hfn
  show ∃ _, _
  obtain ⟨rec, hrec⟩ : ∃ rec : LoopState → Option Code → Loop, rec = fun st pe => { state := st, pending := pe, fn, tmps := a.tmps, params := ps, assign, body, defers := w.heap.size } := ⟨_, rfl⟩
  obtain ⟨W1, hW1⟩ : ∃ W1, (w.alloc (.deferred (some []))).alloc (.loop (rec .ready none)) = W1 := ⟨_, rfl⟩
  have hL1 : W1.heap[w.heap.size + 1]? = some (.loop (rec .ready none)) := by
    rw [← hW1]; have := World.alloc_heap_new (w.alloc (.deferred (some []))) (.loop (rec .ready none)); rwa [World.size_alloc] at this
  have hK1 : W1.heap[w.heap.size]? = some (.deferred (some [])) := by
    rw [← hW1]; exact (Below.heap_alloc _ _ _ (by simp)).trans (World.alloc_heap_new w _)
  have hI1 : I rest0 W1 := kI _ _ _ h0 (by rw [← hW1]; exact (kp_alloc _ _ _).trans (kp_alloc _ _ _))
  refine ⟨w.heap.size + 1, [{ target := .collected w.heap.size, args := #[] }], W1, { target := .fn (.func 42) #[.pointer (some ⟨Bm, 0, none⟩), .pointer (some ⟨Bc, 0, none⟩), .pointer (some ⟨Bb, 0, none⟩)], args := #[.func (.yield (w.heap.size + 1)) #[] #[]] }, W1, 42,
    #[.func (.yield (w.heap.size + 1)) #[] #[], .pointer (some ⟨Bm, 0, none⟩), .pointer (some ⟨Bc, 0, none⟩), .pointer (some ⟨Bb, 0, none⟩)], W1, ?_, ?_, ?_, ?_, fun hh => (by cases hh), ?_⟩
  · rw [← hW1, hrec]; exact run_enterLoop_outer _ _ _ _ _
  · simp only [resolve, hg]
    simp [go_sem]
  · intro f' hf'; trivial
  · simp [invoke, go_sem]
  · have round : ∀ (args : Array Value) (W : World) (Post : World → Prop), args.size = 2 → W.heap[w.heap.size + 1]? = some (.loop (rec .ready none)) → W.heap[w.heap.size]? = some (.deferred (some [])) → (∀ W W', Post W → Kp (fun k => k = w.heap.size + 1) W W' → Post W') →
        RoundOk w.heap.size ps assign body a.tmps args W Post → YieldAt Fence.wide (n - 1 - 1) Tryd.prog (w.heap.size + 1) args W fun e W' => e = .returned (.bool true) ∧ Post W' ∧ W'.heap[w.heap.size + 1]? = some (.loop (rec .ready none)) ∧ W'.heap[w.heap.size]? = some (.deferred (some [])) := by
      intro args W Post hsz hl hk hP hr
      have hy := run_yield (P := Tryd.prog) (args := args) hl (by rw [hrec]; exact hsz.trans hps.symm)
      rw [hrec] at hy
      refine ⟨fn, _, assign, body, hy, roundIn_of_wpIn trivial (wpIn_mono (hr _) ?_)⟩
      rintro e a1 W2 hp
      cases e with
      | normal =>
        obtain ⟨hkp, hb⟩ := hp
        have hl2 := hkp.obj hl (fun h => h)
        have hk2 := hkp.obj hk (fun h => h)
        have hlt : w.heap.size + 1 < W2.heap.size := (Array.getElem?_eq_some_iff.1 hl2).1
        refine ⟨_, run_beginRound hl2 (by rw [hrec]), wpIn_mono (hb _ (kp_put _ _ _)) ?_⟩
        have hl3 : (W2.putObj (w.heap.size + 1) (.loop { rec .ready none with state := .busy })).heap[w.heap.size + 1]? = some (.loop { rec .ready none with state := .busy }) := World.putObj_heap_same hlt
        have hk3 : (W2.putObj (w.heap.size + 1) (.loop { rec .ready none with state := .busy })).heap[w.heap.size]? = some (.deferred (some [])) := (World.putObj_heap_other (by omega)).trans hk2
        rintro e3 a3 W3 hp3
        cases e3 with
        | normal =>
          obtain ⟨e1, e2, hpost⟩ := hp3
          have hl4 := e1.trans hl3
          have hend := run_endRound (P := Tryd.prog) none hl4
          refine ⟨_, _, hend, rfl, hP _ _ hpost (kp_put _ _ _), ?_, (World.putObj_heap_other (by omega)).trans (e2.trans hk3)⟩
          rw [World.putObj_heap_same (Array.getElem?_eq_some_iff.1 hl4).1, hrec]
          rfl
        | ret => exact hp3.elim
        | exit id => exact hp3.elim
        | goto t => exact hp3.elim
        | panic ch => exact hp3.elim
        | outgrown => exact hp3.elim
      | ret => exact hp.elim
      | exit id => exact hp.elim
      | goto t => exact hp.elim
      | panic ch => exact hp.elim
      | outgrown => exact hp.elim
    refine (Msgs1_in magic hm K hK Bm Bc Bb (w.heap.size + 1) (n - 1) (by omega)
      (fun rest W => I rest W ∧ W.heap[w.heap.size + 1]? = some (.loop (rec .ready none)) ∧ W.heap[w.heap.size]? = some (.deferred (some [])))
      (fun rest k W => J rest k W ∧ W.heap[w.heap.size + 1]? = some (.loop (rec .ready none)) ∧ W.heap[w.heap.size]? = some (.deferred (some [])))
      (fun W => Fn W ∧ W.heap[w.heap.size + 1]? = some (.loop (rec .ready none)) ∧ W.heap[w.heap.size]? = some (.deferred (some [])))
      (fun rest W h => hI rest W h.1)
      (fun rest W W' h hb => ⟨kI _ _ _ h.1 (kp_below hb), (kp_below (X := fun _ => False) hb).obj h.2.1 (fun h => h), (kp_below (X := fun _ => False) hb).obj h.2.2 (fun h => h)⟩)
      (fun rest W0 W c p u h hb hg' hu hf => (round _ W _ rfl ((kp_below (X := fun _ => False) hb).obj h.2.1 (fun h => h)) ((kp_below (X := fun _ => False) hb).obj h.2.2 (fun h => h)) (fun A B hA hB => kJ _ _ _ _ hA hB) (hyes rest W0 W c p u h.1 (Array.getElem?_eq_some_iff.1 h.2.1).1 hb hg' hu hf)))
      (fun rest k W h => by
        obtain ⟨a2, c2, x1, x2, x3, x4, x5⟩ := hJ rest k W h.1
        exact ⟨a2, c2, x1, x2, x3, x4, x5, (Below.heap_setCell W ⟨Bb, 0, none⟩ _ _ (by show _ ≠ Bb; omega)).trans h.2.1, (Below.heap_setCell W ⟨Bb, 0, none⟩ _ _ (by show _ ≠ Bb; omega)).trans h.2.2⟩)
      (fun rest W e h hg' => (round _ W _ rfl h.2.1 h.2.2 (fun A B hA hB => kF _ _ hA hB) (hno rest W e h.1 (Array.getElem?_eq_some_iff.1 h.2.1).1 hg')))
      rest0 W1 ⟨hI1, hL1, hK1⟩).mono ?_
    rintro e W2 ⟨⟨v, rfl⟩, hF, hl, hk⟩
    exact ⟨none, _, by have := run_endLoop (P := Tryd.prog) hl (by rw [hrec]; simp); rw [hrec] at this; exact this, hdone _ (kF _ _ hF (kp_put _ _ _)) ((World.putObj_heap_other (by omega)).trans hk)⟩
end Go.Proofs.YticiipddilabfaaDoor
