/- Rows of messages, one behind the other. A stream is fed: as the laws use it. What stands apart from a row stays where the row grows. Two rows of the call's own, both growing; messages put. The document's frame: Command, New, four, command. The document's command of twelve bytes. The document's SHA-2: a word turned. The document's SHA-2: a block's words. The document's SHA-2: a block that is none. -/
import Derived.Maps.AppendAt
import Derived.Laws.AppendOwnNone
import Derived.Test.YtlegcceaoglpoaaDoorIsM
import Derived.Test.YtlegcceaoglpoaaDoorIsI
import Derived.Test.YtlegcceaoglpoaaDoorIsC
import Derived.Test.YtlegcceaoglpoaaDoorIsD
namespace Go.Proofs.YtlegcceaoglpoaaDoor
open Go.RowKit
set_option linter.unusedVariables false
/-- A row of messages of the call's own; what it points at lies in other blocks. -/
def MsgO (b0 : Nat) (T : List MsgT) (v : Value) (W : World) : Prop :=
  ∃ L : List (MsgT × Value), L.map (·.1) = T ∧ W.ownsRow b0 32 2 v T.length (msgCs L) ∧ ∀ x ∈ L, SlO (fun k => some k ≠ v.ownBlock) x.1.2 x.2 W
theorem own_from {w : World} {base b2 : Nat} {e : TypeId} {v : Value} {n : Nat} {xs : List Value} (h : w.ownsRow base e 2 v n xs) (hb : b2 ≤ base) : w.ownsRow b2 e 2 v n xs := by
  refine ⟨h.1, ?_⟩
  rcases h.2 with e | ⟨g, cap, cur, hv, hb', rest⟩
  · exact .inl e
  · exact .inr ⟨g, cap, cur, hv, Nat.le_trans hb hb', rest⟩
/-- Cells are read of a block of a class. -/
def RdCO (P : Nat → Prop) (W : World) (a : Option Addr) (cs : List Value) : Prop := cs = [] ∨ ∃ g o, a = some ⟨g, o, none⟩ ∧ P g ∧ g < W.heap.size ∧ ∀ j u, cs[j]? = some u → W.cell? ⟨g, o + j, none⟩ = some u
theorem RdCO.rdc {P : Nat → Prop} {W : World} {a : Option Addr} {cs : List Value} (h : RdCO P W a cs) : RdC W a cs := by
  rcases h with h | ⟨g, o, h1, _, h2, h3⟩
  · exact .inl h
  · exact .inr ⟨g, o, h1, h2, h3⟩
theorem RdCO.keep {P X : Nat → Prop} {W W' : World} {a : Option Addr} {cs : List Value} (h : RdCO P W a cs) (k : Kp X W W') (hx : ∀ g, P g → ¬ X g) : RdCO P W' a cs := by
  rcases h with h | ⟨g, o, h1, hp, h2, h3⟩
  · exact .inl h
  · exact .inr ⟨g, o, h1, hp, Nat.lt_of_lt_of_le h2 k.1, fun j u hu => (World.cell?_of_block (a := ⟨g, o + j, none⟩) (k.2.1 g h2 (hx g hp))).trans (h3 j u hu)⟩
theorem own2_rdco {P : Nat → Prop} {w : World} {base : Nat} {e : TypeId} {v : Value} {n : Nat} {cs : List Value} (h : w.ownsRow base e 2 v n cs) (hP : ∀ k, v.ownBlock = some k → P k) : ∃ a c, v = .slice a n c ∧ RdCO P w a cs ∧ n ≤ c ∧ c ≤ maxLen ∧ (a = none → n = 0 ∧ c = 0) := by
  obtain ⟨h0, ⟨hv, hz⟩ | ⟨g, cap, cur, hv, hb, hg, q1, q2, q3, q4⟩⟩ := h
  · subst hz
    exact ⟨none, 0, hv, .inl (List.length_eq_zero_iff.1 (by omega)), Nat.le_refl _, Nat.zero_le _, fun _ => ⟨rfl, rfl⟩⟩
  · refine ⟨some ⟨g, 0, none⟩, cap, hv, .inr ⟨g, 0, rfl, hP g (by rw [hv]; rfl), (show Blk w g _ cur from hg).lt, fun j u hu => ?_⟩, q1, q2, fun h => by cases h⟩
    rw [Nat.zero_add]
    refine blk_get (show Blk w g _ cur from hg) j _ ?_
    rw [← q4, List.getElem?_take] at hu
    split at hu
    · simpa using hu
    · cases hu
/-- A slice of messages; what it points at lies in blocks of a class. -/
def SlMA (P : Nat → Prop) (T : List MsgT) (v : Value) (W : World) : Prop :=
  ∃ (L : List (MsgT × Value)) (a : Option Addr) (c : Nat), v = .slice a T.length c ∧ L.map (·.1) = T ∧ (∀ x ∈ L, SlO P x.1.2 x.2 W) ∧ RdCO P W a (msgCs L) ∧ T.length ≤ c ∧ (a = none → T.length = 0 ∧ c = 0)
theorem SlMA.keep {P X : Nat → Prop} {T : List MsgT} {v : Value} {W W' : World} (h : SlMA P T v W) (k : Kp X W W') (hx : ∀ g, P g → ¬ X g) : SlMA P T v W' := by
  obtain ⟨L, a, c, h1, h2, h3, h4, h5⟩ := h
  exact ⟨L, a, c, h1, h2, fun x hx' => (h3 x hx').keep k hx, h4.keep k hx, h5⟩
theorem SlMA.slm {P : Nat → Prop} {T : List MsgT} {v : Value} {W : World} (h : SlMA P T v W) : SlM T v W := by
  obtain ⟨L, a, c, h1, h2, h3, h4, h5⟩ := h
  exact ⟨L, a, c, h1, h2, fun x hx => (h3 x hx).clo, h4.rdc, h5⟩
theorem SlMA.mono {P P' : Nat → Prop} {T : List MsgT} {v : Value} {W : World} (h : SlMA P T v W) (hp : ∀ k, P k → P' k) : SlMA P' T v W := by
  obtain ⟨L, a, c, h1, h2, h3, h4, h5⟩ := h
  refine ⟨L, a, c, h1, h2, fun x hx => (h3 x hx).mono fun g _ hg => hp g hg, ?_, h5⟩
  rcases h4 with h | ⟨g, o, e1, e2, e3⟩
  · exact .inl h
  · exact .inr ⟨g, o, e1, hp g e2, e3⟩
theorem MsgL.msgO {b0 : Nat} {T : List MsgT} {v : Value} {W : World} (h : MsgL b0 T v W) : MsgO b0 T v W := by
  obtain ⟨L, h1, h2, h3⟩ := h
  exact ⟨L, h1, h2, fun x hx => (h3 x hx).mono fun g _ hg => hg.2⟩
theorem MsgO.calls {b0 : Nat} {T : List MsgT} {v : Value} {W W' : World} (h : MsgO b0 T v W) (hb : Below W.heap.size W W') : MsgO b0 T v W' := by
  obtain ⟨L, h1, h2, h3⟩ := h
  exact ⟨L, h1, own2_below h2 hb, fun x hx => (h3 x hx).keep (kp_below (X := fun _ => False) hb) (fun g _ h => h)⟩
theorem MsgO.slm {b0 : Nat} {T : List MsgT} {v : Value} {W : World} (h : MsgO b0 T v W) : SlM T v W := by
  obtain ⟨L, h1, h2, h3⟩ := h
  obtain ⟨a, c, e, r1, r2, _, r3⟩ := own2_rdc h2
  exact ⟨L, a, c, e, h1, fun x hx => (h3 x hx).clo, r1, r2, r3⟩
theorem MsgO.own {b0 : Nat} {T : List MsgT} {v : Value} {W : World} (h : MsgO b0 T v W) : ∀ k, v.ownBlock = some k → b0 ≤ k ∧ k < W.heap.size := by
  obtain ⟨L, h1, h2, h3⟩ := h
  exact h2.lt
theorem MsgL.slma {P : Nat → Prop} {b0 : Nat} {T : List MsgT} {v : Value} {W : World} (h : MsgL b0 T v W) (hP : ∀ k, b0 ≤ k → k < W.heap.size → P k) : SlMA P T v W := by
  obtain ⟨L, h1, h2, h3⟩ := h
  obtain ⟨a, c, e, r1, r2, _, r3⟩ := own2_rdco (P := P) h2 (fun k hk => hP k (h2.lt k hk).1 (h2.lt k hk).2)
  exact ⟨L, a, c, e, h1, fun x hx => (h3 x hx).mono fun g hg hk => hP g hk.1 hg, r1, r2, r3⟩
theorem RdC.news {W : World} {ad : Addr} {cs : List Value} (h : RdC W (some ad) cs) : ∀ j u, cs[j]? = some u → W.cell? (ad.add j) = some u := by
  intro j u hu
  rcases h with h | ⟨g, o, h1, h2, h3⟩
  · rw [h] at hu; cases hu
  · injection h1 with h1
    subst h1
    rw [Addr.add_mid]
    exact h3 j u hu
theorem msgCs_one (L : List (MsgT × Value)) (h : ∀ x ∈ L, ∃ a n c, x.2 = .slice a n c) : ∀ u ∈ msgCs L, u.oneCell' = true := by
  intro u hu
  obtain ⟨x, hx, hu⟩ := List.mem_flatMap.1 hu
  obtain ⟨a, n, c, e⟩ := h x hx
  rw [e] at hu
  rcases List.mem_cons.1 hu with rfl | hu
  · rfl
  · obtain rfl := List.mem_singleton.1 hu
    rfl
/-- 'append(v, l...)' of messages. -/
theorem wl_appM {w : World} {ops : Array Oper} {rest : List Oper} {o : Oper} {a : Act} {Q : Exit → Act → World → Prop} {b0 : Nat} {T1 T2 : List MsgT} {v v2 : Value} (h1 : MsgO b0 T1 v w) (h2 : SlMA (fun k => some k ≠ v.ownBlock) T2 v2 w)
    (hgd : o.guard = none) (s x : Operand) (ho : o.op = .call { callee := .builtin .append, args := #[s, x], argTypes := #[39, 39] }) (hs : a.eval s = v) (hx : a.eval x = v2) (hn : T1.length + T2.length ≤ 1000000) (hbase : b0 ≤ w.heap.size)
    (k : ∀ v' w', MsgO b0 (T1 ++ T2) v' w' → w.grownBy w' v.ownBlock → (v'.ownBlock = v.ownBlock ∨ v'.ownBlock = some w.heap.size) → wpList Tryd.prog ops Q rest (a.put o.dst v') w') : wpList Tryd.prog ops Q (o :: rest) a w := by
  obtain ⟨iM, hi, hz0, hz1, hz2⟩ := info_parts (show (Tryd.prog.info? 32).map (fun i => (i.zero, i.size, i.bytes)) = some (some (.agg #[.string ⟨#[]⟩, .slice none 0 0]), 2, 40) by kernel_rfl)
  obtain ⟨L1, p1, p2, p3⟩ := h1
  obtain ⟨L2, a2, c2, rfl, q1, q2, q3, _, q4⟩ := h2
  have hL2 : L2.length = T2.length := by rw [← q1, List.length_map]
  cases a2 with
  | none =>
    obtain ⟨h5, h6⟩ := q4 rfl
    have hT2 : T2 = [] := List.length_eq_zero_iff.1 h5
    subst hT2
    subst h6
    exact wpList_append_own_none hgd s x _ ho b0 32 iM 2 Tryd.underlying39 hi v T1.length _ hs p2 hx (k v w ⟨L1, by rw [p1, List.append_nil], by rw [List.append_nil]; exact p2, p3⟩ ⟨rfl, rfl, rfl, Nat.le_refl _, fun _ _ _ => rfl⟩ (.inl rfl))
  | some ad =>
    refine wpList_append_own_at w hgd s x _ ho b0 32 iM (.agg #[.string ⟨#[]⟩, .slice none 0 0]) 2 40 Tryd.underlying39 hi hz0 hz1 hz2 rfl (by omega) v T1.length (msgCs L1) hs p2 ad T2.length c2 (msgCs L2) hx (by rw [msgCs_length, hL2]) q3.rdc.news (msgCs_one L2 fun y hy => by obtain ⟨a, c, e, _⟩ := q2 y hy; exact ⟨_, _, _, e⟩) (by unfold maxLen; omega) (by omega) hbase fun v' w' h3 h4 h5 h6 => ?_
    have keep : ∀ l u, SlO (fun k => some k ≠ v.ownBlock) l u w → SlO (fun k => some k ≠ v'.ownBlock) l u w' := fun l u h => by
      have h' : SlO (fun k => some k ≠ v.ownBlock ∧ k < w.heap.size) l u w := h.mono fun g hg ho => ⟨ho, hg⟩
      refine (h'.keep (kp_grown h4) fun g hg => hg.1).mono fun g _ hg => ?_
      rcases h6 with e | e
      · rw [e]; exact hg.1
      · rw [e]; intro h; injection h with h; omega
    refine k v' w' ⟨L1 ++ L2, by rw [List.map_append, p1, q1], ?_, fun y hy => ?_⟩ h4 h6
    · rw [List.length_append]
      have e : msgCs (L1 ++ L2) = msgCs L1 ++ msgCs L2 := by unfold msgCs; rw [List.flatMap_append]
      rw [e]
      exact h3
    · rcases List.mem_append.1 hy with hy | hy
      · exact keep _ _ (p3 y hy)
      · exact keep _ _ (q2 y hy)
theorem Keeps_slm (T : List MsgT) : Keeps (SlM T) := fun u w1 w2 h hb => h.calls hb
theorem msgs_ex (T : List MsgT) (v : Value) (hn : T.length ≤ 1000000) (w : World) (h : SlM T v w) :
    Calls Tryd.prog 15 #[v] w fun e w' => ∃ u, e = .returned u ∧ Below w.heap.size w w' ∧ SlM T u w' := by
  obtain ⟨L, a, c, rfl, h'⟩ := h
  exact msgs_any T a _ c hn w ⟨L, a, c, rfl, h'⟩
theorem Msgs_true (T : List MsgT) (u1 u2 : Value) (hn : T.length ≤ 1000000) (w : World) (h1 : SlM T u1 w) (h2 : SlM T u2 w) :
    Calls Tryd.prog 14 #[u1, u2] w fun e w' => e = .returned (.bool true) ∧ Below w.heap.size w w' := by
  obtain ⟨L, a, c, rfl, h1'⟩ := h1
  obtain ⟨L', a', c', rfl, h2'⟩ := h2
  refine (Msgs_any T T a _ c a' _ c' (by omega) (by omega) w ⟨L, a, c, rfl, h1'⟩ ⟨L', a', c', rfl, h2'⟩).mono fun e w' h => ?_
  rw [decide_eq_true rfl] at h
  exact h
end Go.Proofs.YtlegcceaoglpoaaDoor

namespace Go.Proofs.YtlegcceaoglpoaaDoor
open Go.RowKit
set_option linter.unusedVariables false
theorem sumM_length (T : List MsgT) : T.length ≤ sumM T := by
  induction T with
  | nil => exact Nat.zero_le _
  | cons x T ih => simp only [sumM, List.length_cons]; omega
/-- A stream's cells. -/
abbrev bufA (magic K : Nat) (a : Option Addr) (n c : Nat) (d : Int) : Array Value := #[.int .u32 magic, .int .i64 (K : Nat), .slice a n c, .int .i64 d]
/-- What feeding hands back: the stream (its rest of n bytes at a, room c), the messages at va, room vc. -/
structure FedW (w0 : World) (magic K : Nat) (T : List MsgT) (l : List UInt8) (a : Option Addr) (c : Nat) (va : Option Addr) (vc : Nat) (w : World) : Prop where
  rd : RdS w a l
  le : l.length ≤ c
  mx : c ≤ maxLen
  no : a = none → l.length = 0 ∧ c = 0
  ms : ∃ b0, w0.heap.size ≤ b0 ∧ MsgL b0 T (.slice va T.length vc) w
  ne : SlO (fun g => w0.heap.size ≤ g ∧ some g ≠ (Value.slice va T.length vc).ownBlock) l (.slice a l.length c) w
theorem FedW.calls {w0 w w' : World} {magic K : Nat} {T : List MsgT} {l : List UInt8} {a : Option Addr} {c : Nat} {va : Option Addr} {vc : Nat} (h : FedW w0 magic K T l a c va vc w) (hb : Below w.heap.size w w') : FedW w0 magic K T l a c va vc w' := by
  obtain ⟨b0, h1, h2⟩ := h.ms
  exact ⟨h.rd.calls hb, h.le, h.mx, h.no, ⟨b0, h1, h2.keep (kp_below (X := fun _ => False) hb) (fun g _ h => h)⟩, h.ne.keep (kp_below (X := fun _ => False) hb) (fun g _ h => h)⟩
theorem FedW.own {w0 w : World} {magic K : Nat} {T : List MsgT} {l : List UInt8} {a : Option Addr} {c : Nat} {va : Option Addr} {vc : Nat} (h : FedW w0 magic K T l a c va vc w) : ∀ k, (Value.slice va T.length vc).ownBlock = some k → w0.heap.size ≤ k ∧ k < w.heap.size := by
  obtain ⟨b0, h1, L, _, q2, _⟩ := h.ms
  exact fun k hk => ⟨Nat.le_trans h1 (q2.lt k hk).1, (q2.lt k hk).2⟩
theorem FedW.msgO {w0 w : World} {magic K : Nat} {T : List MsgT} {l : List UInt8} {a : Option Addr} {c : Nat} {va : Option Addr} {vc : Nat} (h : FedW w0 magic K T l a c va vc w) {B : Nat} (hB : B ≤ w0.heap.size) : MsgO B T (.slice va T.length vc) w := by
  obtain ⟨b0, h1, h2⟩ := h.ms
  obtain ⟨L, p1, p2, p3⟩ := h2.msgO
  exact ⟨L, p1, own_from p2 (Nat.le_trans hB h1), p3⟩
/-- What is told lies in blocks of a class. -/
theorem FedW.slma {P : Nat → Prop} {w0 w : World} {magic K : Nat} {T : List MsgT} {l : List UInt8} {a : Option Addr} {c : Nat} {va : Option Addr} {vc : Nat} (h : FedW w0 magic K T l a c va vc w) (hP : ∀ k, w0.heap.size ≤ k → k < w.heap.size → P k) : SlMA P T (.slice va T.length vc) w := by
  obtain ⟨b0, h1, h2⟩ := h.ms
  exact h2.slma fun k hk hl => hP k (Nat.le_trans h1 hk) hl
theorem FedW.slo {P : Nat → Prop} {w0 w : World} {magic K : Nat} {T : List MsgT} {l : List UInt8} {a : Option Addr} {c : Nat} {va : Option Addr} {vc : Nat} (h : FedW w0 magic K T l a c va vc w) (hP : ∀ k, w0.heap.size ≤ k → k < w.heap.size → some k ≠ (Value.slice va T.length vc).ownBlock → P k) : SlO P l (.slice a l.length c) w :=
  h.ne.mono fun g hg hk => hP g hk.1 hg hk.2
theorem Feed_w (magic : Nat) (hm : magic < 4294967296) (K : Nat) (hK : K ≤ 4000000) (bad : Int) (ar : Option Addr) (nr cr : Nat) (rest : List UInt8) (ac : Option Addr) (nc cc : Nat) (cs : List UInt8)
    (hl1 : rest.length = nr) (hl2 : cs.length = nc) (hr1 : nr ≤ cr) (hr2 : cr ≤ 9223372036854775807) (hc1 : nc ≤ cc) (hc2 : cc ≤ 9223372036854775807) (hn1 : nr ≤ 1000000) (hn2 : nc ≤ 1000000)
    (hno1 : ar = none → nr = 0 ∧ cr = 0) (hno2 : ac = none → nc = 0 ∧ cc = 0) (w : World) (hR1 : RdS w ar rest) (hR2 : RdS w ac cs) (hL : Laid w) (T : List MsgT) (l : List UInt8) (d : Int) (n : Nat) (hn : l.length = n) (hr : feedF magic (K : Int) rest bad cs = (T, l, d)) :
    Calls Tryd.prog 9 #[.agg #[.int .u32 magic, .int .i64 (K : Nat), .slice ar nr cr, .int .i64 bad], .slice ac nc cc] w fun e w' => ∃ a c va vc, e = .returned (.tuple #[.agg (bufA magic K a n c d), .slice va T.length vc]) ∧ Below w.heap.size w w' ∧ FedW w magic K T l a c va vc w' := by
  subst hn
  refine (Feed_any magic hm K bad ar nr cr rest ac nc cc cs hl1 hl2 hr1 hr2 hc1 hc2 hn1 hn2 hno1 hno2 w hR1 hR2 hL).mono ?_
  rintro e w' ⟨v, rfl, hb, hv⟩
  rw [hr, capN_same K hK] at hv
  obtain ⟨u, vl, b0, rfl, hu, hms, hb0, hne⟩ := hv
  obtain ⟨a, c, rfl, h1, h2, h3, h4⟩ := hu
  obtain ⟨va, vc, rfl⟩ : ∃ va vc, vl = .slice va T.length vc := by
    obtain ⟨L, _, q2, _⟩ := hms
    exact own2_slice q2
  exact ⟨a, c, va, vc, rfl, hb, ⟨h1, h2, h3, h4, ⟨b0, hb0, hms⟩, hne⟩⟩
end Go.Proofs.YtlegcceaoglpoaaDoor

namespace Go.Proofs.YtlegcceaoglpoaaDoor
open Go.RowKit
set_option linter.unusedVariables false
section
variable {W W' : World} {v v' : Value}
theorem apart_grown (hg : W.grownBy W' v.ownBlock) (ho : v'.ownBlock = v.ownBlock ∨ v'.ownBlock = some W.heap.size) {g : Nat} (hlt : g < W.heap.size) (h : some g ≠ v.ownBlock) : some g ≠ v'.ownBlock := by
  rcases ho with e | e
  · rw [e]; exact h
  · rw [e]; intro h; injection h with h; omega
theorem SlO.app {l : List UInt8} {u : Value} (h : SlO (fun k => some k ≠ v.ownBlock) l u W) (hg : W.grownBy W' v.ownBlock) (ho : v'.ownBlock = v.ownBlock ∨ v'.ownBlock = some W.heap.size) : SlO (fun k => some k ≠ v'.ownBlock) l u W' := by
  have h' : SlO (fun k => some k ≠ v.ownBlock ∧ k < W.heap.size) l u W := h.mono fun g hg ho => ⟨ho, hg⟩
  exact (h'.keep (kp_grown hg) fun g hg => hg.1).mono fun g _ hk => apart_grown hg ho hk.2 hk.1
theorem SlMA.lt {P : Nat → Prop} {T : List MsgT} {u : Value} {W : World} (h : SlMA P T u W) : SlMA (fun k => P k ∧ k < W.heap.size) T u W := by
  obtain ⟨L, a, c, h1, h2, h3, h4, h5⟩ := h
  refine ⟨L, a, c, h1, h2, fun x hx => (h3 x hx).mono fun g hg ho => ⟨ho, hg⟩, ?_, h5⟩
  rcases h4 with h | ⟨g, o, e1, e2, e3, e4⟩
  · exact .inl h
  · exact .inr ⟨g, o, e1, ⟨e2, e3⟩, e3, e4⟩
theorem SlMA.app {T : List MsgT} {u : Value} (h : SlMA (fun k => some k ≠ v.ownBlock) T u W) (hg : W.grownBy W' v.ownBlock) (ho : v'.ownBlock = v.ownBlock ∨ v'.ownBlock = some W.heap.size) : SlMA (fun k => some k ≠ v'.ownBlock) T u W' :=
  (h.lt.keep (kp_grown hg) fun g hg => hg.1).mono fun g hk => apart_grown hg ho hk.2 hk.1
/-- A block apart. -/
def BlkO (v : Value) (W : World) (g : Nat) (t : TypeId) (cs : Array Value) : Prop := some g ≠ v.ownBlock ∧ Blk W g t cs
theorem BlkO.app {g : Nat} {t : TypeId} {cs : Array Value} (h : BlkO v W g t cs) (hg : W.grownBy W' v.ownBlock) (ho : v'.ownBlock = v.ownBlock ∨ v'.ownBlock = some W.heap.size) : BlkO v' W' g t cs :=
  ⟨apart_grown hg ho h.2.lt h.1, (kp_grown hg).blk h.2 h.1⟩
theorem SlO.rds {O : Nat → Prop} {l : List UInt8} {a : Option Addr} {n c : Nat} (h : SlO O l (.slice a n c) W) : RdS W a l := by
  obtain ⟨a', c', e, h1, _⟩ := h
  injection e with e1 e2 e3
  subst e1
  exact h1.rds
end
theorem Sane_true (magic : Nat) (hm : magic < 4294967296) (m bad : Int) (a : Option Addr) (n c : Nat) (l : List UInt8) (hl : l.length = n) (hc : n ≤ c) (hc2 : n ≤ 140737488355328 ∧ c ≤ 9223372036854775807) (hno : a = none → n = 0 ∧ c = 0) (hs : saneF magic m l bad = true) (w : World) (hr : RdS w a l) (hL : Laid w) :
    Calls Tryd.prog 16 #[.agg #[.int .u32 magic, .int .i64 m, .slice a n c, .int .i64 bad]] w fun e w' => e = .returned (.bool true) ∧ Below w.heap.size w w' := by
  have h := FSane_any magic hm m bad a n c l hl hc hc2 hno w hr hL
  rw [hs] at h
  exact h
end Go.Proofs.YtlegcceaoglpoaaDoor

namespace Go.Proofs.YtlegcceaoglpoaaDoor
open Go.RowKit
set_option linter.unusedVariables false
theorem own1_below {w w' : World} {base : Nat} {e : TypeId} {v : Value} {n : Nat} {xs : List Value} (h : w.ownsRow base e 1 v n xs) (hb : Below w.heap.size w w') : w'.ownsRow base e 1 v n xs :=
  h.kept (row := none) ⟨hb.os, hb.tape, hb.output, hb.size, fun k hk _ => hb.block k hk⟩ (by cases hv : v.ownBlock <;> simp)
/-- Two rows lie apart. -/
def Ap (v u : Value) : Prop := ∀ k, v.ownBlock = some k → u.ownBlock ≠ some k
theorem Ap.nil (u : Value) : Ap (.slice none 0 0) u := fun k h => by cases h
theorem Ap.symm {v u : Value} (h : Ap v u) : Ap u v := fun k h1 h2 => h k h2 h1
theorem Ap.grow {v v' u : Value} {W : World} {b : Nat} (h : Ap v u) (ho : v'.ownBlock = v.ownBlock ∨ v'.ownBlock = some W.heap.size) (hu : ∀ k, u.ownBlock = some k → b ≤ k ∧ k < W.heap.size) : Ap v' u := fun k h1 h2 => by
  rcases ho with e | e
  · exact h k (e ▸ h1) h2
  · rw [e] at h1
    injection h1 with h1
    have := (hu k h2).2
    omega
theorem Ap.ne {v u : Value} (h : Ap v u) : u.ownBlock = none ∨ u.ownBlock ≠ v.ownBlock := by
  cases hu : u.ownBlock with
  | none => exact .inl rfl
  | some k =>
    refine .inr fun e => ?_
    exact h k e.symm hu
/-- 'append(v, l...)' of bytes; where the row lies. -/
theorem wl_appB {P : Program} {w : World} {ops : Array Oper} {rest : List Oper} {o : Oper} {a : Act} {Q : Exit → Act → World → Prop} {base : Nat} {e : TypeId} {v : Value} {n : Nat} {xs : List UInt8} (hown : w.ownsRow base e 1 v n (xs.map fun c => Value.int .u8 (c.toNat : Int)))
    (hgd : o.guard = none) (s x : Operand) (t : TypeId) (ho : o.op = .call { callee := .builtin .append, args := #[s, x], argTypes := #[t, t] }) (ht : P.underlying t = some (.slice e)) (i : TypeInfo) (hi : P.info? e = some i) (hz : i.zero = some (.int .u8 0)) (h1 : i.size = 1) (hby : i.bytes = 1)
    (hs : a.eval s = v) (a2 : Option Addr) (m c : Nat) (l : List UInt8) (hx : a.eval x = .slice a2 m c) (hr : RdS w a2 l) (hl : l.length = m) (hno : a2 = none → m = 0 ∧ c = 0) (hn : n + m ≤ 140737488355328) (hbase : base ≤ w.heap.size)
    (k : ∀ v' w', w'.ownsRow base e 1 v' (n + m) ((xs ++ l).map fun c => Value.int .u8 (c.toNat : Int)) → w.grownBy w' v.ownBlock → (v'.ownBlock = v.ownBlock ∨ v'.ownBlock = some w.heap.size) → wpList P ops Q rest (a.put o.dst v') w') : wpList P ops Q (o :: rest) a w := by
  cases a2 with
  | none =>
    obtain ⟨h2, h3⟩ := hno rfl
    subst h2 h3
    have hl0 : l = [] := List.length_eq_zero_iff.1 hl
    subst hl0
    exact wpList_append_own_none hgd s x t ho base e i 1 ht hi v n _ hs hown hx (k v w (by rw [List.append_nil]; exact hown) ⟨rfl, rfl, rfl, Nat.le_refl _, fun _ _ _ => rfl⟩ (.inl rfl))
  | some ad =>
    refine wpList_append_own_at w hgd s x t ho base e i (.int .u8 0) 1 1 ht hi hz h1 hby rfl (by omega) v n _ hs hown ad m c (l.map fun c => Value.int .u8 (c.toNat : Int)) hx (by rw [List.length_map, hl, Nat.mul_one]) (fun j u hu => rd_news hr j u hu) (one_news l) (by unfold maxLen; omega) (by omega) hbase fun v' w' h2 h3 h4 h5 => ?_
    rw [List.map_append] at k
    exact k v' w' h2 h3 h5
/-- A row of the document's messages, the call's own; its payloads stand in the world w0. -/
def WantO (w0 : World) (b0 : Nat) (T : List MsgT) (v : Value) (W : World) : Prop :=
  ∃ L : List (MsgT × Value), L.map (·.1) = T ∧ W.ownsRow b0 25 2 v T.length (msgCs L) ∧ ∀ x ∈ L, CloV x.1.2 x.2 w0
theorem WantO.nil (w0 : World) (b0 : Nat) (W : World) : WantO w0 b0 [] (.slice none 0 0) W := ⟨[], rfl, World.ownsRow_nil _ _ _ _, fun x h => by cases h⟩
theorem WantO.below {w0 : World} {b0 : Nat} {T : List MsgT} {v : Value} {W W' : World} (h : WantO w0 b0 T v W) (hb : Below W.heap.size W W') : WantO w0 b0 T v W' := by
  obtain ⟨L, h1, h2, h3⟩ := h
  exact ⟨L, h1, own2_below h2 hb, h3⟩
theorem WantO.grown {w0 : World} {b0 : Nat} {T : List MsgT} {v u : Value} {W W' : World} (h : WantO w0 b0 T v W) (hg : W.grownBy W' u.ownBlock) (ha : Ap u v) : WantO w0 b0 T v W' := by
  obtain ⟨L, h1, h2, h3⟩ := h
  exact ⟨L, h1, h2.kept hg ha.ne, h3⟩
theorem WantO.own {w0 : World} {b0 : Nat} {T : List MsgT} {v : Value} {W : World} (h : WantO w0 b0 T v W) : ∀ k, v.ownBlock = some k → b0 ≤ k ∧ k < W.heap.size := by
  obtain ⟨L, h1, h2, h3⟩ := h
  exact h2.lt
theorem WantO.slm {w0 : World} {b0 : Nat} {T : List MsgT} {v : Value} {W : World} (h : WantO w0 b0 T v W) (hb : Below w0.heap.size w0 W) : SlM T v W := by
  obtain ⟨L, h1, h2, h3⟩ := h
  obtain ⟨a, c, e, r1, r2, _, r3⟩ := own2_rdc h2
  exact ⟨L, a, c, e, h1, fun x hx => (h3 x hx).keep hb, r1, r2, r3⟩
theorem WantO.slice {w0 : World} {b0 : Nat} {T : List MsgT} {v : Value} {W : World} (h : WantO w0 b0 T v W) : ∃ a c, v = .slice a T.length c := by
  obtain ⟨L, h1, h2, h3⟩ := h
  exact own2_slice h2
set_option maxRecDepth 100000 in
/-- 'append(v, m)' of one message of the document's. -/
theorem wl_appW {w : World} {ops : Array Oper} {rest : List Oper} {o : Oper} {a : Act} {Q : Exit → Act → World → Prop} {w0 : World} {b0 : Nat} {T : List MsgT} {v : Value} (h1 : WantO w0 b0 T v w) {g : Nat} {c q : List UInt8} {p : Option Addr} {m d : Nat} (hb : Blk w g 25 #[.string (bstr c), .slice p m d]) (hq : CloV q (.slice p m d) w0)
    (hgd : o.guard = none) (s x : Operand) (ho : o.op = .call { callee := .builtin .append, args := #[s, x], argTypes := #[43, 43] }) (hs : a.eval s = v) (hx : a.eval x = .slice (some ⟨g, 0, none⟩) 1 1) (hn : T.length ≤ 1000000) (hbase : b0 ≤ w.heap.size)
    (k : ∀ v' w', WantO w0 b0 (T ++ [(c, q)]) v' w' → w.grownBy w' v.ownBlock → (v'.ownBlock = v.ownBlock ∨ v'.ownBlock = some w.heap.size) → wpList Tryd.prog ops Q rest (a.put o.dst v') w') : wpList Tryd.prog ops Q (o :: rest) a w := by
  obtain ⟨iM, hi, hz0, hz1, hz2⟩ := info_parts (show (Tryd.prog.info? 25).map (fun i => (i.zero, i.size, i.bytes)) = some (some (.agg #[.string ⟨#[]⟩, .slice none 0 0]), 2, 40) by kernel_rfl)
  obtain ⟨L1, p1, p2, p3⟩ := h1
  refine wpList_append_own_at w hgd s x _ ho b0 25 iM (.agg #[.string ⟨#[]⟩, .slice none 0 0]) 2 40 Tryd.underlying43 hi hz0 hz1 hz2 rfl (by omega) v T.length (msgCs L1) hs p2 ⟨g, 0, none⟩ 1 1 [.string (bstr c), .slice p m d] hx rfl (fun jj u hu => by
    match jj with
    | 0 => injection hu with hu; subst hu; exact blk_get hb 0 _ rfl
    | 1 => injection hu with hu; subst hu; exact blk_get hb 1 _ rfl
    | jj + 2 => cases hu) (by simp [Value.oneCell']) (by unfold maxLen; omega) (by omega) hbase fun v' w' h3 h4 h5 h6 => ?_
  refine k v' w' ⟨L1 ++ [((c, q), .slice p m d)], by rw [List.map_append, p1]; rfl, ?_, fun y hy => ?_⟩ h4 h6
  · rw [List.length_append]
    have e : msgCs (L1 ++ [((c, q), .slice p m d)]) = msgCs L1 ++ [.string (bstr c), .slice p m d] := by unfold msgCs; rw [List.flatMap_append]; rfl
    rw [e]
    exact h3
  · rcases List.mem_append.1 hy with hy | hy
    · exact p3 y hy
    · obtain rfl := List.mem_singleton.1 hy
      exact hq
theorem op_bldF {Q : Exit → Act → World → Prop} {o : Oper} {A : Act} {w : World} (S : ByteArray) (p : Option Addr) (m d : Nat) (x y : Operand) (ho : o.op = .build 32 #[(0, x), (1, y)]) (hx : A.eval x = .string S) (hy : A.eval y = .slice p m d) :
    o.wp Tryd.prog A w (fun a' w'' => a' = A.put o.dst (.agg #[.string S, .slice p m d]) ∧ Below w.heap.size w w'') Q := by
  have hbu : (Instr.build 32 #[(0, .string S), (1, .slice p m d)]).run Tryd.prog w = .ok (.agg #[.string S, .slice p m d]) w := by kernel_rfl
  refine op_run ?_
  unfold execOp
  generalize A.eval = ρ at *
  simp only [ho]
  simp [hx, hy, go_sem]
/-- What Put hands back. -/
def PutP (E : Nat) (l : List UInt8) (u : Value) (w : World) : Prop := ∃ v, u = .tuple #[v, .int .i64 (E : Nat)] ∧ CloV l v w
theorem PutP.keep (E : Nat) (l : List UInt8) : Keeps (PutP E l) := fun u w1 w2 h hb => by
  obtain ⟨v, h1, h2⟩ := h
  exact ⟨v, h1, h2.keep hb⟩
theorem clo_keeps (l : List UInt8) : Keeps (CloV l) := fun u w1 w2 h hb => h.keep hb
theorem Put_ex (magic : Nat) (hm : magic < 4294967296) (cm : List UInt8) (hc : cm.length ≤ 9223372036854775807) (a : Option Addr) (n c : Nat) (p : List UInt8) (hl : p.length = n) (hn : n ≤ c) (hc2 : n ≤ 1000000 ∧ c ≤ 9223372036854775807) (hno : a = none → n = 0 ∧ c = 0) (E : Nat) (l : List UInt8) (hE : putE cm p = E) (hl2 : putL magic cm p = l) (w : World) (hr : RdS w a p) (hL : Laid w) :
    Calls Tryd.prog 5 #[.int .u32 magic, .agg #[.string (bstr cm), .slice a n c]] w fun e w' => ∃ u, e = .returned u ∧ Below w.heap.size w w' ∧ PutP E l u w' := by
  subst hE hl2
  refine (Put_any magic hm cm hc a n c p hl hn hc2 hno w hr hL).mono ?_
  rintro e w' ⟨u, rfl, hb, hu⟩
  exact ⟨_, rfl, hb, u, rfl, hu⟩
end Go.Proofs.YtlegcceaoglpoaaDoor

namespace Go.Proofs.YtlegcceaoglpoaaDoor
open Go.RowKit
set_option linter.unusedVariables false
set_option maxHeartbeats 1000000 in
theorem RCommand_any (c : List UInt8) (hc : c.length ≤ 140737488355328) (w : World) : Calls Tryd.prog 19 #[.string (bstr c)] w fun e w' => e = .returned (.bool (cmdOk c)) ∧ Below w.heap.size w w' := by
  obtain ⟨n, hn⟩ : ∃ n, n = c.length := ⟨_, rfl⟩
  have hsz : (bstr c).size = n := by rw [hn]; simp [bstr, ByteArray.size]
  have hix : ∀ (j : Nat), j < n → ∀ w : World, (Instr.index 9 (.string (bstr c)) (.int .i64 j)).run Tryd.prog w = .ok (.int .u8 (c.getD j 0).toNat) w := fun j hj w => by
    have h1 : j < (bstr c).size := by omega
    have b : (0 : Int) ≤ (j : Int) ∧ (j : Int) < ((bstr c).size : Int) := by omega
    have e : (bstr c)[j]'h1 = c.getD j 0 := by
      have h2 : j < c.length := by omega
      have e : (bstr c)[j]'h1 = c.toArray[j]'(by simpa using h2) := rfl
      rw [e]
      simp [h2]
    simp [Instr.index, run_underlying Tryd.underlying9, asIntOf, b, go_sem, h1, e]
  obtain ⟨S, hS⟩ : ∃ S, S = bstr c := ⟨_, rfl⟩
  rw [← hS] at hsz hix ⊢
  clear hS
  have HX := Lib.hid (And.intro hix hn); clear hix
  rw [← hn] at hc
  clear hn
  go_enter Tryd.func19, Tryd.ntmps19
  go_wp2
  go_loopw [3] (fun i wr => ∃ k : Nat, k ≤ n ∧ i = .int .i64 k ∧ (c.take k).all okC = true ∧ Below w.heap.size w wr) (fun i _ => n - (intOf i).toNat)
  case atStart => exact ⟨0, by omega, rfl, rfl, Below.refl _ _⟩
  case round =>
    obtain ⟨k, hk, rfl, ha, hB⟩ := hrel
    by_cases hlt : k < n
    · have hix := fun w => HX.out.1 k hlt w
      have hall := all_take c okC k (by have := HX.out.2; omega) ha
      obtain ⟨x, hx⟩ : ∃ x, x = (c.getD k 0).toNat := ⟨_, rfl⟩
      have hok : okC (c.getD k 0) = (decide (33 ≤ x) && decide (x ≤ 126)) := by unfold okC; rw [hx]
      rw [← hx] at hix
      have hkn : (k : Int) < (n : Int) := by omega
      have H := Lib.hid (And.intro ha (And.intro hall (And.intro hx (And.intro hok hB)))); clear ha hall hx hok hB
      by_cases g1 : x < 33
      · have g1' : (x : Int) < 33 := by omega
        go_wp2
        go_ret
        have e : cmdOk c = false := by
          cases hcc : cmdOk c with
          | false => rfl
          | true =>
            unfold cmdOk at hcc
            simp only [Bool.and_eq_true] at hcc
            have hq := List.all_eq_true.1 hcc.2 (c.getD k 0) (by rw [List.getD, List.getElem?_eq_getElem (by have := HX.out.2; omega)]; exact List.getElem_mem _)
            rw [H.out.2.2.2.1, decide_eq_false (by omega)] at hq
            cases hq
        exact ⟨ret_b e.symm, H.out.2.2.2.2⟩
      have g1' : ¬ (x : Int) < 33 := by omega
      by_cases g2 : 126 < x
      · have g2' : (126 : Int) < (x : Int) := by omega
        go_wp2
        go_ret
        have e : cmdOk c = false := by
          cases hcc : cmdOk c with
          | false => rfl
          | true =>
            unfold cmdOk at hcc
            simp only [Bool.and_eq_true] at hcc
            have hq := List.all_eq_true.1 hcc.2 (c.getD k 0) (by rw [List.getD, List.getElem?_eq_getElem (by have := HX.out.2; omega)]; exact List.getElem_mem _)
            rw [H.out.2.2.2.1, decide_eq_false (show ¬ x ≤ 126 by omega), Bool.and_false] at hq
            cases hq
        exact ⟨ret_b e.symm, H.out.2.2.2.2⟩
      have g2' : ¬ (126 : Int) < (x : Int) := by omega
      go_wp2
      go_roundw
      case rel =>
        refine ⟨k + 1, by omega, by go_num, ?_, H.out.2.2.2.2⟩
        rw [H.out.2.1, H.out.2.2.2.1, decide_eq_true (by omega), decide_eq_true (by omega)]
        rfl
      case measure => simp [intOf]; omega
    · obtain rfl : k = n := by omega
      have e : cmdOk c = (decide (1 ≤ k) && decide (k ≤ 12)) := by
        unfold cmdOk
        have hl := HX.out.2
        rw [List.take_of_length_le (by omega)] at ha
        rw [ha, hl, Bool.and_true]
      have E := Lib.hid (And.intro e hB); clear e ha hB
      by_cases g1 : 1 ≤ k
      · by_cases g2 : k ≤ 12
        · have g1' : (1 : Int) ≤ (k : Int) := by omega
          have g2' : (k : Int) ≤ 12 := by omega
          go_wp2
          go_ret
          exact ⟨ret_b (by rw [E.out.1, decide_eq_true g1, decide_eq_true g2]; rfl), E.out.2⟩
        · have g1' : (1 : Int) ≤ (k : Int) := by omega
          have g2' : ¬ (k : Int) ≤ 12 := by omega
          go_wp2
          go_ret
          exact ⟨ret_b (by rw [E.out.1, decide_eq_false g2, Bool.and_false]), E.out.2⟩
      · have g1' : ¬ (1 : Int) ≤ (k : Int) := by omega
        go_wp2
        go_ret
        exact ⟨ret_b (by rw [E.out.1, decide_eq_false g1]; rfl), E.out.2⟩
theorem RNew_any (magic : Nat) (m : Int) (w : World) : Calls Tryd.prog 21 #[.int .u32 magic, .int .i64 m] w fun e w' => e = .returned (.agg #[.int .u32 magic, .int .i64 (capN m : Nat), .slice none 0 0, .int .i64 0]) ∧ Below w.heap.size w w' := by
  have hmx : max 0 (min m 4000000) = (capN m : Int) := by unfold capN; omega
  obtain ⟨k, hk⟩ : ∃ k, k = capN m := ⟨_, rfl⟩
  rw [← hk] at hmx ⊢
  clear hk
  go_enter Tryd.func21, Tryd.ntmps21
  go_wp2
  refine bodyPost_ret (v := .agg #[.int .u32 magic, .int .i64 k, .slice none 0 0, .int .i64 0]) (by simp [results, Tryd.results21, go_sem]) rfl ⟨rfl, ba (Below.refl _ _) _⟩
theorem rfour_any (k : Nat) (hk : k < 4294967296) (w : World) : Calls Tryd.prog 24 #[.int .u32 k] w fun e w' => e = .returned (.slice (some ⟨w.heap.size, 0, none⟩) 4 4) ∧ w' = w.alloc (.cells ((le4 k).map fun c => Value.int .u8 (c.toNat : Int)).toArray 5) := by
  obtain ⟨b0, h0⟩ : ∃ b, b = k % 256 := ⟨_, rfl⟩
  obtain ⟨b1, h1⟩ : ∃ b, b = k / 256 % 256 := ⟨_, rfl⟩
  obtain ⟨b2, h2⟩ : ∃ b, b = k / 65536 % 256 := ⟨_, rfl⟩
  obtain ⟨b3, h3⟩ : ∃ b, b = k / 16777216 % 256 := ⟨_, rfl⟩
  have e0 : (k : Int) % 256 = (b0 : Int) := by omega
  have e1 : (k : Int) / 256 % 256 = (b1 : Int) := by omega
  have e2 : (k : Int) / 65536 % 256 = (b2 : Int) := by omega
  have e3 : (k : Int) / 16777216 = (b3 : Int) := by omega
  have hle : (le4 k).map (fun c => Value.int .u8 (c.toNat : Int)) = [.int .u8 b0, .int .u8 b1, .int .u8 b2, .int .u8 b3] := by
    have q0 : (UInt8.ofNat b0).toNat = b0 := by simp; omega
    have q1 : (UInt8.ofNat b1).toNat = b1 := by simp; omega
    have q2 : (UInt8.ofNat b2).toNat = b2 := by simp; omega
    have q3 : (UInt8.ofNat b3).toNat = b3 := by simp; omega
    unfold le4
    rw [← h0, ← h1, ← h2, ← h3]
    simp only [List.map_cons, List.map_nil, q0, q1, q2, q3]
  rw [hle]
  have hbs := bs4_run b0 b1 b2 b3
  clear hle h0 h1 h2 h3
  go_enter Tryd.func24, Tryd.ntmps24
  go_wp2
  go_ret
  exact ⟨rfl, rfl⟩
/-- What a command's twelve bytes tell: nothing, where it may not be. -/
def cmdR (l : List UInt8) : List UInt8 := if cmdOk (trimR l) = true then trimR l else []
theorem trimR_all (l : List UInt8) : ∃ z, l = trimR l ++ List.replicate z 0 := by
  induction l with
  | nil => exact ⟨0, rfl⟩
  | cons x r ih =>
    obtain ⟨z, hz⟩ := ih
    rw [trimR]
    cases h : trimR r with
    | nil =>
      rw [h, List.nil_append] at hz
      by_cases hx : x = 0
      · subst hx
        simp only [if_pos rfl]
        exact ⟨z + 1, by rw [List.replicate_succ, ← hz]; rfl⟩
      · simp only [if_neg hx]
        exact ⟨z, by rw [List.cons_append, List.nil_append, ← hz]⟩
    | cons y t =>
      simp only
      rw [h] at hz
      exact ⟨z, by rw [List.cons_append, ← hz]⟩
/-- Up to the first zero, and nothing but zeros behind it. -/
theorem cmdR_eq (l : List UInt8) (k : Nat) (hk : k ≤ l.length) (h1 : ∀ i, i < k → l.getD i 0 ≠ 0) (h2 : ∀ i, k ≤ i → l.getD i 0 = 0) : trimR l = l.take k := by
  have e : l = l.take k ++ List.replicate (l.length - k) 0 := by
    apply List.ext_getElem?
    intro i
    by_cases hi : i < k
    · rw [List.getElem?_append_left (by rw [List.length_take]; omega), List.getElem?_take_of_lt hi]
    · rw [List.getElem?_append_right (by rw [List.length_take]; omega), List.length_take, Nat.min_eq_left hk]
      by_cases hl : i < l.length
      · have := h2 i (by omega)
        rw [List.getD, List.getElem?_eq_getElem hl] at this
        rw [List.getElem?_eq_getElem hl, List.getElem?_replicate, if_pos (by omega)]
        exact congrArg some this
      · rw [List.getElem?_eq_none (by omega), List.getElem?_replicate, if_neg (by omega)]
  have e2 := trimR_good (l.take k) (l.length - k) (fun x hx => by
    obtain ⟨i, hi, rfl⟩ := List.mem_iff_getElem.1 hx
    have hi2 : i < k ∧ i < l.length := by rw [List.length_take] at hi; omega
    have := h1 i hi2.1
    rw [List.getD, List.getElem?_eq_getElem hi2.2] at this
    rw [List.getElem_take]
    exact this)
  rw [← e] at e2
  exact e2
/-- A byte that is no zero behind a zero: no command. -/
theorem cmdR_no (l : List UInt8) (i j : Nat) (hij : i < j) (hi : l.getD i 0 = 0) (hj : l.getD j 0 ≠ 0) : cmdR l = [] := by
  unfold cmdR
  rw [if_neg]
  intro h
  obtain ⟨z, hz⟩ := trimR_all l
  have hall := h
  unfold cmdOk at hall
  simp only [Bool.and_eq_true] at hall
  have hne : ∀ x ∈ trimR l, x ≠ 0 := fun x hx => okC_ne (List.all_eq_true.1 hall.2 x hx)
  have hjl : j < (trimR l).length := by
    apply Classical.byContradiction
    intro hn
    apply hj
    rw [hz, List.getD, List.getElem?_append_right (by omega), List.getElem?_replicate]
    split <;> rfl
  have hil : i < (trimR l).length := by omega
  have := hne _ (List.getElem_mem hil)
  apply this
  rw [hz, List.getD, List.getElem?_append_left hil, List.getElem?_eq_getElem hil] at hi
  exact hi
end Go.Proofs.YtlegcceaoglpoaaDoor

namespace Go.Proofs.YtlegcceaoglpoaaDoor
open Go.RowKit
set_option linter.unusedVariables false
set_option maxRecDepth 100000 in
set_option maxHeartbeats 4000000 in
theorem Rcommand_any (a : Option Addr) (c : Nat) (l : List UInt8) (hl : l.length = 12) (hc : 12 ≤ c) (hc2 : c ≤ 9223372036854775807) (w : World) (hr : RdS w a l) :
    Calls Tryd.prog 30 #[.slice a 12 c] w fun e w' => e = .returned (.string (bstr (cmdR l))) ∧ Below w.heap.size w w' := by
  obtain ⟨g, off, rfl, hg, hrd⟩ : ∃ g off, a = some ⟨g, off, none⟩ ∧ g < w.heap.size ∧ Rd w g off l := by
    rcases hr with h | h
    · rw [h] at hl; cases hl
    · exact h
  have F := Lib.hid (And.intro hl (And.intro hg hrd)); clear hl hr hrd
  go_enter Tryd.func30, Tryd.ntmps30
  go_wp2
  go_loopw [3] (fun i wr => ∃ k : Nat, k ≤ 12 ∧ i = .int .i64 k ∧ (∀ i, i < k → l.getD i 0 ≠ 0) ∧ w = wr) (fun i _ => 12 - (intOf i).toNat)
  case atStart => exact ⟨0, by omega, rfl, fun i h => by omega, rfl⟩
  case round =>
    obtain ⟨k, hk, rfl, hq, rfl⟩ := hrel
    by_cases hlt : k < 12
    · have hki : (k : Int) < 12 := by omega
      have c1 := F.out.2.2 k (by have := F.out.1; omega)
      obtain ⟨x, hx⟩ : ∃ x, x = (l.getD k 0).toNat := ⟨_, rfl⟩
      rw [← hx] at c1
      by_cases hx0 : x = 0
      · subst hx0
        have hkz : l.getD k 0 = 0 := UInt8.toNat_inj.1 hx.symm
        have G := Lib.hid (And.intro hq hkz); clear hkz hx
        clear hq
        go_wp2_with fail
        go_loopw [4] (fun i wr => ∃ j : Nat, k ≤ j ∧ j ≤ 12 ∧ i = .int .i64 j ∧ (∀ i, k ≤ i → i < j → l.getD i 0 = 0) ∧ w = wr) (fun i _ => 12 - (intOf i).toNat)
        case atStart => exact ⟨k, Nat.le_refl _, by omega, rfl, fun i h1 h2 => by omega, rfl⟩
        case round =>
          obtain ⟨j, hkj, hj, rfl, hz, rfl⟩ := hrel
          by_cases hlt2 : j < 12
          · have hjj : (j : Int) < 12 := by omega
            have c2 := F.out.2.2 j (by have := F.out.1; omega)
            obtain ⟨y, hy⟩ : ∃ y, y = (l.getD j 0).toNat := ⟨_, rfl⟩
            rw [← hy] at c2
            by_cases hy0 : y = 0
            · subst hy0
              have HZ := Lib.hid (And.intro hz hy); clear hz hy
              go_wp2
              go_roundw
              case rel => exact ⟨j + 1, by omega, by omega, by go_num, fun i h1 h2 => by
                by_cases e : i = j
                · subst e; exact UInt8.toNat_inj.1 HZ.out.2.symm
                · exact HZ.out.1 i h1 (by omega), by first | rfl | trivial⟩
              case measure => simp [intOf]; omega
            · have hy0' : ¬ (y : Int) = 0 := by omega
              have hjne : l.getD j 0 ≠ 0 := fun e => hy0 (by rw [hy, e]; rfl)
              have hkz := G.out.2
              have e := cmdR_no l k j (by
                rcases Nat.lt_or_ge k j with h | h
                · exact h
                · exact absurd hkz (by rw [show k = j by omega]; exact hjne)) hkz hjne
              have HZ := Lib.hid e; clear hz hy hjne hkz e
              go_wp2
              go_ret
              exact ⟨ret_str (by rw [HZ.out]; rfl), Below.refl _ _⟩
          · obtain rfl : j = 12 := by omega
            have hkn : l.length = 12 := F.out.1
            have et : trimR l = l.take k := cmdR_eq l k (by omega) G.out.1 (fun i hi => by
              by_cases h : i < 12
              · exact hz i hi h
              · rw [List.getD, List.getElem?_eq_none (by omega)]; rfl)
            have ecm : cmdR l = if cmdOk (l.take k) = true then l.take k else [] := by unfold cmdR; rw [et]
            have htl : (l.take k).length = k := by rw [List.length_take]; omega
            obtain ⟨a2, hs2, hr2, _, _⟩ := slice_to (some ⟨g, off, none⟩) l 12 c k hkn (by omega) (by omega)
            have hr3 := hr2 w (.inr ⟨g, off, rfl, F.out.2.1, F.out.2.2⟩)
            have hst := str_of (c := c) hr3 htl
            have cC := fun w => RCommand_any (l.take k) (by omega) w
            obtain ⟨S, hS⟩ : ∃ S, S = bstr (l.take k) := ⟨_, rfl⟩
            rw [← hS] at hst cC
            have hss := hs2 w
            cases hok : cmdOk (l.take k) with
            | false =>
              rw [hok] at cC ecm
              have E := Lib.hid (And.intro cC ecm); clear cC ecm hz et hs2 hr2 hr3 htl hS hkn
              go_wp2_with fail
              refine (E.out.1 _).mono ?_
              rintro e w2 ⟨rfl, hb2⟩
              go_wp2
              go_ret
              exact ⟨ret_str (by rw [E.out.2]; rfl), hb2⟩
            | true =>
              rw [hok] at cC ecm
              have E := Lib.hid (And.intro cC (And.intro ecm (And.intro hS (And.intro hr2 (And.intro htl hs2))))); clear cC ecm hz et hr2 htl hkn hr3 hs2 hS
              go_wp2_with fail
              refine (E.out.1 _).mono ?_
              rintro e w2 ⟨rfl, hb2⟩
              clear hst hss
              have hst2 : (convert 23 9 (.slice a2 k c)).run Tryd.prog w2 = .ok (.string S) w2 := by rw [E.out.2.2.1]; exact str_of (c := c) ((E.out.2.2.2.1 w (.inr ⟨g, off, rfl, F.out.2.1, F.out.2.2⟩)).calls hb2) E.out.2.2.2.2.1
              have hss2 := E.out.2.2.2.2.2 w2
              go_wp2
              go_ret
              exact ⟨ret_str (by rw [E.out.2.1, E.out.2.2.1]; rfl), hb2⟩
      · have hx0' : ¬ (x : Int) = 0 := by omega
        have hne : l.getD k 0 ≠ 0 := fun e => hx0 (by rw [hx, e]; rfl)
        have G := Lib.hid (And.intro hq hne); clear hne hx hq
        go_wp2
        go_roundw
        case rel => exact ⟨k + 1, by omega, by go_num, fun i h => by
          by_cases e : i = k
          · subst e; exact G.out.2
          · exact G.out.1 i (by omega), by first | rfl | trivial⟩
        case measure => simp [intOf]; omega
    · obtain rfl : k = 12 := by omega
      have G := Lib.hid hq
      clear hq
      go_wp2_with fail
      go_loopw [4] (fun i wr => ∃ j : Nat, 12 ≤ j ∧ j ≤ 12 ∧ i = .int .i64 j ∧ (∀ i, 12 ≤ i → i < j → l.getD i 0 = 0) ∧ w = wr) (fun i _ => 12 - (intOf i).toNat)
      case atStart => exact ⟨12, Nat.le_refl _, by omega, rfl, fun i h1 h2 => by omega, rfl⟩
      case round =>
        obtain ⟨j, hkj, hj, rfl, hz, rfl⟩ := hrel
        by_cases hlt2 : j < 12
        · omega
        · obtain rfl : j = 12 := by omega
          have hkn : l.length = 12 := F.out.1
          have et0 : trimR l = l.take 12 := cmdR_eq l 12 (by omega) G.out (fun i hi => by
            by_cases h : i < 12
            · exact hz i hi h
            · rw [List.getD, List.getElem?_eq_none (by omega)]; rfl)
          have et : trimR l = l := et0.trans (List.take_of_length_le (by omega))
          clear et0
          have ecm : cmdR l = if cmdOk l = true then l else [] := by unfold cmdR; rw [et]
          have hr3 : RdS w (some ⟨g, off, none⟩) l := .inr ⟨g, off, rfl, F.out.2.1, F.out.2.2⟩
          have hst := str_of (c := c) hr3 hkn
          have cC := fun w => RCommand_any l (by omega) w
          obtain ⟨S, hS⟩ : ∃ S, S = bstr l := ⟨_, rfl⟩
          rw [← hS] at hst cC
          cases hok : cmdOk l with
          | false =>
            rw [hok] at cC ecm
            have E := Lib.hid (And.intro cC ecm); clear cC ecm hz et hr3 hS hkn
            go_wp2_with fail
            refine (E.out.1 _).mono ?_
            rintro e w2 ⟨rfl, hb2⟩
            go_wp2
            go_ret
            exact ⟨ret_str (by rw [E.out.2]; rfl), hb2⟩
          | true =>
            rw [hok] at cC ecm
            have E := Lib.hid (And.intro cC (And.intro ecm (And.intro hS (And.intro hr3 hkn)))); clear cC ecm hz et hkn hr3 hS
            go_wp2_with fail
            refine (E.out.1 _).mono ?_
            rintro e w2 ⟨rfl, hb2⟩
            clear hst
            have hst2 : (convert 23 9 (.slice (some ⟨g, off, none⟩) 12 c)).run Tryd.prog w2 = .ok (.string S) w2 := by rw [E.out.2.2.1]; exact str_of (c := c) (E.out.2.2.2.1.calls hb2) E.out.2.2.2.2
            go_wp2
            go_ret
            exact ⟨ret_str (by rw [E.out.2.1, E.out.2.2.1]; rfl), hb2⟩
end Go.Proofs.YtlegcceaoglpoaaDoor

namespace Go.Proofs.YtlegcceaoglpoaaDoor
open Go.RowKit
set_option linter.unusedVariables false
set_option maxHeartbeats 400000 in
theorem rturn_any (x : Wd) (n : Nat) (h0 : 0 < n) (h1 : n < 32) (w : World) :
    Calls Tryd.prog 63 #[.int .u32 (wn x), .int .u64 n] w fun e w' => e = .returned (.int .u32 (wn (rr x n))) ∧ w' = w := by
  obtain ⟨m, hm⟩ : ∃ m, m = 32 - n := ⟨_, rfl⟩
  have e1 : IntKind.u64.wrap (32 - (n : Int)) = (m : Int) := by rw [IntKind.wrap_u64]; omega
  have e1' : (32 : Int) - (n : Int) = (m : Int) := by omega
  have hm32 : m < 32 := by omega
  have v1 := shl_wd x m
  have v2 := shr_wd x n
  have v3 := bor_wd (x >>> n) (x <<< m)
  have e5 : x >>> n ||| x <<< m = rr x n := by unfold rr; rw [← hm]
  rw [e5] at v3
  have H := Lib.hid (And.intro hm e5); clear hm e5
  go_enter Tryd.func63, Tryd.ntmps63
  go_wp2
  go_ret
  exact ⟨rfl, rfl⟩
theorem rturn_is (x : Wd) (k : Int) (n : Nat) (hk : k = n) (h0 : 0 < n) (h1 : n < 32) (w : World) :
    Calls Tryd.prog 63 #[.int .u32 (wn x), .int .u64 k] w fun e w' => e = .returned (.int .u32 (wn (rr x n))) ∧ w' = w := by
  subst hk
  exact rturn_any x n h0 h1 w
end Go.Proofs.YtlegcceaoglpoaaDoor

namespace Go.Proofs.YtlegcceaoglpoaaDoor
open Go.RowKit
set_option linter.unusedVariables false
set_option maxRecDepth 100000 in
set_option maxHeartbeats 1600000 in
theorem rwords_any (g off c : Nat) (b : List UInt8) (w : World) (hr : Rd w g off b) (hg : g < w.heap.size) (hl : b.length = 64) :
    Calls Tryd.prog 61 #[.slice (some ⟨g, off, none⟩) 64 c] w fun e w' => e = .returned (.agg (u32c (wordsOf b))) ∧ Below w.heap.size w w' := by
  have HRd := Lib.hid (And.intro hr hl); clear hr hl
  go_enter Tryd.func61, Tryd.ntmps61
  go_wp2
  go_loopw [4] (fun i wr => ∃ k : Nat, k ≤ 16 ∧ i = .int .i64 k ∧ Blk wr (w.heap.size) 99 (padW 64 []) ∧ Blk wr (w.heap.size + 1) 99 (padW 64 (firstW b k)) ∧ Below w.heap.size w wr) (fun i _ => 16 - (intOf i).toNat)
  case atStart =>
    refine ⟨0, by omega, rfl, ?_, ?_, ?_⟩
    · rw [z64_cells]; exact (Blk.newAt _ _ _ rfl).alloc _
    · rw [show firstW b 0 = [] from rfl, z64_cells]; exact Blk.newAt _ _ _ (by simp)
    · exact ((Below.refl _ _).alloc (Nat.le_refl _) _).alloc (by simp) _
  case round =>
    obtain ⟨k, hk, rfl, h1, h2, hb⟩ := hrel
    by_cases hlt : k < 16
    · have hl := HRd.out.2
      obtain ⟨p0, hp0⟩ : ∃ p, p = 4 * k := ⟨_, rfl⟩
      obtain ⟨p1, hp1⟩ : ∃ p, p = p0 + 1 := ⟨_, rfl⟩
      obtain ⟨p2, hp2⟩ : ∃ p, p = p0 + 2 := ⟨_, rfl⟩
      obtain ⟨p3, hp3⟩ : ∃ p, p = p0 + 3 := ⟨_, rfl⟩
      have c0 := HRd.out.1.at hb hg p0 (by omega)
      have c1 := HRd.out.1.at hb hg p1 (by omega)
      have c2 := HRd.out.1.at hb hg p2 (by omega)
      have c3 := HRd.out.1.at hb hg p3 (by omega)
      obtain ⟨x0, hx0⟩ : ∃ x, x = bw (b.getD p0 0) := ⟨_, rfl⟩
      obtain ⟨x1, hx1⟩ : ∃ x, x = bw (b.getD p1 0) := ⟨_, rfl⟩
      obtain ⟨x2, hx2⟩ : ∃ x, x = bw (b.getD p2 0) := ⟨_, rfl⟩
      obtain ⟨x3, hx3⟩ : ∃ x, x = bw (b.getD p3 0) := ⟨_, rfl⟩
      rw [← wn_bw, ← hx0] at c0
      rw [← wn_bw, ← hx1] at c1
      rw [← wn_bw, ← hx2] at c2
      rw [← wn_bw, ← hx3] at c3
      have b0 : wn x0 < 256 := by rw [hx0, wn_bw]; exact UInt8.toNat_lt _
      have b1 : wn x1 < 256 := by rw [hx1, wn_bw]; exact UInt8.toNat_lt _
      have b2 : wn x2 < 256 := by rw [hx2, wn_bw]; exact UInt8.toNat_lt _
      have b3 : wn x3 < 256 := by rw [hx3, wn_bw]; exact UInt8.toNat_lt _
      obtain ⟨y, hy⟩ : ∃ y, y = fw b k := ⟨_, rfl⟩
      have hyy : x0 <<< 24 ||| x1 <<< 16 ||| x2 <<< 8 ||| x3 = y := by rw [hy, hx0, hx1, hx2, hx3, hp1, hp2, hp3, hp0]; rfl
      have i0 : 4 * (k : Int) = (p0 : Int) := by omega
      have i1 : (p0 : Int) + 1 = (p1 : Int) := by omega
      have i2 : (p0 : Int) + 2 = (p2 : Int) := by omega
      have i3 : (p0 : Int) + 3 = (p3 : Int) := by omega
      have q0 : p0 < 64 := by omega
      have q1 : p1 < 64 := by omega
      have q2 : p2 < 64 := by omega
      have q3 : p3 < 64 := by omega
      have v0 := (shl_small x0 b0).1
      have v1 := (shl_small x1 b1).2.1
      have v2 := (shl_small x2 b2).2.2
      have o1 := bor_wd (x0 <<< 24) (x1 <<< 16)
      have o2 := bor_wd (x0 <<< 24 ||| x1 <<< 16) (x2 <<< 8)
      have o3 := bor_wd (x0 <<< 24 ||| x1 <<< 16 ||| x2 <<< 8) x3
      rw [hyy] at o3
      have hw := firstW_length b k
      obtain ⟨v4, hv4⟩ := padW_some 64 (firstW b k) k (by omega) (by omega)
      have c4 := blk_get h2 k _ hv4
      have f4 := h2.frozen k
      have k64 : (k : Int) < 64 := by omega
      have H := Lib.hid (And.intro h1 (And.intro h2 (And.intro hb (And.intro hy hw)))); clear h1 h2 hb hy hw hyy hx0 hx1 hx2 hx3 hp0 hp1 hp2 hp3 hv4 hl
      go_wp2
      try go_region
      try go_wp2
      obtain ⟨h1, h2, hb, hy, hw⟩ := H.out
      go_roundw
      case rel =>
        refine ⟨k + 1, by omega, by go_num, (by first | exact (h1.far (by omega) _).drew | exact h1.far (by omega) _), ?_, (by first | exact (hb.setCell (by simp) _).drew | exact hb.setCell (by simp) _)⟩
        have hs := padW_set 64 (firstW b k) y (by omega)
        rw [hw] at hs
        rw [firstW_snoc, ← hy, ← hs]
        first | exact (h2.set_ k _).drew | exact h2.set_ k _
      case measure => simp [intOf]; omega
    · obtain rfl : k = 16 := by omega
      clear hlt
      have HB := Lib.hid (And.intro h1 (And.intro h2 hb)); clear h1 h2 hb
      rw [show ((16 : Nat) : Int) = 16 from rfl]
      go_wp2
      go_loopw [5] (fun i wr => ∃ n : Nat, 16 ≤ n ∧ n ≤ 64 ∧ i = .int .i64 n ∧ Blk wr (w.heap.size) 99 (padW 64 []) ∧ Blk wr (w.heap.size + 1) 99 (padW 64 (extW b (n - 16))) ∧ Below w.heap.size w wr) (fun i _ => 64 - (intOf i).toNat)
      case atStart =>
        obtain ⟨h1, h2, hb⟩ := HB.out
        exact ⟨16, by omega, by omega, rfl, h1, h2, hb⟩
      case round =>
        clear HB
        obtain ⟨n, hn16, hn64, rfl, h1, h2, hb⟩ := hrel
        by_cases hlt : n < 64
        · obtain ⟨l, hl⟩ : ∃ l, l = extW b (n - 16) := ⟨_, rfl⟩
          have hln : l.length = n := by rw [hl, extW_length]; omega
          rw [← hl] at h2
          obtain ⟨p, hp⟩ : ∃ p, p = n - 15 := ⟨_, rfl⟩
          obtain ⟨q, hq⟩ : ∃ q, q = n - 2 := ⟨_, rfl⟩
          obtain ⟨r, hr⟩ : ∃ r, r = n - 7 := ⟨_, rfl⟩
          obtain ⟨t, ht⟩ : ∃ t, t = n - 16 := ⟨_, rfl⟩
          obtain ⟨x, hx⟩ : ∃ x, x = l.getD p 0 := ⟨_, rfl⟩
          obtain ⟨y, hy⟩ : ∃ y, y = l.getD q 0 := ⟨_, rfl⟩
          obtain ⟨z, hz⟩ : ∃ z, z = l.getD r 0 := ⟨_, rfl⟩
          obtain ⟨u, hu⟩ : ∃ u, u = l.getD t 0 := ⟨_, rfl⟩
          have cx := blk_get h2 p _ (padW_at 64 l p (by omega))
          have cy := blk_get h2 q _ (padW_at 64 l q (by omega))
          have cz := blk_get h2 r _ (padW_at 64 l r (by omega))
          have cu := blk_get h2 t _ (padW_at 64 l t (by omega))
          rw [← hx] at cx
          rw [← hy] at cy
          rw [← hz] at cz
          rw [← hu] at cu
          have ip : (n : Int) - 15 = (p : Int) := by omega
          have iq : (n : Int) - 2 = (q : Int) := by omega
          have ir : (n : Int) - 7 = (r : Int) := by omega
          have it : (n : Int) - 16 = (t : Int) := by omega
          have p64 : (p : Int) < 64 := by omega
          have q64 : (q : Int) < 64 := by omega
          have r64 : (r : Int) < 64 := by omega
          have t64 : (t : Int) < 64 := by omega
          have n64 : (n : Int) < 64 := by omega
          obtain ⟨v4, hv4⟩ := padW_some 64 l n (by omega) hlt
          have c4 := blk_get h2 n _ hv4
          have f4 := h2.frozen n
          obtain ⟨e0, he0⟩ : ∃ e, e = s0w x := ⟨_, rfl⟩
          obtain ⟨e1, he1⟩ : ∃ e, e = s1w y := ⟨_, rfl⟩
          have a1 := bxor_wd (rr x 7) (rr x 18)
          have a2 := bxor_wd (rr x 7 ^^^ rr x 18) (x >>> 3)
          have a3 : ((wn x : Nat) : Int) / (8 : Int) = ((wn (x >>> 3) : Nat) : Int) := shr_wd x 3
          have a4 : rr x 7 ^^^ rr x 18 ^^^ x >>> 3 = e0 := he0.symm
          rw [a4] at a2
          have d1 := bxor_wd (rr y 17) (rr y 19)
          have d2 := bxor_wd (rr y 17 ^^^ rr y 19) (y >>> 10)
          have d3 : ((wn y : Nat) : Int) / (1024 : Int) = ((wn (y >>> 10) : Nat) : Int) := shr_wd y 10
          have d4 : rr y 17 ^^^ rr y 19 ^^^ y >>> 10 = e1 := he1.symm
          rw [d4] at d2
          have H := Lib.hid (And.intro h1 (And.intro h2 (And.intro hb (And.intro hl (And.intro hln (And.intro he0 (And.intro he1 (And.intro hx (And.intro hy (And.intro hz (And.intro hu (And.intro hp (And.intro hq (And.intro hr ht))))))))))))))
          clear h1 h2 hb hl hln he0 he1 hx hy hz hu hp hq hr ht a4 d4 hv4
          go_wp2_with (go_at_call 63; (first | (with_reducible refine (rturn_is x 7 7 rfl (by decide) (by decide) _).mono ?_) | (with_reducible refine (rturn_is x 18 18 rfl (by decide) (by decide) _).mono ?_) | (with_reducible refine (rturn_is y 17 17 rfl (by decide) (by decide) _).mono ?_) | (with_reducible refine (rturn_is y 19 19 rfl (by decide) (by decide) _).mono ?_)); rintro e w' ⟨rfl, rfl⟩)
          go_region
          go_wp2
          obtain ⟨h1, h2, hb, hl, hln, he0, he1, hx, hy, hz, hu, hp, hq, hr, ht⟩ := H.out
          go_roundw
          case rel =>
            refine ⟨n + 1, by omega, by omega, by go_num, (h1.far (by omega) _).drew, ?_, (hb.setCell (by simp) _).drew⟩
            have hs := padW_set 64 l (e1 + z + e0 + u) (by omega)
            have hnx : nextW l = e1 + z + e0 + u := by
              unfold nextW
              rw [hln, ← hp, ← hq, ← hr, ← ht, ← hx, ← hy, ← hz, ← hu, ← he0, ← he1]
            rw [hln] at hs
            have hext : extW b (n + 1 - 16) = l ++ [e1 + z + e0 + u] := by
              rw [show n + 1 - 16 = (n - 16) + 1 by omega, extW, ← hl, hnx]
            rw [hext, ← hs]
            rw [add4_wd]
            exact (h2.set_ n _).drew
          case measure => simp [intOf]; omega
        · obtain rfl : n = 64 := by omega
          have hfull : padW 64 (extW b 48) = u32c (wordsOf b) := padW_full 64 _ (extW_length b 48)
          rw [show 64 - 16 = 48 from rfl, hfull] at h2
          have hz : (padW 64 []).size = 64 := padW_size 64 [] (by simp)
          have hlen : (wordsOf b).length = 64 := extW_length b 48
          obtain ⟨ws, hws⟩ : ∃ ws, ws = wordsOf b := ⟨_, rfl⟩
          rw [← hws] at h2 hlen
          have HW := Lib.hid hws; clear hws
          have s2 : (u32c ws).size = 64 := by rw [u32c_size, hlen]
          have i2 := is64 (u32c ws) s2
          have s0 : (padW 64 []).size = (u32c ws).size := by rw [hz, s2]
          have a2 := u32c_one ws
          have H := Lib.hid (And.intro h1 (And.intro h2 hb)); clear h1 h2 hb hfull hz hlen s2
          go_wp2_with (first | with_reducible refine wl_row H.out.2.1 _ _ rfl rfl rfl _ _ Tryd.underlying99 i2 ?_ | with_reducible refine ws_row H.out.1 _ _ _ _ rfl rfl rfl rfl i2 s0 a2 ?_)
          obtain ⟨h1, h2, hb⟩ := H.out
          refine bodyPost_ret (v := .agg (u32c ws)) ?_ rfl ⟨by rw [HW.out], setRow_below hb (by omega) _⟩
          exact results_row rfl _ _ _ _ _ rfl (h1.row _) Tryd.underlying99 i2
end Go.Proofs.YtlegcceaoglpoaaDoor

namespace Go.Proofs.YtlegcceaoglpoaaDoor
open Go.RowKit
set_option linter.unusedVariables false
set_option maxRecDepth 100000 in
set_option maxHeartbeats 400000 in
theorem RBlock_short (h : List Wd) (hh : h.length = 8) (a : Option Addr) (n c : Nat) (hn : n ≠ 64) (hn2 : n ≤ 9223372036854775807) (w : World) :
    Calls Tryd.prog 54 #[.agg (u32c h), .slice a n c] w fun e w' => e = .returned (.agg (u32c h)) ∧ Below w.heap.size w w' := by
  have hne : ((n : Int) != 64) = true := by simp; omega
  have s2 : (u32c h).size = 8 := by rw [u32c_size, hh]
  have i2 := is8 (u32c h) s2
  have s0 : (padW 8 []).size = (u32c h).size := by rw [s2]; exact padW_size 8 [] (by simp)
  rw [z8_cells] at s0
  have a2 := u32c_one h
  have HL := Lib.hid hh; clear hh hn s2
  go_enter Tryd.func54, Tryd.ntmps54
  go_wp2_with (first | with_reducible refine wl_row ((Blk.newAt w _ (u32c h) rfl).alloc _) _ _ rfl rfl rfl _ _ Tryd.underlying81 i2 ?_ | with_reducible refine ws_row (Blk.second w _ _ _) _ _ _ _ rfl rfl rfl rfl i2 s0 a2 ?_)
  refine bodyPost_ret (v := .agg (u32c h)) ?_ rfl ⟨rfl, setRow_below (((Below.refl _ _).alloc (Nat.le_refl _) _).alloc (by simp) _) (by omega) _⟩
  exact results_row rfl _ _ _ _ _ rfl ((Blk.second w _ _ _).row _) Tryd.underlying81 i2
end Go.Proofs.YtlegcceaoglpoaaDoor
