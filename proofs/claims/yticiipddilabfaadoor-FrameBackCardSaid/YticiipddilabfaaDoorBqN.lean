/- Rows of messages, one behind the other. A stream is fed: as the laws use it. What stands apart from a row stays where the row grows. Messages in a row: the plain law. Two rows of the call's own, both growing; messages put. What is put is got again: plain laws, and small steps. -/
import Derived.Maps.AppendAt
import Derived.Laws.AppendOwnNone
import Derived.Test.YticiipddilabfaaDoorBqM
import Derived.Test.YticiipddilabfaaDoorBqI
namespace Go.Proofs.YticiipddilabfaaDoor
open Go.RowKit
set_option linter.unusedVariables false
/-- A row of messages of the call's own; what it points at lies in other blocks. -/
def MsgO (b0 : Nat) (T : List MsgT) (v : Value) (W : World) : Prop :=
  ∃ L : List (MsgT × Value), L.map (·.1) = T ∧ W.ownsRow b0 32 2 v T.length (msgCs L) ∧ ∀ x ∈ L, SlO (fun k => some k ≠ v.ownBlock) x.1.2 x.2 W
theorem own_from {w : World} {base b2 : Nat} {e : TypeId} {v : Value} {n : Nat} {xs : List Value} (h : w.ownsRow base e 2 v n xs) (hb : b2 ≤ base) : w.ownsRow b2 e 2 v n xs := by
  refine ⟨h.1, ?_⟩
  rcases h.2 with e | ⟨g, cap, cur, hv, hb', rest⟩
  · exact .inl e
  · exact .inr ⟨g, cap, cur, hv, Nat.le_trans hb hb', rest⟩
/-- Cells are read of a block of a class. -/
def RdCO (P : Nat → Prop) (W : World) (a : Option Addr) (cs : List Value) : Prop := cs = [] ∨ ∃ g o, a = some ⟨g, o, none⟩ ∧ P g ∧ g < W.heap.size ∧ ∀ j u, cs[j]? = some u → W.cell? ⟨g, o + j, none⟩ = some u
theorem RdCO.rdc {P : Nat → Prop} {W : World} {a : Option Addr} {cs : List Value} (h : RdCO P W a cs) : RdC W a cs := by
  rcases h with h | ⟨g, o, h1, _, h2, h3⟩
  · exact .inl h
  · exact .inr ⟨g, o, h1, h2, h3⟩
theorem RdCO.keep {P X : Nat → Prop} {W W' : World} {a : Option Addr} {cs : List Value} (h : RdCO P W a cs) (k : Kp X W W') (hx : ∀ g, P g → ¬ X g) : RdCO P W' a cs := by
  rcases h with h | ⟨g, o, h1, hp, h2, h3⟩
  · exact .inl h
  · exact .inr ⟨g, o, h1, hp, Nat.lt_of_lt_of_le h2 k.1, fun j u hu => (World.cell?_of_block (a := ⟨g, o + j, none⟩) (k.2.1 g h2 (hx g hp))).trans (h3 j u hu)⟩
theorem own2_rdco {P : Nat → Prop} {w : World} {base : Nat} {e : TypeId} {v : Value} {n : Nat} {cs : List Value} (h : w.ownsRow base e 2 v n cs) (hP : ∀ k, v.ownBlock = some k → P k) : ∃ a c, v = .slice a n c ∧ RdCO P w a cs ∧ n ≤ c ∧ c ≤ maxLen ∧ (a = none → n = 0 ∧ c = 0) := by
  obtain ⟨h0, ⟨hv, hz⟩ | ⟨g, cap, cur, hv, hb, hg, q1, q2, q3, q4⟩⟩ := h
  · subst hz
    exact ⟨none, 0, hv, .inl (List.length_eq_zero_iff.1 (by omega)), Nat.le_refl _, Nat.zero_le _, fun _ => ⟨rfl, rfl⟩⟩
  · refine ⟨some ⟨g, 0, none⟩, cap, hv, .inr ⟨g, 0, rfl, hP g (by rw [hv]; rfl), (show Blk w g _ cur from hg).lt, fun j u hu => ?_⟩, q1, q2, fun h => by cases h⟩
    rw [Nat.zero_add]
    refine blk_get (show Blk w g _ cur from hg) j _ ?_
    rw [← q4, List.getElem?_take] at hu
    split at hu
    · simpa using hu
    · cases hu
/-- A slice of messages; what it points at lies in blocks of a class. -/
def SlMA (P : Nat → Prop) (T : List MsgT) (v : Value) (W : World) : Prop :=
  ∃ (L : List (MsgT × Value)) (a : Option Addr) (c : Nat), v = .slice a T.length c ∧ L.map (·.1) = T ∧ (∀ x ∈ L, SlO P x.1.2 x.2 W) ∧ RdCO P W a (msgCs L) ∧ T.length ≤ c ∧ (a = none → T.length = 0 ∧ c = 0)
theorem SlMA.keep {P X : Nat → Prop} {T : List MsgT} {v : Value} {W W' : World} (h : SlMA P T v W) (k : Kp X W W') (hx : ∀ g, P g → ¬ X g) : SlMA P T v W' := by
  obtain ⟨L, a, c, h1, h2, h3, h4, h5⟩ := h
  exact ⟨L, a, c, h1, h2, fun x hx' => (h3 x hx').keep k hx, h4.keep k hx, h5⟩
theorem SlMA.slm {P : Nat → Prop} {T : List MsgT} {v : Value} {W : World} (h : SlMA P T v W) : SlM T v W := by
  obtain ⟨L, a, c, h1, h2, h3, h4, h5⟩ := h
  exact ⟨L, a, c, h1, h2, fun x hx => (h3 x hx).clo, h4.rdc, h5⟩
theorem SlMA.mono {P P' : Nat → Prop} {T : List MsgT} {v : Value} {W : World} (h : SlMA P T v W) (hp : ∀ k, P k → P' k) : SlMA P' T v W := by
  obtain ⟨L, a, c, h1, h2, h3, h4, h5⟩ := h
  refine ⟨L, a, c, h1, h2, fun x hx => (h3 x hx).mono fun g _ hg => hp g hg, ?_, h5⟩
  rcases h4 with h | ⟨g, o, e1, e2, e3⟩
  · exact .inl h
  · exact .inr ⟨g, o, e1, hp g e2, e3⟩
theorem MsgL.msgO {b0 : Nat} {T : List MsgT} {v : Value} {W : World} (h : MsgL b0 T v W) : MsgO b0 T v W := by
  obtain ⟨L, h1, h2, h3⟩ := h
  exact ⟨L, h1, h2, fun x hx => (h3 x hx).mono fun g _ hg => hg.2⟩
theorem MsgO.calls {b0 : Nat} {T : List MsgT} {v : Value} {W W' : World} (h : MsgO b0 T v W) (hb : Below W.heap.size W W') : MsgO b0 T v W' := by
  obtain ⟨L, h1, h2, h3⟩ := h
  exact ⟨L, h1, own2_below h2 hb, fun x hx => (h3 x hx).keep (kp_below (X := fun _ => False) hb) (fun g _ h => h)⟩
theorem MsgO.slm {b0 : Nat} {T : List MsgT} {v : Value} {W : World} (h : MsgO b0 T v W) : SlM T v W := by
  obtain ⟨L, h1, h2, h3⟩ := h
  obtain ⟨a, c, e, r1, r2, _, r3⟩ := own2_rdc h2
  exact ⟨L, a, c, e, h1, fun x hx => (h3 x hx).clo, r1, r2, r3⟩
theorem MsgO.own {b0 : Nat} {T : List MsgT} {v : Value} {W : World} (h : MsgO b0 T v W) : ∀ k, v.ownBlock = some k → b0 ≤ k ∧ k < W.heap.size := by
  obtain ⟨L, h1, h2, h3⟩ := h
  exact h2.lt
theorem MsgL.slma {P : Nat → Prop} {b0 : Nat} {T : List MsgT} {v : Value} {W : World} (h : MsgL b0 T v W) (hP : ∀ k, b0 ≤ k → k < W.heap.size → P k) : SlMA P T v W := by
  obtain ⟨L, h1, h2, h3⟩ := h
  obtain ⟨a, c, e, r1, r2, _, r3⟩ := own2_rdco (P := P) h2 (fun k hk => hP k (h2.lt k hk).1 (h2.lt k hk).2)
  exact ⟨L, a, c, e, h1, fun x hx => (h3 x hx).mono fun g hg hk => hP g hk.1 hg, r1, r2, r3⟩
theorem RdC.news {W : World} {ad : Addr} {cs : List Value} (h : RdC W (some ad) cs) : ∀ j u, cs[j]? = some u → W.cell? (ad.add j) = some u := by
  intro j u hu
  rcases h with h | ⟨g, o, h1, h2, h3⟩
  · rw [h] at hu; cases hu
  · injection h1 with h1
    subst h1
    rw [Addr.add_mid]
    exact h3 j u hu
theorem msgCs_one (L : List (MsgT × Value)) (h : ∀ x ∈ L, ∃ a n c, x.2 = .slice a n c) : ∀ u ∈ msgCs L, u.oneCell' = true := by
  intro u hu
  obtain ⟨x, hx, hu⟩ := List.mem_flatMap.1 hu
  obtain ⟨a, n, c, e⟩ := h x hx
  rw [e] at hu
  rcases List.mem_cons.1 hu with rfl | hu
  · rfl
  · obtain rfl := List.mem_singleton.1 hu
    rfl
/-- 'append(v, l...)' of messages. -/
theorem wl_appM {w : World} {ops : Array Oper} {rest : List Oper} {o : Oper} {a : Act} {Q : Exit → Act → World → Prop} {b0 : Nat} {T1 T2 : List MsgT} {v v2 : Value} (h1 : MsgO b0 T1 v w) (h2 : SlMA (fun k => some k ≠ v.ownBlock) T2 v2 w)
    (hgd : o.guard = none) (s x : Operand) (ho : o.op = .call { callee := .builtin .append, args := #[s, x], argTypes := #[39, 39] }) (hs : a.eval s = v) (hx : a.eval x = v2) (hn : T1.length + T2.length ≤ 1000000) (hbase : b0 ≤ w.heap.size)
    (k : ∀ v' w', MsgO b0 (T1 ++ T2) v' w' → w.grownBy w' v.ownBlock → (v'.ownBlock = v.ownBlock ∨ v'.ownBlock = some w.heap.size) → wpList Tryd.prog ops Q rest (a.put o.dst v') w') : wpList Tryd.prog ops Q (o :: rest) a w := by
  obtain ⟨iM, hi, hz0, hz1, hz2⟩ := info_parts (show (Tryd.prog.info? 32).map (fun i => (i.zero, i.size, i.bytes)) = some (some (.agg #[.string ⟨#[]⟩, .slice none 0 0]), 2, 40) by kernel_rfl)
  obtain ⟨L1, p1, p2, p3⟩ := h1
  obtain ⟨L2, a2, c2, rfl, q1, q2, q3, _, q4⟩ := h2
  have hL2 : L2.length = T2.length := by rw [← q1, List.length_map]
  cases a2 with
  | none =>
    obtain ⟨h5, h6⟩ := q4 rfl
    have hT2 : T2 = [] := List.length_eq_zero_iff.1 h5
    subst hT2
    subst h6
    exact wpList_append_own_none hgd s x _ ho b0 32 iM 2 Tryd.underlying39 hi v T1.length _ hs p2 hx (k v w ⟨L1, by rw [p1, List.append_nil], by rw [List.append_nil]; exact p2, p3⟩ ⟨rfl, rfl, rfl, Nat.le_refl _, fun _ _ _ => rfl⟩ (.inl rfl))
  | some ad =>
    refine wpList_append_own_at w hgd s x _ ho b0 32 iM (.agg #[.string ⟨#[]⟩, .slice none 0 0]) 2 40 Tryd.underlying39 hi hz0 hz1 hz2 rfl (by omega) v T1.length (msgCs L1) hs p2 ad T2.length c2 (msgCs L2) hx (by rw [msgCs_length, hL2]) q3.rdc.news (msgCs_one L2 fun y hy => by obtain ⟨a, c, e, _⟩ := q2 y hy; exact ⟨_, _, _, e⟩) (by unfold maxLen; omega) (by omega) hbase fun v' w' h3 h4 h5 h6 => ?_
    have keep : ∀ l u, SlO (fun k => some k ≠ v.ownBlock) l u w → SlO (fun k => some k ≠ v'.ownBlock) l u w' := fun l u h => by
      have h' : SlO (fun k => some k ≠ v.ownBlock ∧ k < w.heap.size) l u w := h.mono fun g hg ho => ⟨ho, hg⟩
      refine (h'.keep (kp_grown h4) fun g hg => hg.1).mono fun g _ hg => ?_
      rcases h6 with e | e
      · rw [e]; exact hg.1
      · rw [e]; intro h; injection h with h; omega
    refine k v' w' ⟨L1 ++ L2, by rw [List.map_append, p1, q1], ?_, fun y hy => ?_⟩ h4 h6
    · rw [List.length_append]
      have e : msgCs (L1 ++ L2) = msgCs L1 ++ msgCs L2 := by unfold msgCs; rw [List.flatMap_append]
      rw [e]
      exact h3
    · rcases List.mem_append.1 hy with hy | hy
      · exact keep _ _ (p3 y hy)
      · exact keep _ _ (q2 y hy)
theorem Keeps_slm (T : List MsgT) : Keeps (SlM T) := fun u w1 w2 h hb => h.calls hb
theorem msgs_ex (T : List MsgT) (v : Value) (hn : T.length ≤ 1000000) (w : World) (h : SlM T v w) :
    Calls Tryd.prog 19 #[v] w fun e w' => ∃ u, e = .returned u ∧ Below w.heap.size w w' ∧ SlM T u w' := by
  obtain ⟨L, a, c, rfl, h'⟩ := h
  exact msgs_any T a _ c hn w ⟨L, a, c, rfl, h'⟩
theorem Msgs_true (T : List MsgT) (u1 u2 : Value) (hn : T.length ≤ 1000000) (w : World) (h1 : SlM T u1 w) (h2 : SlM T u2 w) :
    Calls Tryd.prog 18 #[u1, u2] w fun e w' => e = .returned (.bool true) ∧ Below w.heap.size w w' := by
  obtain ⟨L, a, c, rfl, h1'⟩ := h1
  obtain ⟨L', a', c', rfl, h2'⟩ := h2
  refine (Msgs_any T T a _ c a' _ c' (by omega) (by omega) w ⟨L, a, c, rfl, h1'⟩ ⟨L', a', c', rfl, h2'⟩).mono fun e w' h => ?_
  rw [decide_eq_true rfl] at h
  exact h
end Go.Proofs.YticiipddilabfaaDoor

namespace Go.Proofs.YticiipddilabfaaDoor
open Go.RowKit
set_option linter.unusedVariables false
theorem sumM_length (T : List MsgT) : T.length ≤ sumM T := by
  induction T with
  | nil => exact Nat.zero_le _
  | cons x T ih => simp only [sumM, List.length_cons]; omega
/-- A stream's cells. -/
abbrev bufA (magic K : Nat) (a : Option Addr) (n c : Nat) (d : Int) : Array Value := #[.int .u32 magic, .int .i64 (K : Nat), .slice a n c, .int .i64 d]
/-- What feeding hands back: the stream (its rest of n bytes at a, room c), the messages at va, room vc. -/
structure FedW (w0 : World) (magic K : Nat) (T : List MsgT) (l : List UInt8) (a : Option Addr) (c : Nat) (va : Option Addr) (vc : Nat) (w : World) : Prop where
  rd : RdS w a l
  le : l.length ≤ c
  mx : c ≤ maxLen
  no : a = none → l.length = 0 ∧ c = 0
  ms : ∃ b0, w0.heap.size ≤ b0 ∧ MsgL b0 T (.slice va T.length vc) w
  ne : SlO (fun g => w0.heap.size ≤ g ∧ some g ≠ (Value.slice va T.length vc).ownBlock) l (.slice a l.length c) w
theorem FedW.calls {w0 w w' : World} {magic K : Nat} {T : List MsgT} {l : List UInt8} {a : Option Addr} {c : Nat} {va : Option Addr} {vc : Nat} (h : FedW w0 magic K T l a c va vc w) (hb : Below w.heap.size w w') : FedW w0 magic K T l a c va vc w' := by
  obtain ⟨b0, h1, h2⟩ := h.ms
  exact ⟨h.rd.calls hb, h.le, h.mx, h.no, ⟨b0, h1, h2.keep (kp_below (X := fun _ => False) hb) (fun g _ h => h)⟩, h.ne.keep (kp_below (X := fun _ => False) hb) (fun g _ h => h)⟩
theorem FedW.own {w0 w : World} {magic K : Nat} {T : List MsgT} {l : List UInt8} {a : Option Addr} {c : Nat} {va : Option Addr} {vc : Nat} (h : FedW w0 magic K T l a c va vc w) : ∀ k, (Value.slice va T.length vc).ownBlock = some k → w0.heap.size ≤ k ∧ k < w.heap.size := by
  obtain ⟨b0, h1, L, _, q2, _⟩ := h.ms
  exact fun k hk => ⟨Nat.le_trans h1 (q2.lt k hk).1, (q2.lt k hk).2⟩
theorem FedW.msgO {w0 w : World} {magic K : Nat} {T : List MsgT} {l : List UInt8} {a : Option Addr} {c : Nat} {va : Option Addr} {vc : Nat} (h : FedW w0 magic K T l a c va vc w) {B : Nat} (hB : B ≤ w0.heap.size) : MsgO B T (.slice va T.length vc) w := by
  obtain ⟨b0, h1, h2⟩ := h.ms
  obtain ⟨L, p1, p2, p3⟩ := h2.msgO
  exact ⟨L, p1, own_from p2 (Nat.le_trans hB h1), p3⟩
/-- What is told lies in blocks of a class. -/
theorem FedW.slma {P : Nat → Prop} {w0 w : World} {magic K : Nat} {T : List MsgT} {l : List UInt8} {a : Option Addr} {c : Nat} {va : Option Addr} {vc : Nat} (h : FedW w0 magic K T l a c va vc w) (hP : ∀ k, w0.heap.size ≤ k → k < w.heap.size → P k) : SlMA P T (.slice va T.length vc) w := by
  obtain ⟨b0, h1, h2⟩ := h.ms
  exact h2.slma fun k hk hl => hP k (Nat.le_trans h1 hk) hl
theorem FedW.slo {P : Nat → Prop} {w0 w : World} {magic K : Nat} {T : List MsgT} {l : List UInt8} {a : Option Addr} {c : Nat} {va : Option Addr} {vc : Nat} (h : FedW w0 magic K T l a c va vc w) (hP : ∀ k, w0.heap.size ≤ k → k < w.heap.size → some k ≠ (Value.slice va T.length vc).ownBlock → P k) : SlO P l (.slice a l.length c) w :=
  h.ne.mono fun g hg hk => hP g hk.1 hg hk.2
theorem Feed_w (magic : Nat) (hm : magic < 4294967296) (K : Nat) (hK : K ≤ 4000000) (bad : Int) (ar : Option Addr) (nr cr : Nat) (rest : List UInt8) (ac : Option Addr) (nc cc : Nat) (cs : List UInt8)
    (hl1 : rest.length = nr) (hl2 : cs.length = nc) (hr1 : nr ≤ cr) (hr2 : cr ≤ 9223372036854775807) (hc1 : nc ≤ cc) (hc2 : cc ≤ 9223372036854775807) (hn1 : nr ≤ 1000000) (hn2 : nc ≤ 1000000)
    (hno1 : ar = none → nr = 0 ∧ cr = 0) (hno2 : ac = none → nc = 0 ∧ cc = 0) (w : World) (hR1 : RdS w ar rest) (hR2 : RdS w ac cs) (hL : Laid w) (T : List MsgT) (l : List UInt8) (d : Int) (n : Nat) (hn : l.length = n) (hr : feedF magic (K : Int) rest bad cs = (T, l, d)) :
    Calls Tryd.prog 13 #[.agg #[.int .u32 magic, .int .i64 (K : Nat), .slice ar nr cr, .int .i64 bad], .slice ac nc cc] w fun e w' => ∃ a c va vc, e = .returned (.tuple #[.agg (bufA magic K a n c d), .slice va T.length vc]) ∧ Below w.heap.size w w' ∧ FedW w magic K T l a c va vc w' := by
  subst hn
  refine (Feed_any magic hm K bad ar nr cr rest ac nc cc cs hl1 hl2 hr1 hr2 hc1 hc2 hn1 hn2 hno1 hno2 w hR1 hR2 hL).mono ?_
  rintro e w' ⟨v, rfl, hb, hv⟩
  rw [hr, capN_same K hK] at hv
  obtain ⟨u, vl, b0, rfl, hu, hms, hb0, hne⟩ := hv
  obtain ⟨a, c, rfl, h1, h2, h3, h4⟩ := hu
  obtain ⟨va, vc, rfl⟩ : ∃ va vc, vl = .slice va T.length vc := by
    obtain ⟨L, _, q2, _⟩ := hms
    exact own2_slice q2
  exact ⟨a, c, va, vc, rfl, hb, ⟨h1, h2, h3, h4, ⟨b0, hb0, hms⟩, hne⟩⟩
end Go.Proofs.YticiipddilabfaaDoor

namespace Go.Proofs.YticiipddilabfaaDoor
open Go.RowKit
set_option linter.unusedVariables false
section
variable {W W' : World} {v v' : Value}
theorem apart_grown (hg : W.grownBy W' v.ownBlock) (ho : v'.ownBlock = v.ownBlock ∨ v'.ownBlock = some W.heap.size) {g : Nat} (hlt : g < W.heap.size) (h : some g ≠ v.ownBlock) : some g ≠ v'.ownBlock := by
  rcases ho with e | e
  · rw [e]; exact h
  · rw [e]; intro h; injection h with h; omega
theorem SlO.app {l : List UInt8} {u : Value} (h : SlO (fun k => some k ≠ v.ownBlock) l u W) (hg : W.grownBy W' v.ownBlock) (ho : v'.ownBlock = v.ownBlock ∨ v'.ownBlock = some W.heap.size) : SlO (fun k => some k ≠ v'.ownBlock) l u W' := by
  have h' : SlO (fun k => some k ≠ v.ownBlock ∧ k < W.heap.size) l u W := h.mono fun g hg ho => ⟨ho, hg⟩
  exact (h'.keep (kp_grown hg) fun g hg => hg.1).mono fun g _ hk => apart_grown hg ho hk.2 hk.1
theorem SlMA.lt {P : Nat → Prop} {T : List MsgT} {u : Value} {W : World} (h : SlMA P T u W) : SlMA (fun k => P k ∧ k < W.heap.size) T u W := by
  obtain ⟨L, a, c, h1, h2, h3, h4, h5⟩ := h
  refine ⟨L, a, c, h1, h2, fun x hx => (h3 x hx).mono fun g hg ho => ⟨ho, hg⟩, ?_, h5⟩
  rcases h4 with h | ⟨g, o, e1, e2, e3, e4⟩
  · exact .inl h
  · exact .inr ⟨g, o, e1, ⟨e2, e3⟩, e3, e4⟩
theorem SlMA.app {T : List MsgT} {u : Value} (h : SlMA (fun k => some k ≠ v.ownBlock) T u W) (hg : W.grownBy W' v.ownBlock) (ho : v'.ownBlock = v.ownBlock ∨ v'.ownBlock = some W.heap.size) : SlMA (fun k => some k ≠ v'.ownBlock) T u W' :=
  (h.lt.keep (kp_grown hg) fun g hg => hg.1).mono fun g hk => apart_grown hg ho hk.2 hk.1
/-- A block apart. -/
def BlkO (v : Value) (W : World) (g : Nat) (t : TypeId) (cs : Array Value) : Prop := some g ≠ v.ownBlock ∧ Blk W g t cs
theorem BlkO.app {g : Nat} {t : TypeId} {cs : Array Value} (h : BlkO v W g t cs) (hg : W.grownBy W' v.ownBlock) (ho : v'.ownBlock = v.ownBlock ∨ v'.ownBlock = some W.heap.size) : BlkO v' W' g t cs :=
  ⟨apart_grown hg ho h.2.lt h.1, (kp_grown hg).blk h.2 h.1⟩
theorem SlO.rds {O : Nat → Prop} {l : List UInt8} {a : Option Addr} {n c : Nat} (h : SlO O l (.slice a n c) W) : RdS W a l := by
  obtain ⟨a', c', e, h1, _⟩ := h
  injection e with e1 e2 e3
  subst e1
  exact h1.rds
end
theorem Sane_true (magic : Nat) (hm : magic < 4294967296) (m bad : Int) (a : Option Addr) (n c : Nat) (l : List UInt8) (hl : l.length = n) (hc : n ≤ c) (hc2 : n ≤ 140737488355328 ∧ c ≤ 9223372036854775807) (hno : a = none → n = 0 ∧ c = 0) (hs : saneF magic m l bad = true) (w : World) (hr : RdS w a l) (hL : Laid w) :
    Calls Tryd.prog 20 #[.agg #[.int .u32 magic, .int .i64 m, .slice a n c, .int .i64 bad]] w fun e w' => e = .returned (.bool true) ∧ Below w.heap.size w w' := by
  have h := FSane_any magic hm m bad a n c l hl hc hc2 hno w hr hL
  rw [hs] at h
  exact h
end Go.Proofs.YticiipddilabfaaDoor

namespace Go.Proofs.YticiipddilabfaaDoor
open Go.RowKit
set_option linter.unusedVariables false
/-- What is told of bytes, whatever stands behind them. -/
def RowF (magic K : Nat) (all : List UInt8) (want : List (List UInt8 × List UInt8)) (bad : Bool) : Prop :=
  (bad = false → ∀ X, feedA magic K (all ++ X) = (want ++ (feedA magic K X).1, (feedA magic K X).2)) ∧ (bad = true → ∀ X, (feedA magic K (all ++ X)).1 = want ∧ (feedA magic K (all ++ X)).2.2 = 3)
theorem rowF_nil (magic K : Nat) : RowF magic K [] [] false := ⟨fun _ X => by simp, fun h => by cases h⟩
section
variable {magic K : Nat} (hK : K ≤ 4000000) {all : List UInt8} {want : List (List UInt8 × List UInt8)} {c p : List UInt8} (hc : cmdOk c = true)
theorem rowF_good (h : RowF magic K all want false) (hc : cmdOk c = true) (hp : p.length ≤ K) (hK : K ≤ 4000000) : RowF magic K (all ++ (headOf magic c p ++ p)) (want ++ [(c, p)]) false := by
  refine ⟨fun _ X => ?_, fun h => by cases h⟩
  rw [List.append_assoc, h.1 rfl, feedA_put X hc hp hK]
  simp
theorem rowF_big (h : RowF magic K all want false) (hc : cmdOk c = true) (hp : K < p.length) (hn : p.length < 4294967296) : RowF magic K (all ++ (headOf magic c p ++ p)) want true := by
  refine ⟨fun h => (by cases h), fun _ X => ?_⟩
  rw [List.append_assoc, h.1 rfl, feedA_big X hc hp hn]
  simp
theorem rowF_bad {b : List UInt8} (h : RowF magic K all want true) : RowF magic K (all ++ b) want true := by
  refine ⟨fun h => (by cases h), fun _ X => ?_⟩
  rw [List.append_assoc]
  exact h.2 rfl _
end
theorem rowF_end {magic K : Nat} {all : List UInt8} {want : List (List UInt8 × List UInt8)} {bad : Bool} (h : RowF magic K all want bad) : fedA magic K all = (want, [], if bad = true then 3 else 0) := by
  unfold fedA
  cases bad
  · have h1 := h.1 rfl []
    rw [List.append_nil, feedA_nil] at h1
    rw [h1]
    simp
  · have h1 := h.2 rfl []
    rw [List.append_nil] at h1
    rw [h1.1, h1.2]
    simp
theorem rowF_endF {magic K : Nat} {all : List UInt8} {want : List (List UInt8 × List UInt8)} (h : RowF magic K all want false) : fedA magic K all = (want, [], 0) := rowF_end h
theorem rowF_endT {magic K : Nat} {all : List UInt8} {want : List (List UInt8 × List UInt8)} (h : RowF magic K all want true) : fedA magic K all = (want, [], 3) := rowF_end h
theorem putE_bad {c p : List UInt8} (h : cmdOk c = false) : putE c p = 2 := by unfold putE; rw [h]; rfl
theorem putE_good {c p : List UInt8} (h : cmdOk c = true) (hp : p.length ≤ 4000000) : putE c p = 0 := by unfold putE; rw [if_pos h, if_pos hp]
theorem putL_good {magic : Nat} {c p : List UInt8} (h : cmdOk c = true) (hp : p.length ≤ 4000000) : putL magic c p = headOf magic c p ++ p := by unfold putL; rw [if_pos (putE_good h hp)]
theorem put_length {magic : Nat} {c p : List UInt8} (h : cmdOk c = true) : (headOf magic c p ++ p).length = 24 + p.length := by
  rw [headOf_eq, List.length_append, headS_length (cmdOk_len h) (by rw [List.length_take, dbl_length]; rfl)]
end Go.Proofs.YticiipddilabfaaDoor

namespace Go.Proofs.YticiipddilabfaaDoor
open Go.RowKit
set_option linter.unusedVariables false
theorem own1_below {w w' : World} {base : Nat} {e : TypeId} {v : Value} {n : Nat} {xs : List Value} (h : w.ownsRow base e 1 v n xs) (hb : Below w.heap.size w w') : w'.ownsRow base e 1 v n xs :=
  h.kept (row := none) ⟨hb.os, hb.tape, hb.output, hb.size, fun k hk _ => hb.block k hk⟩ (by cases hv : v.ownBlock <;> simp)
/-- Two rows lie apart. -/
def Ap (v u : Value) : Prop := ∀ k, v.ownBlock = some k → u.ownBlock ≠ some k
theorem Ap.nil (u : Value) : Ap (.slice none 0 0) u := fun k h => by cases h
theorem Ap.symm {v u : Value} (h : Ap v u) : Ap u v := fun k h1 h2 => h k h2 h1
theorem Ap.grow {v v' u : Value} {W : World} {b : Nat} (h : Ap v u) (ho : v'.ownBlock = v.ownBlock ∨ v'.ownBlock = some W.heap.size) (hu : ∀ k, u.ownBlock = some k → b ≤ k ∧ k < W.heap.size) : Ap v' u := fun k h1 h2 => by
  rcases ho with e | e
  · exact h k (e ▸ h1) h2
  · rw [e] at h1
    injection h1 with h1
    have := (hu k h2).2
    omega
theorem Ap.ne {v u : Value} (h : Ap v u) : u.ownBlock = none ∨ u.ownBlock ≠ v.ownBlock := by
  cases hu : u.ownBlock with
  | none => exact .inl rfl
  | some k =>
    refine .inr fun e => ?_
    exact h k e.symm hu
/-- 'append(v, l...)' of bytes; where the row lies. -/
theorem wl_appB {P : Program} {w : World} {ops : Array Oper} {rest : List Oper} {o : Oper} {a : Act} {Q : Exit → Act → World → Prop} {base : Nat} {e : TypeId} {v : Value} {n : Nat} {xs : List UInt8} (hown : w.ownsRow base e 1 v n (xs.map fun c => Value.int .u8 (c.toNat : Int)))
    (hgd : o.guard = none) (s x : Operand) (t : TypeId) (ho : o.op = .call { callee := .builtin .append, args := #[s, x], argTypes := #[t, t] }) (ht : P.underlying t = some (.slice e)) (i : TypeInfo) (hi : P.info? e = some i) (hz : i.zero = some (.int .u8 0)) (h1 : i.size = 1) (hby : i.bytes = 1)
    (hs : a.eval s = v) (a2 : Option Addr) (m c : Nat) (l : List UInt8) (hx : a.eval x = .slice a2 m c) (hr : RdS w a2 l) (hl : l.length = m) (hno : a2 = none → m = 0 ∧ c = 0) (hn : n + m ≤ 140737488355328) (hbase : base ≤ w.heap.size)
    (k : ∀ v' w', w'.ownsRow base e 1 v' (n + m) ((xs ++ l).map fun c => Value.int .u8 (c.toNat : Int)) → w.grownBy w' v.ownBlock → (v'.ownBlock = v.ownBlock ∨ v'.ownBlock = some w.heap.size) → wpList P ops Q rest (a.put o.dst v') w') : wpList P ops Q (o :: rest) a w := by
  cases a2 with
  | none =>
    obtain ⟨h2, h3⟩ := hno rfl
    subst h2 h3
    have hl0 : l = [] := List.length_eq_zero_iff.1 hl
    subst hl0
    exact wpList_append_own_none hgd s x t ho base e i 1 ht hi v n _ hs hown hx (k v w (by rw [List.append_nil]; exact hown) ⟨rfl, rfl, rfl, Nat.le_refl _, fun _ _ _ => rfl⟩ (.inl rfl))
  | some ad =>
    refine wpList_append_own_at w hgd s x t ho base e i (.int .u8 0) 1 1 ht hi hz h1 hby rfl (by omega) v n _ hs hown ad m c (l.map fun c => Value.int .u8 (c.toNat : Int)) hx (by rw [List.length_map, hl, Nat.mul_one]) (fun j u hu => rd_news hr j u hu) (one_news l) (by unfold maxLen; omega) (by omega) hbase fun v' w' h2 h3 h4 h5 => ?_
    rw [List.map_append] at k
    exact k v' w' h2 h3 h5
/-- A row of the document's messages, the call's own; its payloads stand in the world w0. -/
def WantO (w0 : World) (b0 : Nat) (T : List MsgT) (v : Value) (W : World) : Prop :=
  ∃ L : List (MsgT × Value), L.map (·.1) = T ∧ W.ownsRow b0 25 2 v T.length (msgCs L) ∧ ∀ x ∈ L, CloV x.1.2 x.2 w0
theorem WantO.nil (w0 : World) (b0 : Nat) (W : World) : WantO w0 b0 [] (.slice none 0 0) W := ⟨[], rfl, World.ownsRow_nil _ _ _ _, fun x h => by cases h⟩
theorem WantO.below {w0 : World} {b0 : Nat} {T : List MsgT} {v : Value} {W W' : World} (h : WantO w0 b0 T v W) (hb : Below W.heap.size W W') : WantO w0 b0 T v W' := by
  obtain ⟨L, h1, h2, h3⟩ := h
  exact ⟨L, h1, own2_below h2 hb, h3⟩
theorem WantO.grown {w0 : World} {b0 : Nat} {T : List MsgT} {v u : Value} {W W' : World} (h : WantO w0 b0 T v W) (hg : W.grownBy W' u.ownBlock) (ha : Ap u v) : WantO w0 b0 T v W' := by
  obtain ⟨L, h1, h2, h3⟩ := h
  exact ⟨L, h1, h2.kept hg ha.ne, h3⟩
theorem WantO.own {w0 : World} {b0 : Nat} {T : List MsgT} {v : Value} {W : World} (h : WantO w0 b0 T v W) : ∀ k, v.ownBlock = some k → b0 ≤ k ∧ k < W.heap.size := by
  obtain ⟨L, h1, h2, h3⟩ := h
  exact h2.lt
theorem WantO.slm {w0 : World} {b0 : Nat} {T : List MsgT} {v : Value} {W : World} (h : WantO w0 b0 T v W) (hb : Below w0.heap.size w0 W) : SlM T v W := by
  obtain ⟨L, h1, h2, h3⟩ := h
  obtain ⟨a, c, e, r1, r2, _, r3⟩ := own2_rdc h2
  exact ⟨L, a, c, e, h1, fun x hx => (h3 x hx).keep hb, r1, r2, r3⟩
theorem WantO.slice {w0 : World} {b0 : Nat} {T : List MsgT} {v : Value} {W : World} (h : WantO w0 b0 T v W) : ∃ a c, v = .slice a T.length c := by
  obtain ⟨L, h1, h2, h3⟩ := h
  exact own2_slice h2
set_option maxRecDepth 100000 in
/-- 'append(v, m)' of one message of the document's. -/
theorem wl_appW {w : World} {ops : Array Oper} {rest : List Oper} {o : Oper} {a : Act} {Q : Exit → Act → World → Prop} {w0 : World} {b0 : Nat} {T : List MsgT} {v : Value} (h1 : WantO w0 b0 T v w) {g : Nat} {c q : List UInt8} {p : Option Addr} {m d : Nat} (hb : Blk w g 25 #[.string (bstr c), .slice p m d]) (hq : CloV q (.slice p m d) w0)
    (hgd : o.guard = none) (s x : Operand) (ho : o.op = .call { callee := .builtin .append, args := #[s, x], argTypes := #[43, 43] }) (hs : a.eval s = v) (hx : a.eval x = .slice (some ⟨g, 0, none⟩) 1 1) (hn : T.length ≤ 1000000) (hbase : b0 ≤ w.heap.size)
    (k : ∀ v' w', WantO w0 b0 (T ++ [(c, q)]) v' w' → w.grownBy w' v.ownBlock → (v'.ownBlock = v.ownBlock ∨ v'.ownBlock = some w.heap.size) → wpList Tryd.prog ops Q rest (a.put o.dst v') w') : wpList Tryd.prog ops Q (o :: rest) a w := by
  obtain ⟨iM, hi, hz0, hz1, hz2⟩ := info_parts (show (Tryd.prog.info? 25).map (fun i => (i.zero, i.size, i.bytes)) = some (some (.agg #[.string ⟨#[]⟩, .slice none 0 0]), 2, 40) by kernel_rfl)
  obtain ⟨L1, p1, p2, p3⟩ := h1
  refine wpList_append_own_at w hgd s x _ ho b0 25 iM (.agg #[.string ⟨#[]⟩, .slice none 0 0]) 2 40 Tryd.underlying43 hi hz0 hz1 hz2 rfl (by omega) v T.length (msgCs L1) hs p2 ⟨g, 0, none⟩ 1 1 [.string (bstr c), .slice p m d] hx rfl (fun jj u hu => by
    match jj with
    | 0 => injection hu with hu; subst hu; exact blk_get hb 0 _ rfl
    | 1 => injection hu with hu; subst hu; exact blk_get hb 1 _ rfl
    | jj + 2 => cases hu) (by simp [Value.oneCell']) (by unfold maxLen; omega) (by omega) hbase fun v' w' h3 h4 h5 h6 => ?_
  refine k v' w' ⟨L1 ++ [((c, q), .slice p m d)], by rw [List.map_append, p1]; rfl, ?_, fun y hy => ?_⟩ h4 h6
  · rw [List.length_append]
    have e : msgCs (L1 ++ [((c, q), .slice p m d)]) = msgCs L1 ++ [.string (bstr c), .slice p m d] := by unfold msgCs; rw [List.flatMap_append]; rfl
    rw [e]
    exact h3
  · rcases List.mem_append.1 hy with hy | hy
    · exact p3 y hy
    · obtain rfl := List.mem_singleton.1 hy
      exact hq
theorem op_bldF {Q : Exit → Act → World → Prop} {o : Oper} {A : Act} {w : World} (S : ByteArray) (p : Option Addr) (m d : Nat) (x y : Operand) (ho : o.op = .build 32 #[(0, x), (1, y)]) (hx : A.eval x = .string S) (hy : A.eval y = .slice p m d) :
    o.wp Tryd.prog A w (fun a' w'' => a' = A.put o.dst (.agg #[.string S, .slice p m d]) ∧ Below w.heap.size w w'') Q := by
  have hbu : (Instr.build 32 #[(0, .string S), (1, .slice p m d)]).run Tryd.prog w = .ok (.agg #[.string S, .slice p m d]) w := by kernel_rfl
  refine op_run ?_
  unfold execOp
  generalize A.eval = ρ at *
  simp only [ho]
  simp [hx, hy, go_sem]
/-- What Put hands back. -/
def PutP (E : Nat) (l : List UInt8) (u : Value) (w : World) : Prop := ∃ v, u = .tuple #[v, .int .i64 (E : Nat)] ∧ CloV l v w
theorem PutP.keep (E : Nat) (l : List UInt8) : Keeps (PutP E l) := fun u w1 w2 h hb => by
  obtain ⟨v, h1, h2⟩ := h
  exact ⟨v, h1, h2.keep hb⟩
theorem clo_keeps (l : List UInt8) : Keeps (CloV l) := fun u w1 w2 h hb => h.keep hb
theorem Put_ex (magic : Nat) (hm : magic < 4294967296) (cm : List UInt8) (hc : cm.length ≤ 9223372036854775807) (a : Option Addr) (n c : Nat) (p : List UInt8) (hl : p.length = n) (hn : n ≤ c) (hc2 : n ≤ 1000000 ∧ c ≤ 9223372036854775807) (hno : a = none → n = 0 ∧ c = 0) (E : Nat) (l : List UInt8) (hE : putE cm p = E) (hl2 : putL magic cm p = l) (w : World) (hr : RdS w a p) (hL : Laid w) :
    Calls Tryd.prog 9 #[.int .u32 magic, .agg #[.string (bstr cm), .slice a n c]] w fun e w' => ∃ u, e = .returned u ∧ Below w.heap.size w w' ∧ PutP E l u w' := by
  subst hE hl2
  refine (Put_any magic hm cm hc a n c p hl hn hc2 hno w hr hL).mono ?_
  rintro e w' ⟨u, rfl, hb, hu⟩
  exact ⟨_, rfl, hb, u, rfl, hu⟩
end Go.Proofs.YticiipddilabfaaDoor

namespace Go.Proofs.YticiipddilabfaaDoor
open Go.RowKit
set_option linter.unusedVariables false
section
variable {magic : Nat} {c p : List UInt8}
theorem back_yes (more : List UInt8) (hc : cmdOk c = true) (hp : p.length ≤ 4000000) : getG magic p.length ((headOf magic c p ++ p) ++ more) = .yes c p := getG_put more hc (Nat.le_refl _) hp
theorem back_short (hc : cmdOk c = true) (hp : p.length ≤ 4000000) {q : Nat} (hq : q < (headOf magic c p ++ p).length) : getG magic p.length ((headOf magic c p ++ p).take q) = .no 1 := by
  have h := back_yes (magic := magic) [] hc hp
  rw [List.append_nil] at h
  exact getG_begin h (put_length hc) hq
theorem back_big (more : List UInt8) (hc : cmdOk c = true) (hp : p.length ≤ 4000000) (h1 : p.length ≠ 0) : getG magic (p.length - 1) ((headOf magic c p ++ p) ++ more) = .no 3 := getG_big more hc (by omega) (by omega)
theorem set_drop_head (pre s r : List UInt8) (i : Nat) (z : UInt8) (h1 : pre.length ≤ i) (h2 : i < pre.length + s.length) : (pre ++ (s ++ r)).set i z = pre ++ (s.set (i - pre.length) z ++ r) := by
  rw [List.set_append_right _ _ h1, List.set_append_left _ _ (by omega)]
theorem back_sum (hc : cmdOk c = true) (hp : p.length ≤ 4000000) {i : Nat} {z : UInt8} (h1 : 20 ≤ i) (h2 : i < 24) (hz : z ≠ (headOf magic c p ++ p).getD i 0) : getG magic p.length ((headOf magic c p ++ p).set i z) = .no 4 := by
  obtain ⟨s4, hs⟩ : ∃ s, s = (dbl p).take 4 := ⟨_, rfl⟩
  have hs4 : s4.length = 4 := by rw [hs, List.length_take, dbl_length]; rfl
  have hl : (le4 magic ++ (cmd12 c ++ le4 p.length)).length = 20 := by simp only [List.length_append, le4_length, cmd12_len (cmdOk_len hc)]
  have e : headOf magic c p ++ p = (le4 magic ++ (cmd12 c ++ le4 p.length)) ++ (s4 ++ p) := by rw [headOf_eq, ← hs]; unfold headS; simp only [List.append_assoc]
  have e2 : (headOf magic c p ++ p).set i z = headS magic c p.length (s4.set (i - 20) z) ++ p := by
    rw [e, set_drop_head _ _ _ _ _ (by omega) (by omega), hl]
    unfold headS
    simp only [List.append_assoc]
  have hget : (headOf magic c p ++ p).getD i 0 = s4.getD (i - 20) 0 := by
    rw [e]
    simp only [List.getD]
    rw [List.getElem?_append_right (by omega), hl, List.getElem?_append_left (by omega)]
  rw [e2, getG_head p hc (by rw [List.length_set]; exact hs4) (by omega), if_neg (Nat.lt_irrefl _), if_neg (Nat.lt_irrefl _), List.take_of_length_le (Nat.le_refl _), ← hs, if_pos]
  intro h
  apply hz
  rw [hget, h]
  simp only [List.getD]
  rw [List.getElem?_set_self (by omega)]
  rfl
end
theorem and_mask (n : Int) (m : Nat) (hm : m ≤ 16) : bits .and .i64 n ((2 ^ m - 1 : Nat) : Int) = ((n % (2 ^ m : Nat)).toNat : Int) := by
  show IntKind.i64.wrap ((BitVec.ofInt 64 n &&& BitVec.ofInt 64 ((2 ^ m - 1 : Nat) : Int)).toNat : Int) = _
  have hp : 2 ^ m ≤ 65536 := by
    have := Nat.pow_le_pow_right (show 0 < 2 by decide) hm
    simpa using this
  have hp1 : 1 ≤ 2 ^ m := Nat.one_le_two_pow
  have hd : (2 ^ m) ∣ 2 ^ 64 := Nat.pow_dvd_pow 2 (by omega)
  have e1 : (BitVec.ofInt 64 ((2 ^ m - 1 : Nat) : Int)).toNat = 2 ^ m - 1 := by
    rw [BitVec.toNat_ofInt]
    omega
  rw [BitVec.toNat_and, e1]
  have e2 : (BitVec.ofInt 64 n).toNat = (n % 2 ^ 64).toNat := BitVec.toNat_ofInt n
  rw [e2, Nat.and_two_pow_sub_one_eq_mod]
  have e4 : (n % 2 ^ 64).toNat % 2 ^ m = (n % (2 ^ m : Nat)).toNat := by
    have h1 : ((n % 2 ^ 64).toNat : Int) = n % 2 ^ 64 := Int.toNat_of_nonneg (Int.emod_nonneg _ (by decide))
    have h2 : ((n % (2 ^ m : Nat)).toNat : Int) = n % (2 ^ m : Nat) := Int.toNat_of_nonneg (Int.emod_nonneg _ (by omega))
    apply Int.ofNat.inj
    show (((n % 2 ^ 64).toNat % 2 ^ m : Nat) : Int) = ((n % (2 ^ m : Nat)).toNat : Int)
    rw [h2, Int.natCast_emod, h1]
    exact Int.emod_emod_of_dvd n (by exact_mod_cast hd)
  rw [e4]
  have h3 : (n % (2 ^ m : Nat)).toNat < 65536 := by
    have := Int.emod_lt_of_pos n (show (0 : Int) < (2 ^ m : Nat) by omega)
    have := Int.emod_nonneg n (show ((2 ^ m : Nat) : Int) ≠ 0 by omega)
    omega
  generalize (n % (2 ^ m : Nat)).toNat = r at *
  clear e4 e2 e1 hd hp1 hp
  simp [IntKind.wrap, IntKind.signed, IntKind.bits]
  omega
theorem and65535 (n : Int) : ∃ k : Nat, bits .and .i64 n 65535 = (k : Int) ∧ k < 65536 := ⟨_, and_mask n 16 (by decide), by
  have := Int.emod_lt_of_pos n (show (0 : Int) < (2 ^ 16 : Nat) by decide)
  have := Int.emod_nonneg n (show ((2 ^ 16 : Nat) : Int) ≠ 0 by decide)
  omega⟩
theorem and7 (n : Int) : ∃ k : Nat, bits .and .i64 n 7 = (k : Int) ∧ k < 8 := ⟨_, and_mask n 3 (by decide), by
  have := Int.emod_lt_of_pos n (show (0 : Int) < (2 ^ 3 : Nat) by decide)
  have := Int.emod_nonneg n (show ((2 ^ 3 : Nat) : Int) ≠ 0 by decide)
  omega⟩
set_option maxRecDepth 100000 in
theorem xor_bit (b : UInt8) (s : Nat) (hs : s < 8) : ∃ z : UInt8, bits .xor .u8 (b.toNat : Int) ((2 ^ s : Nat) : Int) = (z.toNat : Int) ∧ z ≠ b := by
  have all : ∀ s : Fin 8, ∀ b : Fin 256, bits .xor .u8 (b.val : Int) ((2 ^ s.val : Nat) : Int) = ((b.val ^^^ 2 ^ s.val : Nat) : Int) ∧ b.val ^^^ 2 ^ s.val ≠ b.val ∧ b.val ^^^ 2 ^ s.val < 256 := by decide +kernel
  obtain ⟨h1, h2, h3⟩ := all ⟨s, hs⟩ ⟨b.toNat, b.toNat_lt⟩
  simp only at h1 h2 h3
  have e : (UInt8.ofNat (b.toNat ^^^ 2 ^ s)).toNat = b.toNat ^^^ 2 ^ s := by
    rw [UInt8.toNat_ofNat']
    exact Nat.mod_eq_of_lt h3
  exact ⟨UInt8.ofNat (b.toNat ^^^ 2 ^ s), by rw [h1, e], fun he => h2 (by rw [← e, he])⟩
/-- A byte of a row is turned. -/
theorem rds_set {W : World} {g i : Nat} {l : List UInt8} {z : UInt8} (h : Rd W g 0 l) (hi : i < l.length) (hg : g < W.heap.size) : RdS (W.setCell ⟨g, i, none⟩ (.int .u8 z.toNat)) (some ⟨g, 0, none⟩) (l.set i z) := by
  refine .inr ⟨g, 0, rfl, by simpa using hg, fun j hj => ?_⟩
  rw [List.length_set] at hj
  by_cases e : j = i
  · subst e
    rw [Nat.zero_add, World.cell?_setCell_same _ _ _ (by have := h j hj; rw [Nat.zero_add] at this; exact this)]
    simp only [List.getD]
    rw [List.getElem?_set_self hj]
    rfl
  · rw [Nat.zero_add, World.cell?_setCell_other _ _ _ _ (by intro h; injection h with _ h; exact e h.symm)]
    have := h j hj
    rw [Nat.zero_add] at this
    rw [this]
    simp only [List.getD]
    rw [List.getElem?_set_ne (fun h => e h.symm)]
theorem own_ne {w : World} {base : Nat} {e : TypeId} {v : Value} {n : Nat} {xs : List Value} (h : w.ownsRow base e 1 v n xs) (hn : n ≠ 0) : ¬ v = .slice none 0 0 := by
  rintro rfl
  rcases h.2 with ⟨_, h0⟩ | ⟨g, cap, cur, hv, _⟩
  · exact hn h0
  · cases hv
theorem Get_no (magic : Nat) (hm : magic < 4294967296) (most : Int) (K : Nat) (hK : capN most = K) (a : Option Addr) (n c : Nat) (l : List UInt8) (hl : l.length = n) (hc : n ≤ c) (hc2 : n ≤ 140737488355328 ∧ c ≤ 9223372036854775807) (hno : a = none → n = 0 ∧ c = 0) (e : Nat) (hg : getG magic K l = .no e) (w : World) (hr : RdS w a l) (hL : Laid w) :
    Calls Tryd.prog 11 #[.int .u32 magic, .int .i64 most, .slice a n c] w fun r w' => r = .returned (.tuple #[.agg #[.string ⟨#[]⟩, .slice none 0 0], .int .i64 0, .int .i64 (e : Nat)]) ∧ Below w.heap.size w w' := by
  refine (Get_any magic hm most a n c l hl hc hc2 hno w hr hL).mono ?_
  rintro r w' ⟨v, rfl, hb, hv⟩
  unfold GetV at hv
  rw [hK, hg] at hv
  exact ⟨by rw [hv], hb⟩
theorem Get_yes (magic : Nat) (hm : magic < 4294967296) (most : Int) (K : Nat) (hK : capN most = K) (a : Option Addr) (n c : Nat) (l : List UInt8) (hl : l.length = n) (hc : n ≤ c) (hc2 : n ≤ 140737488355328 ∧ c ≤ 9223372036854775807) (hno : a = none → n = 0 ∧ c = 0) (cm p : List UInt8) (hg : getG magic K l = .yes cm p) (pl : Nat) (hpl : p.length = pl) (en : Nat) (hen : 24 + p.length = en) (w : World) (hr : RdS w a l) (hL : Laid w) :
    Calls Tryd.prog 11 #[.int .u32 magic, .int .i64 most, .slice a n c] w fun r w' => ∃ pa pc, r = .returned (.tuple #[.agg #[.string (bstr cm), .slice pa pl pc], .int .i64 (en : Nat), .int .i64 0]) ∧ Below w.heap.size w w' ∧ CloV p (.slice pa pl pc) w' := by
  subst hpl hen
  refine (Get_any magic hm most a n c l hl hc hc2 hno w hr hL).mono ?_
  rintro r w' ⟨v, rfl, hb, hv⟩
  unfold GetV at hv
  rw [hK, hg] at hv
  obtain ⟨u, rfl, hu, _⟩ := hv
  obtain ⟨pa, pc, rfl, h2⟩ := hu
  exact ⟨pa, pc, rfl, hb, pa, pc, rfl, h2⟩
theorem Get_ek (magic : Nat) (hm : magic < 4294967296) (most : Int) (K : Nat) (hK : capN most = K) (a : Option Addr) (n c : Nat) (l : List UInt8) (hl : l.length = n) (hc : n ≤ c) (hc2 : n ≤ 140737488355328 ∧ c ≤ 9223372036854775807) (hno : a = none → n = 0 ∧ c = 0) (E : Nat) (hE : ekG (getG magic K l) = E) (w : World) (hr : RdS w a l) (hL : Laid w) :
    Calls Tryd.prog 11 #[.int .u32 magic, .int .i64 most, .slice a n c] w fun r w' => ∃ s pa pn pc y, r = .returned (.tuple #[.agg #[.string s, .slice pa pn pc], .int .i64 (y : Nat), .int .i64 (E : Nat)]) ∧ Below w.heap.size w w' := by
  refine (Get_any magic hm most a n c l hl hc hc2 hno w hr hL).mono ?_
  rintro r w' ⟨v, rfl, hb, hv⟩
  obtain ⟨s, pa, pn, pc, y, e⟩ := hv.ek
  rw [hK, hE] at e
  exact ⟨s, pa, pn, pc, y, by rw [e], hb⟩
section
variable {P : Program} {Q : Exit → Act → World → Prop} {o : Oper} {A : Act} {w : World}
theorem op_remB (t r : TypeId) (x y : Operand) (k : IntKind) (m n s : Int) (ho : o.op = .binOp .rem t x y r) (hx : A.eval x = .int k m) (hy : A.eval y = .int k n) (hn : ¬ n = 0) (hb : Int.tmod m n = s) : o.wp P A w (fun a' w'' => a' = A.put o.dst (.int k s) ∧ Below w.heap.size w w'') Q := by
  refine op_run ?_
  generalize A.eval = ρ at *
  unfold execOp
  subst hb
  simp [ho, hx, hy, eqGuard, binOp, Op.intDiv, hn, go_sem]
end
theorem alloc_runM (A : Act) (o : Oper) (ho : o.op = .alloc 32) (w : World) : (execOp A.eval o).run Tryd.prog w = .ok (.value (.pointer (some ⟨w.heap.size, 0, none⟩))) (w.alloc (.cells #[.string ⟨#[]⟩, .slice none 0 0] 32)) := by
  unfold execOp
  simp only [ho]
  kernel_rfl
end Go.Proofs.YticiipddilabfaaDoor
