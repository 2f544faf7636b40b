/- Rows of messages, one behind the other. A stream is fed: as the laws use it. What stands apart from a row stays where the row grows. FrameCut: the law's walk. -/
import Derived.Maps.AppendAt
import Derived.Laws.AppendOwnNone
import Derived.Test.YticiipddilabfaaDoorCqL
import Derived.Test.YticiipddilabfaaDoorCqK
import Derived.Test.YticiipddilabfaaDoorCqH
import Derived.BigQuiet
namespace Go.Proofs.YticiipddilabfaaDoor
open Go.RowKit
set_option linter.unusedVariables false
/-- A row of messages of the call's own; what it points at lies in other blocks. -/
def MsgO (b0 : Nat) (T : List MsgT) (v : Value) (W : World) : Prop :=
  ∃ L : List (MsgT × Value), L.map (·.1) = T ∧ W.ownsRow b0 32 2 v T.length (msgCs L) ∧ ∀ x ∈ L, SlO (fun k => some k ≠ v.ownBlock) x.1.2 x.2 W
theorem own_from {w : World} {base b2 : Nat} {e : TypeId} {v : Value} {n : Nat} {xs : List Value} (h : w.ownsRow base e 2 v n xs) (hb : b2 ≤ base) : w.ownsRow b2 e 2 v n xs := by
  refine ⟨h.1, ?_⟩
  rcases h.2 with e | ⟨g, cap, cur, hv, hb', rest⟩
  · exact .inl e
  · exact .inr ⟨g, cap, cur, hv, Nat.le_trans hb hb', rest⟩
/-- Cells are read of a block of a class. -/
def RdCO (P : Nat → Prop) (W : World) (a : Option Addr) (cs : List Value) : Prop := cs = [] ∨ ∃ g o, a = some ⟨g, o, none⟩ ∧ P g ∧ g < W.heap.size ∧ ∀ j u, cs[j]? = some u → W.cell? ⟨g, o + j, none⟩ = some u
theorem RdCO.rdc {P : Nat → Prop} {W : World} {a : Option Addr} {cs : List Value} (h : RdCO P W a cs) : RdC W a cs := by
  rcases h with h | ⟨g, o, h1, _, h2, h3⟩
  · exact .inl h
  · exact .inr ⟨g, o, h1, h2, h3⟩
theorem RdCO.keep {P X : Nat → Prop} {W W' : World} {a : Option Addr} {cs : List Value} (h : RdCO P W a cs) (k : Kp X W W') (hx : ∀ g, P g → ¬ X g) : RdCO P W' a cs := by
  rcases h with h | ⟨g, o, h1, hp, h2, h3⟩
  · exact .inl h
  · exact .inr ⟨g, o, h1, hp, Nat.lt_of_lt_of_le h2 k.1, fun j u hu => (World.cell?_of_block (a := ⟨g, o + j, none⟩) (k.2.1 g h2 (hx g hp))).trans (h3 j u hu)⟩
theorem own2_rdco {P : Nat → Prop} {w : World} {base : Nat} {e : TypeId} {v : Value} {n : Nat} {cs : List Value} (h : w.ownsRow base e 2 v n cs) (hP : ∀ k, v.ownBlock = some k → P k) : ∃ a c, v = .slice a n c ∧ RdCO P w a cs ∧ n ≤ c ∧ c ≤ maxLen ∧ (a = none → n = 0 ∧ c = 0) := by
  obtain ⟨h0, ⟨hv, hz⟩ | ⟨g, cap, cur, hv, hb, hg, q1, q2, q3, q4⟩⟩ := h
  · subst hz
    exact ⟨none, 0, hv, .inl (List.length_eq_zero_iff.1 (by omega)), Nat.le_refl _, Nat.zero_le _, fun _ => ⟨rfl, rfl⟩⟩
  · refine ⟨some ⟨g, 0, none⟩, cap, hv, .inr ⟨g, 0, rfl, hP g (by rw [hv]; rfl), (show Blk w g _ cur from hg).lt, fun j u hu => ?_⟩, q1, q2, fun h => by cases h⟩
    rw [Nat.zero_add]
    refine blk_get (show Blk w g _ cur from hg) j _ ?_
    rw [← q4, List.getElem?_take] at hu
    split at hu
    · simpa using hu
    · cases hu
/-- A slice of messages; what it points at lies in blocks of a class. -/
def SlMA (P : Nat → Prop) (T : List MsgT) (v : Value) (W : World) : Prop :=
  ∃ (L : List (MsgT × Value)) (a : Option Addr) (c : Nat), v = .slice a T.length c ∧ L.map (·.1) = T ∧ (∀ x ∈ L, SlO P x.1.2 x.2 W) ∧ RdCO P W a (msgCs L) ∧ T.length ≤ c ∧ (a = none → T.length = 0 ∧ c = 0)
theorem SlMA.keep {P X : Nat → Prop} {T : List MsgT} {v : Value} {W W' : World} (h : SlMA P T v W) (k : Kp X W W') (hx : ∀ g, P g → ¬ X g) : SlMA P T v W' := by
  obtain ⟨L, a, c, h1, h2, h3, h4, h5⟩ := h
  exact ⟨L, a, c, h1, h2, fun x hx' => (h3 x hx').keep k hx, h4.keep k hx, h5⟩
theorem SlMA.slm {P : Nat → Prop} {T : List MsgT} {v : Value} {W : World} (h : SlMA P T v W) : SlM T v W := by
  obtain ⟨L, a, c, h1, h2, h3, h4, h5⟩ := h
  exact ⟨L, a, c, h1, h2, fun x hx => (h3 x hx).clo, h4.rdc, h5⟩
theorem SlMA.mono {P P' : Nat → Prop} {T : List MsgT} {v : Value} {W : World} (h : SlMA P T v W) (hp : ∀ k, P k → P' k) : SlMA P' T v W := by
  obtain ⟨L, a, c, h1, h2, h3, h4, h5⟩ := h
  refine ⟨L, a, c, h1, h2, fun x hx => (h3 x hx).mono fun g _ hg => hp g hg, ?_, h5⟩
  rcases h4 with h | ⟨g, o, e1, e2, e3⟩
  · exact .inl h
  · exact .inr ⟨g, o, e1, hp g e2, e3⟩
theorem MsgL.msgO {b0 : Nat} {T : List MsgT} {v : Value} {W : World} (h : MsgL b0 T v W) : MsgO b0 T v W := by
  obtain ⟨L, h1, h2, h3⟩ := h
  exact ⟨L, h1, h2, fun x hx => (h3 x hx).mono fun g _ hg => hg.2⟩
theorem MsgO.calls {b0 : Nat} {T : List MsgT} {v : Value} {W W' : World} (h : MsgO b0 T v W) (hb : Below W.heap.size W W') : MsgO b0 T v W' := by
  obtain ⟨L, h1, h2, h3⟩ := h
  exact ⟨L, h1, own2_below h2 hb, fun x hx => (h3 x hx).keep (kp_below (X := fun _ => False) hb) (fun g _ h => h)⟩
theorem MsgO.slm {b0 : Nat} {T : List MsgT} {v : Value} {W : World} (h : MsgO b0 T v W) : SlM T v W := by
  obtain ⟨L, h1, h2, h3⟩ := h
  obtain ⟨a, c, e, r1, r2, _, r3⟩ := own2_rdc h2
  exact ⟨L, a, c, e, h1, fun x hx => (h3 x hx).clo, r1, r2, r3⟩
theorem MsgO.own {b0 : Nat} {T : List MsgT} {v : Value} {W : World} (h : MsgO b0 T v W) : ∀ k, v.ownBlock = some k → b0 ≤ k ∧ k < W.heap.size := by
  obtain ⟨L, h1, h2, h3⟩ := h
  exact h2.lt
theorem MsgL.slma {P : Nat → Prop} {b0 : Nat} {T : List MsgT} {v : Value} {W : World} (h : MsgL b0 T v W) (hP : ∀ k, b0 ≤ k → k < W.heap.size → P k) : SlMA P T v W := by
  obtain ⟨L, h1, h2, h3⟩ := h
  obtain ⟨a, c, e, r1, r2, _, r3⟩ := own2_rdco (P := P) h2 (fun k hk => hP k (h2.lt k hk).1 (h2.lt k hk).2)
  exact ⟨L, a, c, e, h1, fun x hx => (h3 x hx).mono fun g hg hk => hP g hk.1 hg, r1, r2, r3⟩
theorem RdC.news {W : World} {ad : Addr} {cs : List Value} (h : RdC W (some ad) cs) : ∀ j u, cs[j]? = some u → W.cell? (ad.add j) = some u := by
  intro j u hu
  rcases h with h | ⟨g, o, h1, h2, h3⟩
  · rw [h] at hu; cases hu
  · injection h1 with h1
    subst h1
    rw [Addr.add_mid]
    exact h3 j u hu
theorem msgCs_one (L : List (MsgT × Value)) (h : ∀ x ∈ L, ∃ a n c, x.2 = .slice a n c) : ∀ u ∈ msgCs L, u.oneCell' = true := by
  intro u hu
  obtain ⟨x, hx, hu⟩ := List.mem_flatMap.1 hu
  obtain ⟨a, n, c, e⟩ := h x hx
  rw [e] at hu
  rcases List.mem_cons.1 hu with rfl | hu
  · rfl
  · obtain rfl := List.mem_singleton.1 hu
    rfl
/-- 'append(v, l...)' of messages. -/
theorem wl_appM {w : World} {ops : Array Oper} {rest : List Oper} {o : Oper} {a : Act} {Q : Exit → Act → World → Prop} {b0 : Nat} {T1 T2 : List MsgT} {v v2 : Value} (h1 : MsgO b0 T1 v w) (h2 : SlMA (fun k => some k ≠ v.ownBlock) T2 v2 w)
    (hgd : o.guard = none) (s x : Operand) (ho : o.op = .call { callee := .builtin .append, args := #[s, x], argTypes := #[39, 39] }) (hs : a.eval s = v) (hx : a.eval x = v2) (hn : T1.length + T2.length ≤ 1000000) (hbase : b0 ≤ w.heap.size)
    (k : ∀ v' w', MsgO b0 (T1 ++ T2) v' w' → w.grownBy w' v.ownBlock → (v'.ownBlock = v.ownBlock ∨ v'.ownBlock = some w.heap.size) → wpList Tryd.prog ops Q rest (a.put o.dst v') w') : wpList Tryd.prog ops Q (o :: rest) a w := by
  obtain ⟨iM, hi, hz0, hz1, hz2⟩ := info_parts (show (Tryd.prog.info? 32).map (fun i => (i.zero, i.size, i.bytes)) = some (some (.agg #[.string ⟨#[]⟩, .slice none 0 0]), 2, 40) by kernel_rfl)
  obtain ⟨L1, p1, p2, p3⟩ := h1
  obtain ⟨L2, a2, c2, rfl, q1, q2, q3, _, q4⟩ := h2
  have hL2 : L2.length = T2.length := by rw [← q1, List.length_map]
  cases a2 with
  | none =>
    obtain ⟨h5, h6⟩ := q4 rfl
    have hT2 : T2 = [] := List.length_eq_zero_iff.1 h5
    subst hT2
    subst h6
    exact wpList_append_own_none hgd s x _ ho b0 32 iM 2 Tryd.underlying39 hi v T1.length _ hs p2 hx (k v w ⟨L1, by rw [p1, List.append_nil], by rw [List.append_nil]; exact p2, p3⟩ ⟨rfl, rfl, rfl, Nat.le_refl _, fun _ _ _ => rfl⟩ (.inl rfl))
  | some ad =>
    refine wpList_append_own_at w hgd s x _ ho b0 32 iM (.agg #[.string ⟨#[]⟩, .slice none 0 0]) 2 40 Tryd.underlying39 hi hz0 hz1 hz2 rfl (by omega) v T1.length (msgCs L1) hs p2 ad T2.length c2 (msgCs L2) hx (by rw [msgCs_length, hL2]) q3.rdc.news (msgCs_one L2 fun y hy => by obtain ⟨a, c, e, _⟩ := q2 y hy; exact ⟨_, _, _, e⟩) (by unfold maxLen; omega) (by omega) hbase fun v' w' h3 h4 h5 h6 => ?_
    have keep : ∀ l u, SlO (fun k => some k ≠ v.ownBlock) l u w → SlO (fun k => some k ≠ v'.ownBlock) l u w' := fun l u h => by
      have h' : SlO (fun k => some k ≠ v.ownBlock ∧ k < w.heap.size) l u w := h.mono fun g hg ho => ⟨ho, hg⟩
      refine (h'.keep (kp_grown h4) fun g hg => hg.1).mono fun g _ hg => ?_
      rcases h6 with e | e
      · rw [e]; exact hg.1
      · rw [e]; intro h; injection h with h; omega
    refine k v' w' ⟨L1 ++ L2, by rw [List.map_append, p1, q1], ?_, fun y hy => ?_⟩ h4 h6
    · rw [List.length_append]
      have e : msgCs (L1 ++ L2) = msgCs L1 ++ msgCs L2 := by unfold msgCs; rw [List.flatMap_append]
      rw [e]
      exact h3
    · rcases List.mem_append.1 hy with hy | hy
      · exact keep _ _ (p3 y hy)
      · exact keep _ _ (q2 y hy)
theorem Keeps_slm (T : List MsgT) : Keeps (SlM T) := fun u w1 w2 h hb => h.calls hb
theorem msgs_ex (T : List MsgT) (v : Value) (hn : T.length ≤ 1000000) (w : World) (h : SlM T v w) :
    Calls Tryd.prog 19 #[v] w fun e w' => ∃ u, e = .returned u ∧ Below w.heap.size w w' ∧ SlM T u w' := by
  obtain ⟨L, a, c, rfl, h'⟩ := h
  exact msgs_any T a _ c hn w ⟨L, a, c, rfl, h'⟩
theorem Msgs_true (T : List MsgT) (u1 u2 : Value) (hn : T.length ≤ 1000000) (w : World) (h1 : SlM T u1 w) (h2 : SlM T u2 w) :
    Calls Tryd.prog 18 #[u1, u2] w fun e w' => e = .returned (.bool true) ∧ Below w.heap.size w w' := by
  obtain ⟨L, a, c, rfl, h1'⟩ := h1
  obtain ⟨L', a', c', rfl, h2'⟩ := h2
  refine (Msgs_any T T a _ c a' _ c' (by omega) (by omega) w ⟨L, a, c, rfl, h1'⟩ ⟨L', a', c', rfl, h2'⟩).mono fun e w' h => ?_
  rw [decide_eq_true rfl] at h
  exact h
end Go.Proofs.YticiipddilabfaaDoor

namespace Go.Proofs.YticiipddilabfaaDoor
open Go.RowKit
set_option linter.unusedVariables false
theorem sumM_length (T : List MsgT) : T.length ≤ sumM T := by
  induction T with
  | nil => exact Nat.zero_le _
  | cons x T ih => simp only [sumM, List.length_cons]; omega
/-- A stream's cells. -/
abbrev bufA (magic K : Nat) (a : Option Addr) (n c : Nat) (d : Int) : Array Value := #[.int .u32 magic, .int .i64 (K : Nat), .slice a n c, .int .i64 d]
/-- What feeding hands back: the stream (its rest of n bytes at a, room c), the messages at va, room vc. -/
structure FedW (w0 : World) (magic K : Nat) (T : List MsgT) (l : List UInt8) (a : Option Addr) (c : Nat) (va : Option Addr) (vc : Nat) (w : World) : Prop where
  rd : RdS w a l
  le : l.length ≤ c
  mx : c ≤ maxLen
  no : a = none → l.length = 0 ∧ c = 0
  ms : ∃ b0, w0.heap.size ≤ b0 ∧ MsgL b0 T (.slice va T.length vc) w
  ne : SlO (fun g => w0.heap.size ≤ g ∧ some g ≠ (Value.slice va T.length vc).ownBlock) l (.slice a l.length c) w
theorem FedW.calls {w0 w w' : World} {magic K : Nat} {T : List MsgT} {l : List UInt8} {a : Option Addr} {c : Nat} {va : Option Addr} {vc : Nat} (h : FedW w0 magic K T l a c va vc w) (hb : Below w.heap.size w w') : FedW w0 magic K T l a c va vc w' := by
  obtain ⟨b0, h1, h2⟩ := h.ms
  exact ⟨h.rd.calls hb, h.le, h.mx, h.no, ⟨b0, h1, h2.keep (kp_below (X := fun _ => False) hb) (fun g _ h => h)⟩, h.ne.keep (kp_below (X := fun _ => False) hb) (fun g _ h => h)⟩
theorem FedW.own {w0 w : World} {magic K : Nat} {T : List MsgT} {l : List UInt8} {a : Option Addr} {c : Nat} {va : Option Addr} {vc : Nat} (h : FedW w0 magic K T l a c va vc w) : ∀ k, (Value.slice va T.length vc).ownBlock = some k → w0.heap.size ≤ k ∧ k < w.heap.size := by
  obtain ⟨b0, h1, L, _, q2, _⟩ := h.ms
  exact fun k hk => ⟨Nat.le_trans h1 (q2.lt k hk).1, (q2.lt k hk).2⟩
theorem FedW.msgO {w0 w : World} {magic K : Nat} {T : List MsgT} {l : List UInt8} {a : Option Addr} {c : Nat} {va : Option Addr} {vc : Nat} (h : FedW w0 magic K T l a c va vc w) {B : Nat} (hB : B ≤ w0.heap.size) : MsgO B T (.slice va T.length vc) w := by
  obtain ⟨b0, h1, h2⟩ := h.ms
  obtain ⟨L, p1, p2, p3⟩ := h2.msgO
  exact ⟨L, p1, own_from p2 (Nat.le_trans hB h1), p3⟩
/-- What is told lies in blocks of a class. -/
theorem FedW.slma {P : Nat → Prop} {w0 w : World} {magic K : Nat} {T : List MsgT} {l : List UInt8} {a : Option Addr} {c : Nat} {va : Option Addr} {vc : Nat} (h : FedW w0 magic K T l a c va vc w) (hP : ∀ k, w0.heap.size ≤ k → k < w.heap.size → P k) : SlMA P T (.slice va T.length vc) w := by
  obtain ⟨b0, h1, h2⟩ := h.ms
  exact h2.slma fun k hk hl => hP k (Nat.le_trans h1 hk) hl
theorem FedW.slo {P : Nat → Prop} {w0 w : World} {magic K : Nat} {T : List MsgT} {l : List UInt8} {a : Option Addr} {c : Nat} {va : Option Addr} {vc : Nat} (h : FedW w0 magic K T l a c va vc w) (hP : ∀ k, w0.heap.size ≤ k → k < w.heap.size → some k ≠ (Value.slice va T.length vc).ownBlock → P k) : SlO P l (.slice a l.length c) w :=
  h.ne.mono fun g hg hk => hP g hk.1 hg hk.2
theorem Feed_w (magic : Nat) (hm : magic < 4294967296) (K : Nat) (hK : K ≤ 4000000) (bad : Int) (ar : Option Addr) (nr cr : Nat) (rest : List UInt8) (ac : Option Addr) (nc cc : Nat) (cs : List UInt8)
    (hl1 : rest.length = nr) (hl2 : cs.length = nc) (hr1 : nr ≤ cr) (hr2 : cr ≤ 9223372036854775807) (hc1 : nc ≤ cc) (hc2 : cc ≤ 9223372036854775807) (hn1 : nr ≤ 1000000) (hn2 : nc ≤ 1000000)
    (hno1 : ar = none → nr = 0 ∧ cr = 0) (hno2 : ac = none → nc = 0 ∧ cc = 0) (w : World) (hR1 : RdS w ar rest) (hR2 : RdS w ac cs) (hL : Laid w) (T : List MsgT) (l : List UInt8) (d : Int) (n : Nat) (hn : l.length = n) (hr : feedF magic (K : Int) rest bad cs = (T, l, d)) :
    Calls Tryd.prog 13 #[.agg #[.int .u32 magic, .int .i64 (K : Nat), .slice ar nr cr, .int .i64 bad], .slice ac nc cc] w fun e w' => ∃ a c va vc, e = .returned (.tuple #[.agg (bufA magic K a n c d), .slice va T.length vc]) ∧ Below w.heap.size w w' ∧ FedW w magic K T l a c va vc w' := by
  subst hn
  refine (Feed_any magic hm K bad ar nr cr rest ac nc cc cs hl1 hl2 hr1 hr2 hc1 hc2 hn1 hn2 hno1 hno2 w hR1 hR2 hL).mono ?_
  rintro e w' ⟨v, rfl, hb, hv⟩
  rw [hr, capN_same K hK] at hv
  obtain ⟨u, vl, b0, rfl, hu, hms, hb0, hne⟩ := hv
  obtain ⟨a, c, rfl, h1, h2, h3, h4⟩ := hu
  obtain ⟨va, vc, rfl⟩ : ∃ va vc, vl = .slice va T.length vc := by
    obtain ⟨L, _, q2, _⟩ := hms
    exact own2_slice q2
  exact ⟨a, c, va, vc, rfl, hb, ⟨h1, h2, h3, h4, ⟨b0, hb0, hms⟩, hne⟩⟩
end Go.Proofs.YticiipddilabfaaDoor

namespace Go.Proofs.YticiipddilabfaaDoor
open Go.RowKit
set_option linter.unusedVariables false
section
variable {W W' : World} {v v' : Value}
theorem apart_grown (hg : W.grownBy W' v.ownBlock) (ho : v'.ownBlock = v.ownBlock ∨ v'.ownBlock = some W.heap.size) {g : Nat} (hlt : g < W.heap.size) (h : some g ≠ v.ownBlock) : some g ≠ v'.ownBlock := by
  rcases ho with e | e
  · rw [e]; exact h
  · rw [e]; intro h; injection h with h; omega
theorem SlO.app {l : List UInt8} {u : Value} (h : SlO (fun k => some k ≠ v.ownBlock) l u W) (hg : W.grownBy W' v.ownBlock) (ho : v'.ownBlock = v.ownBlock ∨ v'.ownBlock = some W.heap.size) : SlO (fun k => some k ≠ v'.ownBlock) l u W' := by
  have h' : SlO (fun k => some k ≠ v.ownBlock ∧ k < W.heap.size) l u W := h.mono fun g hg ho => ⟨ho, hg⟩
  exact (h'.keep (kp_grown hg) fun g hg => hg.1).mono fun g _ hk => apart_grown hg ho hk.2 hk.1
theorem SlMA.lt {P : Nat → Prop} {T : List MsgT} {u : Value} {W : World} (h : SlMA P T u W) : SlMA (fun k => P k ∧ k < W.heap.size) T u W := by
  obtain ⟨L, a, c, h1, h2, h3, h4, h5⟩ := h
  refine ⟨L, a, c, h1, h2, fun x hx => (h3 x hx).mono fun g hg ho => ⟨ho, hg⟩, ?_, h5⟩
  rcases h4 with h | ⟨g, o, e1, e2, e3, e4⟩
  · exact .inl h
  · exact .inr ⟨g, o, e1, ⟨e2, e3⟩, e3, e4⟩
theorem SlMA.app {T : List MsgT} {u : Value} (h : SlMA (fun k => some k ≠ v.ownBlock) T u W) (hg : W.grownBy W' v.ownBlock) (ho : v'.ownBlock = v.ownBlock ∨ v'.ownBlock = some W.heap.size) : SlMA (fun k => some k ≠ v'.ownBlock) T u W' :=
  (h.lt.keep (kp_grown hg) fun g hg => hg.1).mono fun g hk => apart_grown hg ho hk.2 hk.1
/-- A block apart. -/
def BlkO (v : Value) (W : World) (g : Nat) (t : TypeId) (cs : Array Value) : Prop := some g ≠ v.ownBlock ∧ Blk W g t cs
theorem BlkO.app {g : Nat} {t : TypeId} {cs : Array Value} (h : BlkO v W g t cs) (hg : W.grownBy W' v.ownBlock) (ho : v'.ownBlock = v.ownBlock ∨ v'.ownBlock = some W.heap.size) : BlkO v' W' g t cs :=
  ⟨apart_grown hg ho h.2.lt h.1, (kp_grown hg).blk h.2 h.1⟩
theorem SlO.rds {O : Nat → Prop} {l : List UInt8} {a : Option Addr} {n c : Nat} (h : SlO O l (.slice a n c) W) : RdS W a l := by
  obtain ⟨a', c', e, h1, _⟩ := h
  injection e with e1 e2 e3
  subst e1
  exact h1.rds
end
theorem Sane_true (magic : Nat) (hm : magic < 4294967296) (m bad : Int) (a : Option Addr) (n c : Nat) (l : List UInt8) (hl : l.length = n) (hc : n ≤ c) (hc2 : n ≤ 140737488355328 ∧ c ≤ 9223372036854775807) (hno : a = none → n = 0 ∧ c = 0) (hs : saneF magic m l bad = true) (w : World) (hr : RdS w a l) (hL : Laid w) :
    Calls Tryd.prog 20 #[.agg #[.int .u32 magic, .int .i64 m, .slice a n c, .int .i64 bad]] w fun e w' => e = .returned (.bool true) ∧ Below w.heap.size w w' := by
  have h := FSane_any magic hm m bad a n c l hl hc hc2 hno w hr hL
  rw [hs] at h
  exact h
end Go.Proofs.YticiipddilabfaaDoor

namespace Go.Proofs.YticiipddilabfaaDoor
open Go.RowKit
set_option linter.unusedVariables false
set_option maxRecDepth 100000 in
set_option maxHeartbeats 4000000 in
theorem Cut_walk (w : World) (hL : Laid w) (magic : Nat) (hm : magic < 4294967296) (most : Int) (aa : Option Addr) (na ca : Nat) (la : List UInt8) (ab : Option Addr) (nb cb : Nat) (bs : List UInt8) (ac : Option Addr) (nc cc : Nat) (cs : List UInt8)
    (hla : la.length = na) (hlb : bs.length = nb) (hlc : cs.length = nc) (ha1 : na ≤ ca) (ha2 : ca ≤ 140737488355328) (hb1 : nb ≤ cb) (hb2 : cb ≤ 140737488355328) (hc1 : nc ≤ cc) (hc2 : cc ≤ 140737488355328) (hnoa : aa = none → na = 0 ∧ ca = 0) (hnob : ab = none → nb = 0 ∧ cb = 0) (hnoc : ac = none → nc = 0 ∧ cc = 0) (hRa : RdS w aa la) (hRb : RdS w ab bs) (hRc : RdS w ac cs) :
    Calls Tryd.prog 5 #[.int .u32 magic, .int .i64 most, .slice aa na ca, .slice ab nb cb, .slice ac nc cc] w fun e w' => e = .returned (.bool true) ∧ Below w.heap.size w w' := by
  have cA := Awake06 w hL
  have H := Lib.hid (And.intro hL (And.intro (And.intro hRa (And.intro hRb hRc)) (And.intro (And.intro hla (And.intro hlb hlc)) cA))); clear hL hRa hRb hRc hla hlb hlc cA
  have big : ((300 : Int) < (na : Int) ∨ (300 : Int) < (nb : Int) ∨ (300 : Int) < (nc : Int)) → Calls Tryd.prog 5 #[.int .u32 magic, .int .i64 most, .slice aa na ca, .slice ab nb cb, .slice ac nc cc] w fun e w' => e = .returned (.bool true) ∧ Below w.heap.size w w' := by
    intro hbig
    by_cases b1' : (300 : Int) < (na : Int)
    · go_enter Tryd.func5, Tryd.ntmps5
      go_wp2_with fail
      refine H.out.2.2.2.mono ?_
      rintro e w1 ⟨rfl, hb1⟩
      go_wp2_with fail
      go_ret
      exact ⟨rfl, hb1⟩
    · by_cases b2' : (300 : Int) < (nb : Int)
      · go_enter Tryd.func5, Tryd.ntmps5
        go_wp2_with fail
        refine H.out.2.2.2.mono ?_
        rintro e w1 ⟨rfl, hb1⟩
        go_wp2_with fail
        go_ret
        exact ⟨rfl, hb1⟩
      · have b3' : (300 : Int) < (nc : Int) := by omega
        go_enter Tryd.func5, Tryd.ntmps5
        go_wp2_with fail
        refine H.out.2.2.2.mono ?_
        rintro e w1 ⟨rfl, hb1⟩
        go_wp2_with fail
        go_ret
        exact ⟨rfl, hb1⟩
  by_cases b0 : ((300 : Int) < (na : Int) ∨ (300 : Int) < (nb : Int) ∨ (300 : Int) < (nc : Int))
  · exact big b0
  clear big
  have b1' : ¬ (300 : Int) < (na : Int) := fun h => b0 (.inl h)
  have b2' : ¬ (300 : Int) < (nb : Int) := fun h => b0 (.inr (.inl h))
  have b3' : ¬ (300 : Int) < (nc : Int) := fun h => b0 (.inr (.inr h))
  clear b0
  have A3 : na ≤ 300 := by omega
  have B3' : nb ≤ 300 := by omega
  have C3 : nc ≤ 300 := by omega
  have hAB : na + nb + nc ≤ 140737488355328 := by omega
  obtain ⟨K, hK⟩ : ∃ K, K = capN most := ⟨_, rfl⟩
  have K4 : K ≤ 4000000 := by rw [hK]; exact capN_le most
  have cN := fun w => New_any magic most w
  rw [← hK] at cN
  obtain ⟨i0, hi, hz0, hz1, hz2⟩ := info_parts (show (Tryd.prog.info? 5).map (fun i => (i.zero, i.size, i.bytes)) = some (some (.int .u8 0), 1, 1) by kernel_rfl)
  have I := Lib.hid (And.intro hi (And.intro hz0 (And.intro hz1 hz2))); clear hi hz0 hz1 hz2
  -- what is told: of the first part, of the first two, of all
  obtain ⟨R1, hR1⟩ : ∃ R, R = fedA magic K la := ⟨_, rfl⟩
  obtain ⟨R2, hR2⟩ : ∃ R, R = feedF magic K R1.2.1 R1.2.2 bs := ⟨_, rfl⟩
  obtain ⟨R3, hR3⟩ : ∃ R, R = feedF magic K R2.2.1 R2.2.2 cs := ⟨_, rfl⟩
  have e12 : fedA magic K (la ++ bs) = (R1.1 ++ R2.1, R2.2) := by rw [hR2, hR1]; exact fedA_app magic K4 la bs
  have e123 : fedA magic K (la ++ bs ++ cs) = (R1.1 ++ R2.1 ++ R3.1, R3.2) := by rw [fedA_app magic K4 (la ++ bs) cs, e12, hR3]
  have k1 := fedA_kept magic K la
  have k2 := fedA_kept magic K (la ++ bs)
  have k3 := fedA_kept magic K (la ++ bs ++ cs)
  have s1 := saneF_fed magic K4 la
  have s2 := saneF_fed magic K4 (la ++ bs)
  have s3 := saneF_fed magic K4 (la ++ bs ++ cs)
  rw [← hR1] at k1 s1
  rw [e12] at k2 s2
  rw [e123] at k3 s3
  simp only at k2 k3 s2 s3
  obtain ⟨T1, l1, d1⟩ := R1
  obtain ⟨T2, l2, d2⟩ := R2
  obtain ⟨T3, l3, d3⟩ := R3
  simp only at k1 k2 k3 s1 s2 s3 e12 e123 hR2 hR3
  have hlen : la.length + bs.length + cs.length ≤ 900 := by have := H.out.2.2.1; omega
  have n1 : l1.length ≤ 900 := by have := k1.2.1; omega
  have n2 : l2.length ≤ 900 := by have := k2.2.1; rw [List.length_append] at this; omega
  have n3 : l3.length ≤ 900 := by have := k3.2.1; simp only [List.length_append] at this; omega
  have t123 : T1.length + T2.length + T3.length ≤ 900 := by
    have h1 := k3.2.1
    have h2 := sumM_length (T1 ++ T2 ++ T3)
    simp only [List.length_append] at h1 h2
    omega
  have KK := Lib.hid (And.intro cN (And.intro hR1 (And.intro hR2 (And.intro hR3 (And.intro e123 (And.intro s1 (And.intro s2 s3))))))); clear cN hR1 hR2 hR3 e12 e123 s1 s2 s3 k1 k2 k3 hK
  go_enter Tryd.func5, Tryd.ntmps5
  go_wp2_with fail
  refine H.out.2.2.2.mono ?_
  rintro e w1 ⟨rfl, hb1⟩
  have own : (w1.alloc (.cells #[] 5)).ownsRow w.heap.size 5 1 (.slice (some ⟨w1.heap.size, 0, none⟩) 0 0) 0 (([] : List UInt8).map fun c => Value.int .u8 (c.toNat : Int)) := World.ownsRow_made w1 #[] 0 hb1.size (by unfold maxLen; omega) rfl
  have B1 := ba hb1 (.cells #[] 5)
  have z1 : w.heap.size ≤ (w1.alloc (.cells #[] 5)).heap.size := B1.size
  have O := Lib.hid (And.intro own (And.intro B1 (H.out.2.1.1.calls B1))); clear own B1 hb1
  go_wp2_with (at_builtin; refine wl_app O.out.1 rfl _ _ 23 rfl Tryd.underlying23 i0 I.out.1 I.out.2.1 I.out.2.2.1 I.out.2.2.2 rfl aa na ca la rfl O.out.2.2 H.out.2.2.1.1 hnoa (by omega) z1 ?_)
  intro v2 w2 o2 g2 _
  replace o2 : w2.ownsRow w.heap.size 5 1 v2 na (la.map fun c => Value.int .u8 (c.toNat : Int)) := by simpa using o2
  have B2 := below_grown O.out.2.1 g2 z1 (by intro k hk; have := O.out.1.lt k hk; omega)
  obtain ⟨a2, c2, rfl⟩ := own_slice o2
  have z2 : w.heap.size ≤ w2.heap.size := B2.size
  have O2 := Lib.hid (And.intro o2 (And.intro B2 (H.out.2.1.2.1.calls B2))); clear o2 B2 g2 O
  go_wp2_with (at_builtin; refine wl_app O2.out.1 rfl _ _ 23 rfl Tryd.underlying23 i0 I.out.1 I.out.2.1 I.out.2.2.1 I.out.2.2.2 rfl ab nb cb bs rfl O2.out.2.2 H.out.2.2.1.2.1 hnob (by omega) z2 ?_)
  intro v3 w3 o3 g3 _
  replace o3 : w3.ownsRow w.heap.size 5 1 v3 (na + nb) ((la ++ bs).map fun c => Value.int .u8 (c.toNat : Int)) := by simpa using o3
  have B3 := below_grown O2.out.2.1 g3 z2 (by intro k hk; have := O2.out.1.lt k hk; omega)
  obtain ⟨a3, c3, rfl⟩ := own_slice o3
  have z3 : w.heap.size ≤ w3.heap.size := B3.size
  have O3 := Lib.hid (And.intro o3 (And.intro B3 (H.out.2.1.2.2.calls B3))); clear o3 B3 g3 O2
  go_wp2_with (at_builtin; refine wl_app O3.out.1 rfl _ _ 23 rfl Tryd.underlying23 i0 I.out.1 I.out.2.1 I.out.2.2.1 I.out.2.2.2 rfl ac nc cc cs rfl O3.out.2.2 H.out.2.2.1.2.2 hnoc (by omega) z3 ?_)
  intro v4 w4 o4 g4 _
  replace o4 : w4.ownsRow w.heap.size 5 1 v4 (na + nb + nc) ((la ++ bs ++ cs).map fun c => Value.int .u8 (c.toNat : Int)) := by simpa using o4
  have B4 := below_grown O3.out.2.1 g4 z3 (by intro k hk; have := O3.out.1.lt k hk; omega)
  obtain ⟨a4, c4, rfl, q1, q2, q3, q4, q5⟩ := own_rds o4
  obtain ⟨N, hN⟩ : ∃ N, N = na + nb + nc := ⟨_, rfl⟩
  rw [← hN] at q1 q3 q5 ⊢
  have N9 : N ≤ 900 := by omega
  have O4 := Lib.hid (And.intro q2 (And.intro B4 (And.intro q1 (And.intro q3 (And.intro q4 q5))))); clear o4 B4 g4 O3 q1 q2 q3 q4 q5 hN
  -- the feedings
  go_wp2_with fail
  obtain ⟨x1, hx1⟩ : ∃ x, l1.length = x := ⟨_, rfl⟩
  obtain ⟨x2, hx2⟩ : ∃ x, l2.length = x := ⟨_, rfl⟩
  obtain ⟨x3, hx3⟩ : ∃ x, l3.length = x := ⟨_, rfl⟩
  have c4m : c4 ≤ 9223372036854775807 := by have := O4.out.2.2.2.2.1; unfold maxLen at this; omega
  rw [hx1] at n1
  rw [hx2] at n2
  rw [hx3] at n3
  have S1 := Lib.hid (And.intro O4.out.2.1 (And.intro O4.out.1 (And.intro hx1 (And.intro hx2 hx3))))
  clear hx1 hx2 hx3
  refine (KK.out.1 _).mono ?_
  rintro e w5 ⟨rfl, hb5⟩
  have shb5 := hb5.size
  have S2 := Lib.hid (And.intro (bt S1.out.1 hb5) (And.intro (S1.out.2.1.calls hb5) (And.intro S1.out.2.2.1 (And.intro S1.out.2.2.2.1 S1.out.2.2.2.2))))
  clear hb5
  have cF1 := Feed_w magic hm K K4 0 none 0 0 [] aa na ca la rfl H.out.2.2.1.1 (Nat.le_refl _) (by decide) ha1 (by omega) (by omega) (by omega) (fun _ => ⟨rfl, rfl⟩) hnoa _ (.inl rfl) (H.out.2.1.1.calls S2.out.1) (H.out.1.calls S2.out.1) T1 l1 d1 x1 S2.out.2.2.1 ((feedF_new magic K4 la).trans KK.out.2.1.symm)
  have G1 := Lib.hid cF1; clear cF1
  unfold bufC
  go_wp2_with fail
  refine G1.out.mono ?_
  rintro e w6 ⟨u1, c1', v1, k1, rfl, hb1, hF1⟩
  have own1 := hF1.own
  have sz1 := hb1.size
  have S3 := Lib.hid (And.intro (ba (bt S2.out.1 hb1) (.cells (bufA magic K u1 x1 c1' d1) 38)) (And.intro ((S2.out.2.1.calls hb1).calls (ba (Below.refl _ _) (.cells (bufA magic K u1 x1 c1' d1) 38))) (And.intro S2.out.2.2.1 (And.intro S2.out.2.2.2.1 (And.intro S2.out.2.2.2.2 (And.intro (show Blk (w6.alloc (.cells (bufA magic K u1 x1 c1' d1) 38)) w6.heap.size 38 (bufA magic K u1 x1 c1' d1) from Blk.new _ _ _) (And.intro (hF1.calls (ba (Below.refl _ _) (.cells (bufA magic K u1 x1 c1' d1) 38))) own1)))))))
  clear hb1 hF1 own1 G1
  have cF2 := Feed_w magic hm K K4 d1 u1 x1 c1' l1 ab nb cb bs S3.out.2.2.1 H.out.2.2.1.2.1 (by have := S3.out.2.2.2.2.2.2.1.le; have := S3.out.2.2.1; omega) (by have := S3.out.2.2.2.2.2.2.1.mx; unfold maxLen at this; omega) hb1 (by omega) (by omega) (by omega) (by rw [← S3.out.2.2.1]; exact S3.out.2.2.2.2.2.2.1.no) hnob _ S3.out.2.2.2.2.2.2.1.rd (H.out.2.1.2.1.calls S3.out.1) (H.out.1.calls S3.out.1) T2 l2 d2 x2 S3.out.2.2.2.1 KK.out.2.2.1.symm
  have G2 := Lib.hid cF2; clear cF2
  go_wp2_with fail
  refine G2.out.mono ?_
  rintro e w7 ⟨u2, c2', v2, k2, rfl, hb2, hF2⟩
  have own2 := hF2.own
  have sz2 := hb2.size
  have S4 := Lib.hid (And.intro (ba (bt S3.out.1 hb2) (.cells (bufA magic K u2 x2 c2' d2) 38)) (And.intro ((S3.out.2.1.calls hb2).calls (ba (Below.refl _ _) (.cells (bufA magic K u2 x2 c2' d2) 38))) (And.intro S3.out.2.2.1 (And.intro S3.out.2.2.2.1 (And.intro S3.out.2.2.2.2.1 (And.intro ((S3.out.2.2.2.2.2.1.calls hb2).alloc (.cells (bufA magic K u2 x2 c2' d2) 38)) (And.intro ((S3.out.2.2.2.2.2.2.1.calls hb2).calls (ba (Below.refl _ _) (.cells (bufA magic K u2 x2 c2' d2) 38))) (And.intro S3.out.2.2.2.2.2.2.2 (And.intro (show Blk (w7.alloc (.cells (bufA magic K u2 x2 c2' d2) 38)) w7.heap.size 38 (bufA magic K u2 x2 c2' d2) from Blk.new _ _ _) (And.intro (hF2.calls (ba (Below.refl _ _) (.cells (bufA magic K u2 x2 c2' d2) 38))) own2))))))))))
  clear hb2 hF2 own2 G2
  have cF3 := Feed_w magic hm K K4 d2 u2 x2 c2' l2 ac nc cc cs S4.out.2.2.2.1 H.out.2.2.1.2.2 (by have := S4.out.2.2.2.2.2.2.2.2.2.1.le; have := S4.out.2.2.2.1; omega) (by have := S4.out.2.2.2.2.2.2.2.2.2.1.mx; unfold maxLen at this; omega) hc1 (by omega) (by omega) (by omega) (by rw [← S4.out.2.2.2.1]; exact S4.out.2.2.2.2.2.2.2.2.2.1.no) hnoc _ S4.out.2.2.2.2.2.2.2.2.2.1.rd (H.out.2.1.2.2.calls S4.out.1) (H.out.1.calls S4.out.1) T3 l3 d3 x3 S4.out.2.2.2.2.1 KK.out.2.2.2.1.symm
  have G3 := Lib.hid cF3; clear cF3
  go_wp2_with fail
  refine G3.out.mono ?_
  rintro e w8 ⟨u3, c3', v3, k3, rfl, hb3, hF3⟩
  have own3 := hF3.own
  have sz3 := hb3.size
  have S5 := Lib.hid (And.intro (ba (bt S4.out.1 hb3) (.cells (bufA magic K u3 x3 c3' d3) 38)) (And.intro ((S4.out.2.1.calls hb3).calls (ba (Below.refl _ _) (.cells (bufA magic K u3 x3 c3' d3) 38))) (And.intro S4.out.2.2.1 (And.intro S4.out.2.2.2.1 (And.intro S4.out.2.2.2.2.1 (And.intro ((S4.out.2.2.2.2.2.1.calls hb3).alloc (.cells (bufA magic K u3 x3 c3' d3) 38)) (And.intro ((S4.out.2.2.2.2.2.2.1.calls hb3).calls (ba (Below.refl _ _) (.cells (bufA magic K u3 x3 c3' d3) 38))) (And.intro S4.out.2.2.2.2.2.2.2.1 (And.intro ((S4.out.2.2.2.2.2.2.2.2.1.calls hb3).alloc (.cells (bufA magic K u3 x3 c3' d3) 38)) (And.intro ((S4.out.2.2.2.2.2.2.2.2.2.1.calls hb3).calls (ba (Below.refl _ _) (.cells (bufA magic K u3 x3 c3' d3) 38))) (And.intro S4.out.2.2.2.2.2.2.2.2.2.2 (And.intro (show Blk (w8.alloc (.cells (bufA magic K u3 x3 c3' d3) 38)) w8.heap.size 38 (bufA magic K u3 x3 c3' d3) from Blk.new _ _ _) (And.intro (hF3.calls (ba (Below.refl _ _) (.cells (bufA magic K u3 x3 c3' d3) 38))) own3)))))))))))))
  clear hb3 hF3 own3 G3
  go_wp2_with fail
  refine (KK.out.1 _).mono ?_
  rintro e w9 ⟨rfl, hb9⟩
  have shb9 := hb9.size
  have S6 := Lib.hid (And.intro (bt S5.out.1 hb9) (And.intro (S5.out.2.1.calls hb9) (And.intro S5.out.2.2.1 (And.intro S5.out.2.2.2.1 (And.intro S5.out.2.2.2.2.1 (And.intro (S5.out.2.2.2.2.2.1.calls hb9) (And.intro (S5.out.2.2.2.2.2.2.1.calls hb9) (And.intro S5.out.2.2.2.2.2.2.2.1 (And.intro (S5.out.2.2.2.2.2.2.2.2.1.calls hb9) (And.intro (S5.out.2.2.2.2.2.2.2.2.2.1.calls hb9) (And.intro S5.out.2.2.2.2.2.2.2.2.2.2.1 (And.intro (S5.out.2.2.2.2.2.2.2.2.2.2.2.1.calls hb9) (And.intro (S5.out.2.2.2.2.2.2.2.2.2.2.2.2.1.calls hb9) S5.out.2.2.2.2.2.2.2.2.2.2.2.2.2)))))))))))))
  clear hb9
  have cF4 := Feed_w magic hm K K4 0 none 0 0 [] a4 N c4 (la ++ bs ++ cs) rfl O4.out.2.2.1 (Nat.le_refl _) (by decide) O4.out.2.2.2.1 (by omega) (by omega) (by omega) (fun _ => ⟨rfl, rfl⟩) O4.out.2.2.2.2.2 _ (.inl rfl) S6.out.2.1 (H.out.1.calls S6.out.1) (T1 ++ T2 ++ T3) l3 d3 x3 S6.out.2.2.2.2.1 ((feedF_new magic K4 _).trans KK.out.2.2.2.2.1)
  have G4 := Lib.hid cF4; clear cF4
  unfold bufC
  go_wp2_with fail
  refine G4.out.mono ?_
  rintro e w10 ⟨u4, c4', v4, k4, rfl, hb4, hF4⟩
  have own4 := hF4.own
  have sz4 := hb4.size
  have S7 := Lib.hid (And.intro (ba (bt S6.out.1 hb4) (.cells (bufA magic K u4 x3 c4' d3) 38)) (And.intro ((S6.out.2.1.calls hb4).calls (ba (Below.refl _ _) (.cells (bufA magic K u4 x3 c4' d3) 38))) (And.intro S6.out.2.2.1 (And.intro S6.out.2.2.2.1 (And.intro S6.out.2.2.2.2.1 (And.intro ((S6.out.2.2.2.2.2.1.calls hb4).alloc (.cells (bufA magic K u4 x3 c4' d3) 38)) (And.intro ((S6.out.2.2.2.2.2.2.1.calls hb4).calls (ba (Below.refl _ _) (.cells (bufA magic K u4 x3 c4' d3) 38))) (And.intro S6.out.2.2.2.2.2.2.2.1 (And.intro ((S6.out.2.2.2.2.2.2.2.2.1.calls hb4).alloc (.cells (bufA magic K u4 x3 c4' d3) 38)) (And.intro ((S6.out.2.2.2.2.2.2.2.2.2.1.calls hb4).calls (ba (Below.refl _ _) (.cells (bufA magic K u4 x3 c4' d3) 38))) (And.intro S6.out.2.2.2.2.2.2.2.2.2.2.1 (And.intro ((S6.out.2.2.2.2.2.2.2.2.2.2.2.1.calls hb4).alloc (.cells (bufA magic K u4 x3 c4' d3) 38)) (And.intro ((S6.out.2.2.2.2.2.2.2.2.2.2.2.2.1.calls hb4).calls (ba (Below.refl _ _) (.cells (bufA magic K u4 x3 c4' d3) 38))) (And.intro S6.out.2.2.2.2.2.2.2.2.2.2.2.2.2 (And.intro (show Blk (w10.alloc (.cells (bufA magic K u4 x3 c4' d3) 38)) w10.heap.size 38 (bufA magic K u4 x3 c4' d3) from Blk.new _ _ _) (And.intro (hF4.calls (ba (Below.refl _ _) (.cells (bufA magic K u4 x3 c4' d3) 38))) own4))))))))))))))))
  clear hb4 hF4 own4 G4
  simp only [World.size_alloc] at sz1 sz2 sz3 sz4 shb5 shb9
  have P : ∀ k, w6.heap.size ≤ k → some k ≠ (Value.slice v1 T1.length k1).ownBlock := fun k h1 e => by have := S7.out.2.2.2.2.2.2.2.1 k e.symm; omega
  have mo : MsgO w5.heap.size T1 (Value.slice v1 T1.length k1) (w10.alloc (.cells (bufA magic K u4 x3 c4' d3) 38)) := S7.out.2.2.2.2.2.2.1.msgO (Nat.le_refl _)
  have L1 : SlO (fun k => some k ≠ (Value.slice v1 T1.length k1).ownBlock) l1 (.slice u1 l1.length c1') (w10.alloc (.cells (bufA magic K u4 x3 c4' d3) 38)) := S7.out.2.2.2.2.2.2.1.ne.mono fun g _ h => h.2
  have L2 : SlO (fun k => some k ≠ (Value.slice v1 T1.length k1).ownBlock) l2 (.slice u2 l2.length c2') (w10.alloc (.cells (bufA magic K u4 x3 c4' d3) 38)) := S7.out.2.2.2.2.2.2.2.2.2.1.slo fun k h1 h2 h3 => P k (by (try simp only [World.size_alloc] at h1); omega)
  have L3 : SlO (fun k => some k ≠ (Value.slice v1 T1.length k1).ownBlock) l3 (.slice u3 l3.length c3') (w10.alloc (.cells (bufA magic K u4 x3 c4' d3) 38)) := S7.out.2.2.2.2.2.2.2.2.2.2.2.2.1.slo fun k h1 h2 h3 => P k (by (try simp only [World.size_alloc] at h1); omega)
  have L4 : SlO (fun k => some k ≠ (Value.slice v1 T1.length k1).ownBlock) l3 (.slice u4 l3.length c4') (w10.alloc (.cells (bufA magic K u4 x3 c4' d3) 38)) := S7.out.2.2.2.2.2.2.2.2.2.2.2.2.2.2.2.1.slo fun k h1 h2 h3 => P k (by (try simp only [World.size_alloc] at h1); omega)
  have M2 : SlMA (fun k => some k ≠ (Value.slice v1 T1.length k1).ownBlock) T2 (.slice v2 T2.length k2) (w10.alloc (.cells (bufA magic K u4 x3 c4' d3) 38)) := S7.out.2.2.2.2.2.2.2.2.2.1.slma fun k h1 h2 => P k (by (try simp only [World.size_alloc] at h1); omega)
  have M3 : SlMA (fun k => some k ≠ (Value.slice v1 T1.length k1).ownBlock) T3 (.slice v3 T3.length k3) (w10.alloc (.cells (bufA magic K u4 x3 c4' d3) 38)) := S7.out.2.2.2.2.2.2.2.2.2.2.2.2.1.slma fun k h1 h2 => P k (by (try simp only [World.size_alloc] at h1); omega)
  have M4 : SlMA (fun k => some k ≠ (Value.slice v1 T1.length k1).ownBlock) (T1 ++ T2 ++ T3) (.slice v4 (T1 ++ T2 ++ T3).length k4) (w10.alloc (.cells (bufA magic K u4 x3 c4' d3) 38)) := S7.out.2.2.2.2.2.2.2.2.2.2.2.2.2.2.2.1.slma fun k h1 h2 => P k (by (try simp only [World.size_alloc] at h1); omega)
  have X1 : BlkO (Value.slice v1 T1.length k1) (w10.alloc (.cells (bufA magic K u4 x3 c4' d3) 38)) w6.heap.size 38 (bufA magic K u1 x1 c1' d1) := ⟨P _ (by omega), S7.out.2.2.2.2.2.1⟩
  have X2 : BlkO (Value.slice v1 T1.length k1) (w10.alloc (.cells (bufA magic K u4 x3 c4' d3) 38)) w7.heap.size 38 (bufA magic K u2 x2 c2' d2) := ⟨P _ (by omega), S7.out.2.2.2.2.2.2.2.2.1⟩
  have X3 : BlkO (Value.slice v1 T1.length k1) (w10.alloc (.cells (bufA magic K u4 x3 c4' d3) 38)) w8.heap.size 38 (bufA magic K u3 x3 c3' d3) := ⟨P _ (by omega), S7.out.2.2.2.2.2.2.2.2.2.2.2.1⟩
  have X4 : BlkO (Value.slice v1 T1.length k1) (w10.alloc (.cells (bufA magic K u4 x3 c4' d3) 38)) w10.heap.size 38 (bufA magic K u4 x3 c4' d3) := ⟨P _ (by omega), S7.out.2.2.2.2.2.2.2.2.2.2.2.2.2.2.1⟩
  have N1 : x1 ≤ c1' ∧ c1' ≤ 9223372036854775807 ∧ (u1 = none → x1 = 0 ∧ c1' = 0) := by have h1 := S7.out.2.2.2.2.2.2.1.le; have h2 := S7.out.2.2.2.2.2.2.1.mx; have h3 := S7.out.2.2.2.2.2.2.1.no; have h4 := S7.out.2.2.1; rw [h4] at h1 h3; unfold maxLen at h2; exact ⟨h1, by omega, h3⟩
  have N2 : x2 ≤ c2' ∧ c2' ≤ 9223372036854775807 ∧ (u2 = none → x2 = 0 ∧ c2' = 0) := by have h1 := S7.out.2.2.2.2.2.2.2.2.2.1.le; have h2 := S7.out.2.2.2.2.2.2.2.2.2.1.mx; have h3 := S7.out.2.2.2.2.2.2.2.2.2.1.no; have h4 := S7.out.2.2.2.1; rw [h4] at h1 h3; unfold maxLen at h2; exact ⟨h1, by omega, h3⟩
  have N3 : x3 ≤ c3' ∧ c3' ≤ 9223372036854775807 ∧ (u3 = none → x3 = 0 ∧ c3' = 0) := by have h1 := S7.out.2.2.2.2.2.2.2.2.2.2.2.2.1.le; have h2 := S7.out.2.2.2.2.2.2.2.2.2.2.2.2.1.mx; have h3 := S7.out.2.2.2.2.2.2.2.2.2.2.2.2.1.no; have h4 := S7.out.2.2.2.2.1; rw [h4] at h1 h3; unfold maxLen at h2; exact ⟨h1, by omega, h3⟩
  have N4 : x3 ≤ c4' ∧ c4' ≤ 9223372036854775807 ∧ (u4 = none → x3 = 0 ∧ c4' = 0) := by have h1 := S7.out.2.2.2.2.2.2.2.2.2.2.2.2.2.2.2.1.le; have h2 := S7.out.2.2.2.2.2.2.2.2.2.2.2.2.2.2.2.1.mx; have h3 := S7.out.2.2.2.2.2.2.2.2.2.2.2.2.2.2.2.1.no; have h4 := S7.out.2.2.2.2.1; rw [h4] at h1 h3; unfold maxLen at h2; exact ⟨h1, by omega, h3⟩
  have z10 : w5.heap.size ≤ (w10.alloc (.cells (bufA magic K u4 x3 c4' d3) 38)).heap.size := by simp only [World.size_alloc]; omega
  have y10 : w.heap.size ≤ w5.heap.size := S2.out.1.size
  have BE : Below w.heap.size w (w10.alloc (.cells (bufA magic K u4 x3 c4' d3) 38)) := S7.out.1
  have hx123 := And.intro S7.out.2.2.1 (And.intro S7.out.2.2.2.1 S7.out.2.2.2.2.1)
  have Z0 := Lib.hid (And.intro L1 (And.intro L2 (And.intro L3 (And.intro L4 (And.intro M2 (And.intro M3 (And.intro M4 (And.intro X1 (And.intro X2 (And.intro X3 (And.intro X4 (And.intro mo (And.intro BE (And.intro N1 (And.intro N2 (And.intro N3 (And.intro N4 (And.intro hx123 (And.intro z10 y10)))))))))))))))))))
  clear L1 L2 L3 L4 M2 M3 M4 X1 X2 X3 X4 mo BE N1 N2 N3 N4 hx123 P sz1 sz2 sz3 sz4 shb5 shb9
  clear S2 S3 S4 S5 S6 S7 O4
  have t12 : T1.length + T2.length ≤ 1000000 := by omega
  have t23 : (T1 ++ T2).length + T3.length ≤ 1000000 := by rw [List.length_append]; omega
  have t3 : (T1 ++ T2 ++ T3).length ≤ 1000000 := by rw [List.length_append, List.length_append]; omega
  have TH := Lib.hid (And.intro t12 (And.intro t23 t3)); clear t12 t23 t3 z10 y10
  go_wp2_with (at_builtin; refine wl_appM Z0.out.2.2.2.2.2.2.2.2.2.2.2.1 Z0.out.2.2.2.2.1 rfl _ _ rfl rfl rfl TH.out.1 Z0.out.2.2.2.2.2.2.2.2.2.2.2.2.2.2.2.2.2.2.1 ?_)
  intro v11 w11 mo g ho
  replace ho : v11.ownBlock = (Value.slice v1 T1.length k1).ownBlock ∨ v11.ownBlock = some (w10.alloc (.cells (bufA magic K u4 x3 c4' d3) 38)).heap.size := by rw [World.size_alloc]; exact ho
  have Z1 := Lib.hid (And.intro (Z0.out.1.app g ho) (And.intro (Z0.out.2.1.app g ho) (And.intro (Z0.out.2.2.1.app g ho) (And.intro (Z0.out.2.2.2.1.app g ho) (And.intro (Z0.out.2.2.2.2.1.app g ho) (And.intro (Z0.out.2.2.2.2.2.1.app g ho) (And.intro (Z0.out.2.2.2.2.2.2.1.app g ho) (And.intro (Z0.out.2.2.2.2.2.2.2.1.app g ho) (And.intro (Z0.out.2.2.2.2.2.2.2.2.1.app g ho) (And.intro (Z0.out.2.2.2.2.2.2.2.2.2.1.app g ho) (And.intro (Z0.out.2.2.2.2.2.2.2.2.2.2.1.app g ho) (And.intro mo (And.intro (below_grown Z0.out.2.2.2.2.2.2.2.2.2.2.2.2.1 g (Nat.le_trans Z0.out.2.2.2.2.2.2.2.2.2.2.2.2.2.2.2.2.2.2.2 Z0.out.2.2.2.2.2.2.2.2.2.2.2.2.2.2.2.2.2.2.1) (fun k hk => Nat.le_trans Z0.out.2.2.2.2.2.2.2.2.2.2.2.2.2.2.2.2.2.2.2 (Z0.out.2.2.2.2.2.2.2.2.2.2.2.1.own k hk).1)) (And.intro Z0.out.2.2.2.2.2.2.2.2.2.2.2.2.2.1 (And.intro Z0.out.2.2.2.2.2.2.2.2.2.2.2.2.2.2.1 (And.intro Z0.out.2.2.2.2.2.2.2.2.2.2.2.2.2.2.2.1 (And.intro Z0.out.2.2.2.2.2.2.2.2.2.2.2.2.2.2.2.2.1 (And.intro Z0.out.2.2.2.2.2.2.2.2.2.2.2.2.2.2.2.2.2.1 (And.intro (Nat.le_trans Z0.out.2.2.2.2.2.2.2.2.2.2.2.2.2.2.2.2.2.2.1 g.size) Z0.out.2.2.2.2.2.2.2.2.2.2.2.2.2.2.2.2.2.2.2)))))))))))))))))))
  clear mo g ho Z0
  go_wp2_with (at_builtin; refine wl_appM Z1.out.2.2.2.2.2.2.2.2.2.2.2.1 Z1.out.2.2.2.2.2.1 rfl _ _ rfl rfl rfl TH.out.2.1 Z1.out.2.2.2.2.2.2.2.2.2.2.2.2.2.2.2.2.2.2.1 ?_)
  intro v12 w12 mo g ho
  replace mo : MsgO w5.heap.size (T1 ++ T2 ++ T3) v12 w12 := by rw [List.append_assoc]; exact mo
  have Z2 := Lib.hid (And.intro (Z1.out.1.app g ho) (And.intro (Z1.out.2.1.app g ho) (And.intro (Z1.out.2.2.1.app g ho) (And.intro (Z1.out.2.2.2.1.app g ho) (And.intro (Z1.out.2.2.2.2.1.app g ho) (And.intro (Z1.out.2.2.2.2.2.1.app g ho) (And.intro (Z1.out.2.2.2.2.2.2.1.app g ho) (And.intro (Z1.out.2.2.2.2.2.2.2.1.app g ho) (And.intro (Z1.out.2.2.2.2.2.2.2.2.1.app g ho) (And.intro (Z1.out.2.2.2.2.2.2.2.2.2.1.app g ho) (And.intro (Z1.out.2.2.2.2.2.2.2.2.2.2.1.app g ho) (And.intro mo (And.intro (below_grown Z1.out.2.2.2.2.2.2.2.2.2.2.2.2.1 g (Nat.le_trans Z1.out.2.2.2.2.2.2.2.2.2.2.2.2.2.2.2.2.2.2.2 Z1.out.2.2.2.2.2.2.2.2.2.2.2.2.2.2.2.2.2.2.1) (fun k hk => Nat.le_trans Z1.out.2.2.2.2.2.2.2.2.2.2.2.2.2.2.2.2.2.2.2 (Z1.out.2.2.2.2.2.2.2.2.2.2.2.1.own k hk).1)) (And.intro Z1.out.2.2.2.2.2.2.2.2.2.2.2.2.2.1 (And.intro Z1.out.2.2.2.2.2.2.2.2.2.2.2.2.2.2.1 (And.intro Z1.out.2.2.2.2.2.2.2.2.2.2.2.2.2.2.2.1 (And.intro Z1.out.2.2.2.2.2.2.2.2.2.2.2.2.2.2.2.2.1 (And.intro Z1.out.2.2.2.2.2.2.2.2.2.2.2.2.2.2.2.2.2.1 (And.intro (Nat.le_trans Z1.out.2.2.2.2.2.2.2.2.2.2.2.2.2.2.2.2.2.2.1 g.size) Z1.out.2.2.2.2.2.2.2.2.2.2.2.2.2.2.2.2.2.2.2)))))))))))))))))))
  clear mo g ho Z1
  have LA := H.out.1.calls Z2.out.2.2.2.2.2.2.2.2.2.2.2.2.1
  have cS1 := fun w' (h : Below w12.heap.size w12 w') => Sane_true magic hm K d1 u1 x1 c1' l1 Z2.out.2.2.2.2.2.2.2.2.2.2.2.2.2.2.2.2.2.1.1 Z2.out.2.2.2.2.2.2.2.2.2.2.2.2.2.1.1 ⟨by omega, Z2.out.2.2.2.2.2.2.2.2.2.2.2.2.2.1.2.1⟩ Z2.out.2.2.2.2.2.2.2.2.2.2.2.2.2.1.2.2 KK.out.2.2.2.2.2.1 w' (Z2.out.1.rds.calls h) (LA.calls h)
  have cS2 := fun w' (h : Below w12.heap.size w12 w') => Sane_true magic hm K d2 u2 x2 c2' l2 Z2.out.2.2.2.2.2.2.2.2.2.2.2.2.2.2.2.2.2.1.2.1 Z2.out.2.2.2.2.2.2.2.2.2.2.2.2.2.2.1.1 ⟨by omega, Z2.out.2.2.2.2.2.2.2.2.2.2.2.2.2.2.1.2.1⟩ Z2.out.2.2.2.2.2.2.2.2.2.2.2.2.2.2.1.2.2 KK.out.2.2.2.2.2.2.1 w' (Z2.out.2.1.rds.calls h) (LA.calls h)
  have cS3 := fun w' (h : Below w12.heap.size w12 w') => Sane_true magic hm K d3 u3 x3 c3' l3 Z2.out.2.2.2.2.2.2.2.2.2.2.2.2.2.2.2.2.2.1.2.2 Z2.out.2.2.2.2.2.2.2.2.2.2.2.2.2.2.2.1.1 ⟨by omega, Z2.out.2.2.2.2.2.2.2.2.2.2.2.2.2.2.2.1.2.1⟩ Z2.out.2.2.2.2.2.2.2.2.2.2.2.2.2.2.2.1.2.2 KK.out.2.2.2.2.2.2.2 w' (Z2.out.2.2.1.rds.calls h) (LA.calls h)
  have cE := fun w' (h : Below w12.heap.size w12 w') => Same_true magic K d3 l3 x3 Z2.out.2.2.2.2.2.2.2.2.2.2.2.2.2.2.2.2.2.1.2.2.symm u3 c3' u4 c4' w' (Z2.out.2.2.1.rds.calls h) (Z2.out.2.2.2.1.rds.calls h)
  have cM1 := fun w' (h : Below w12.heap.size w12 w') => msgs_ex (T1 ++ T2 ++ T3) v12 TH.out.2.2 w' (Z2.out.2.2.2.2.2.2.2.2.2.2.2.1.slm.calls h)
  have cM2 := fun w' (h : Below w12.heap.size w12 w') => msgs_ex (T1 ++ T2 ++ T3) (.slice v4 (T1 ++ T2 ++ T3).length k4) TH.out.2.2 w' (Z2.out.2.2.2.2.2.2.1.slm.calls h)
  have eL : (T1 ++ T2 ++ T3).length = T1.length + (T2.length + T3.length) := by rw [List.length_append, List.length_append, Nat.add_assoc]
  rw [eL] at cM2; clear eL
  have J := Lib.hid (And.intro cS1 (And.intro cS2 (And.intro cS3 (And.intro cE (And.intro cM1 cM2)))))
  clear cS1 cS2 cS3 cE cM1 cM2
  have iB : (Tryd.prog.info? 38).map (·.size) = some 4 := by kernel_rfl
  have BK1 := Z2.out.2.2.2.2.2.2.2.1.2
  have BK2 := Z2.out.2.2.2.2.2.2.2.2.1.2
  have BK3 := Z2.out.2.2.2.2.2.2.2.2.2.1.2
  have BK4 := Z2.out.2.2.2.2.2.2.2.2.2.2.1.2
  have BZ := Z2.out.2.2.2.2.2.2.2.2.2.2.2.2.1
  have KB := Lib.hid (And.intro BK1 (And.intro BK2 (And.intro BK3 BK4))); clear BK1 BK2 BK3 BK4
  have BZ' := Lib.hid BZ; clear BZ Z2 LA
  go_wp2_with fail
  refine wp_region_g [some 79, some 80, some 81, some 82, some 83, some 84, some 85, some 86, some 87, some 88, some 89, some 90, some 91, some 92, some 93, some 94, some 95, some 96, some 97, some 98, some 99, some 100, some 101, some 102, some 103, some 104, some 105, some 106, some 107, some 108, some 109, some 110, some 111, some 10] (FL [
      EqV (.bool true),
      EqV (.bool true),
      EqV (.agg (bufA magic K u3 x3 c3' d3)),
      EqV (.agg (bufA magic K u3 x3 c3' d3)),
      EqV (.agg (bufA magic K u4 x3 c4' d3)),
      EqV (.agg (bufA magic K u4 x3 c4' d3)),
      EqV (.bool true),
      EqV (.bool true),
      EqV (.bool true),
      EqV (v12),
      (SlM (T1 ++ T2 ++ T3)),
      EqV (.slice v4 (T1.length + (T2.length + T3.length)) k4),
      (SlM (T1 ++ T2 ++ T3)),
      EqV (.bool true),
      EqV (.bool true),
      EqV (.bool true),
      EqV (.agg (bufA magic K u1 x1 c1' d1)),
      EqV (.bool true),
      EqV (.bool true),
      EqV (.bool true),
      EqV (.agg (bufA magic K u2 x2 c2' d2)),
      EqV (.bool true),
      EqV (.bool true),
      EqV (.bool true),
      EqV (.agg (bufA magic K u3 x3 c3' d3)),
      EqV (.bool true),
      EqV (.bool true),
      EqV (.bool true),
      EqV (.pointer (some ⟨w10.heap.size, 0, none⟩)),
      EqV (.int .u32 magic),
      EqV (.int .u32 magic),
      EqV (.bool true),
      EqV (.bool true),
      EqV (.bool true)
    ]) (FL_keeps ⟨keeps_eq _, keeps_eq _, keeps_eq _, keeps_eq _, keeps_eq _, keeps_eq _, keeps_eq _, keeps_eq _, keeps_eq _, keeps_eq _, Keeps_slm (T1 ++ T2 ++ T3), keeps_eq _, Keeps_slm (T1 ++ T2 ++ T3), keeps_eq _, keeps_eq _, keeps_eq _, keeps_eq _, keeps_eq _, keeps_eq _, keeps_eq _, keeps_eq _, keeps_eq _, keeps_eq _, keeps_eq _, keeps_eq _, keeps_eq _, keeps_eq _, keeps_eq _, keeps_eq _, keeps_eq _, keeps_eq _, keeps_eq _, keeps_eq _, keeps_eq _, trivial⟩) (by kernel_rfl) rfl rfl rfl rfl ⟨
    .inr ⟨gk0 rfl, fun A w' γ hb hF hs => g_eq (op_move (.tmp 11) (.inl rfl) ((hs.2 11 rfl).trans rfl))⟩,
    .inr ⟨gk0 rfl, fun A w' γ hb hF hs => g_eq (op_move (.tmp 79) (.inl rfl) ((hs.1 0 rfl 79 rfl).trans (hF 0 rfl)))⟩,
    .inr ⟨gkT 1 true rfl rfl 80 rfl (fun _ _ h => h), fun A w' γ hb hF hs => g_eq (op_load_st 38 (.tmp 17) rfl ((hs.2 17 rfl).trans rfl) (KB.out.2.2.1.below hb KB.out.2.2.1.lt) Tryd.underlying38 (iB))⟩,
    .inr ⟨gkT 1 true rfl rfl 80 rfl (fun _ _ h => h), fun A w' γ hb hF hs => g_eq (op_call 17 #[.agg (bufA magic K u3 x3 c3' d3)] (exec_call _ 17 #[.agg (bufA magic K u3 x3 c3' d3)] rfl rfl (oargs1 ((hs.1 2 rfl 81 rfl).trans (hF 2 rfl))) Tryd.func17 rfl rfl) (Theirs_any magic K d3 u3 x3 c3' w'))⟩,
    .inr ⟨gkT 1 true rfl rfl 80 rfl (fun _ _ h => h), fun A w' γ hb hF hs => g_eq (op_load_st 38 (.tmp 19) rfl ((hs.2 19 rfl).trans rfl) (KB.out.2.2.2.below hb KB.out.2.2.2.lt) Tryd.underlying38 (iB))⟩,
    .inr ⟨gkT 1 true rfl rfl 80 rfl (fun _ _ h => h), fun A w' γ hb hF hs => g_eq (op_call 17 #[.agg (bufA magic K u4 x3 c4' d3)] (exec_call _ 17 #[.agg (bufA magic K u4 x3 c4' d3)] rfl rfl (oargs1 ((hs.1 4 rfl 83 rfl).trans (hF 4 rfl))) Tryd.func17 rfl rfl) (Theirs_any magic K d3 u4 x3 c4' w'))⟩,
    .inr ⟨gkT 1 true rfl rfl 80 rfl (fun _ _ h => h), fun A w' γ hb hF hs => g_eq (op_call 16 #[.agg (bufA magic K u3 x3 c3' d3), .agg (bufA magic K u4 x3 c4' d3)] (exec_call _ 16 #[.agg (bufA magic K u3 x3 c3' d3), .agg (bufA magic K u4 x3 c4' d3)] rfl rfl (oargs2 ((hs.1 3 rfl 82 rfl).trans (hF 3 rfl)) ((hs.1 5 rfl 84 rfl).trans (hF 5 rfl))) Tryd.func16 rfl rfl) (J.out.2.2.2.1 w' hb))⟩,
    .inr ⟨gk0 rfl, fun A w' γ hb hF hs => g_eq (op_pick (.tmp 80) (.tmp 85) (.const (.bool false)) true rfl ((hs.1 1 rfl 80 rfl).trans (hF 1 rfl)) ((hs.1 6 rfl 85 rfl).trans (hF 6 rfl)))⟩,
    .inr ⟨gk0 rfl, fun A w' γ hb hF hs => g_eq (op_move (.tmp 86) (.inl rfl) ((hs.1 7 rfl 86 rfl).trans (hF 7 rfl)))⟩,
    .inr ⟨gkT 8 true rfl rfl 87 rfl (fun _ _ h => h), fun A w' γ hb hF hs => g_eq (op_move (.tmp 14) (.inl rfl) ((hs.2 14 rfl).trans rfl))⟩,
    .inr ⟨gkT 8 true rfl rfl 87 rfl (fun _ _ h => h), fun A w' γ hb hF hs => g_call 19 #[v12] (exec_call _ 19 #[v12] rfl rfl (oargs1 ((hs.1 9 rfl 88 rfl).trans (hF 9 rfl))) Tryd.func19 rfl rfl) (J.out.2.2.2.2.1 w' hb)⟩,
    .inr ⟨gkT 8 true rfl rfl 87 rfl (fun _ _ h => h), fun A w' γ hb hF hs => g_eq (op_move (.tmp 20) (.inl rfl) ((hs.2 20 rfl).trans rfl))⟩,
    .inr ⟨gkT 8 true rfl rfl 87 rfl (fun _ _ h => h), fun A w' γ hb hF hs => g_call 19 #[.slice v4 (T1.length + (T2.length + T3.length)) k4] (exec_call _ 19 #[.slice v4 (T1.length + (T2.length + T3.length)) k4] rfl rfl (oargs1 ((hs.1 11 rfl 90 rfl).trans (hF 11 rfl))) Tryd.func19 rfl rfl) (J.out.2.2.2.2.2 w' hb)⟩,
    .inr ⟨gkT 8 true rfl rfl 87 rfl (fun _ _ h => h), fun A w' γ hb hF hs => g_eq (op_call 18 #[γ 10, γ 12] (exec_call _ 18 #[γ 10, γ 12] rfl rfl (oargs2 (hs.1 10 rfl 89 rfl) (hs.1 12 rfl 91 rfl)) Tryd.func18 rfl rfl) (Msgs_true (T1 ++ T2 ++ T3) (γ 10) (γ 12) TH.out.2.2 w' (hF 10 rfl) (hF 12 rfl)))⟩,
    .inr ⟨gk0 rfl, fun A w' γ hb hF hs => g_eq (op_pick (.tmp 87) (.tmp 92) (.const (.bool false)) true rfl ((hs.1 8 rfl 87 rfl).trans (hF 8 rfl)) ((hs.1 13 rfl 92 rfl).trans (hF 13 rfl)))⟩,
    .inr ⟨gk0 rfl, fun A w' γ hb hF hs => g_eq (op_move (.tmp 93) (.inl rfl) ((hs.1 14 rfl 93 rfl).trans (hF 14 rfl)))⟩,
    .inr ⟨gkT 15 true rfl rfl 94 rfl (fun _ _ h => h), fun A w' γ hb hF hs => g_eq (op_load_st 38 (.tmp 13) rfl ((hs.2 13 rfl).trans rfl) (KB.out.1.below hb KB.out.1.lt) Tryd.underlying38 (iB))⟩,
    .inr ⟨gkT 15 true rfl rfl 94 rfl (fun _ _ h => h), fun A w' γ hb hF hs => g_eq (op_call 20 #[.agg (bufA magic K u1 x1 c1' d1)] (exec_call _ 20 #[.agg (bufA magic K u1 x1 c1' d1)] rfl rfl (oargs1 ((hs.1 16 rfl 95 rfl).trans (hF 16 rfl))) Tryd.func20 rfl rfl) (J.out.1 w' hb))⟩,
    .inr ⟨gk0 rfl, fun A w' γ hb hF hs => g_eq (op_pick (.tmp 94) (.tmp 96) (.const (.bool false)) true rfl ((hs.1 15 rfl 94 rfl).trans (hF 15 rfl)) ((hs.1 17 rfl 96 rfl).trans (hF 17 rfl)))⟩,
    .inr ⟨gk0 rfl, fun A w' γ hb hF hs => g_eq (op_move (.tmp 97) (.inl rfl) ((hs.1 18 rfl 97 rfl).trans (hF 18 rfl)))⟩,
    .inr ⟨gkT 19 true rfl rfl 98 rfl (fun _ _ h => h), fun A w' γ hb hF hs => g_eq (op_load_st 38 (.tmp 15) rfl ((hs.2 15 rfl).trans rfl) (KB.out.2.1.below hb KB.out.2.1.lt) Tryd.underlying38 (iB))⟩,
    .inr ⟨gkT 19 true rfl rfl 98 rfl (fun _ _ h => h), fun A w' γ hb hF hs => g_eq (op_call 20 #[.agg (bufA magic K u2 x2 c2' d2)] (exec_call _ 20 #[.agg (bufA magic K u2 x2 c2' d2)] rfl rfl (oargs1 ((hs.1 20 rfl 99 rfl).trans (hF 20 rfl))) Tryd.func20 rfl rfl) (J.out.2.1 w' hb))⟩,
    .inr ⟨gk0 rfl, fun A w' γ hb hF hs => g_eq (op_pick (.tmp 98) (.tmp 100) (.const (.bool false)) true rfl ((hs.1 19 rfl 98 rfl).trans (hF 19 rfl)) ((hs.1 21 rfl 100 rfl).trans (hF 21 rfl)))⟩,
    .inr ⟨gk0 rfl, fun A w' γ hb hF hs => g_eq (op_move (.tmp 101) (.inl rfl) ((hs.1 22 rfl 101 rfl).trans (hF 22 rfl)))⟩,
    .inr ⟨gkT 23 true rfl rfl 102 rfl (fun _ _ h => h), fun A w' γ hb hF hs => g_eq (op_load_st 38 (.tmp 17) rfl ((hs.2 17 rfl).trans rfl) (KB.out.2.2.1.below hb KB.out.2.2.1.lt) Tryd.underlying38 (iB))⟩,
    .inr ⟨gkT 23 true rfl rfl 102 rfl (fun _ _ h => h), fun A w' γ hb hF hs => g_eq (op_call 20 #[.agg (bufA magic K u3 x3 c3' d3)] (exec_call _ 20 #[.agg (bufA magic K u3 x3 c3' d3)] rfl rfl (oargs1 ((hs.1 24 rfl 103 rfl).trans (hF 24 rfl))) Tryd.func20 rfl rfl) (J.out.2.2.1 w' hb))⟩,
    .inr ⟨gk0 rfl, fun A w' γ hb hF hs => g_eq (op_pick (.tmp 102) (.tmp 104) (.const (.bool false)) true rfl ((hs.1 23 rfl 102 rfl).trans (hF 23 rfl)) ((hs.1 25 rfl 104 rfl).trans (hF 25 rfl)))⟩,
    .inr ⟨gk0 rfl, fun A w' γ hb hF hs => g_eq (op_move (.tmp 105) (.inl rfl) ((hs.1 26 rfl 105 rfl).trans (hF 26 rfl)))⟩,
    .inr ⟨gkT 27 true rfl rfl 106 rfl (fun _ _ h => h), fun A w' γ hb hF hs => g_eq (op_fld 38 (.tmp 19) 0 0 rfl (w10.heap.size) ((hs.2 19 rfl).trans rfl) fun _ _ => by kernel_rfl)⟩,
    .inr ⟨gkT 27 true rfl rfl 106 rfl (fun _ _ h => h), fun A w' γ hb hF hs => g_eq (op_cel 22 (.tmp 107) rfl _ ((hs.1 28 rfl 107 rfl).trans (hF 28 rfl)) _ (((KB.out.2.2.2.below hb KB.out.2.2.2.lt).cell 0)) _ Tryd.underlying22 rfl)⟩,
    .inr ⟨gkT 27 true rfl rfl 106 rfl (fun _ _ h => h), fun A w' γ hb hF hs => g_eq (op_move (.tmp 0) (.inl rfl) ((hs.2 0 rfl).trans rfl))⟩,
    .inr ⟨gkT 27 true rfl rfl 106 rfl (fun _ _ h => h), fun A w' γ hb hF hs => g_eq (op_eq_int 22 _ (.tmp 108) (.tmp 109) .u32 (magic) (magic) true rfl ((hs.1 29 rfl 108 rfl).trans (hF 29 rfl)) ((hs.1 30 rfl 109 rfl).trans (hF 30 rfl)) (by simp))⟩,
    .inr ⟨gk0 rfl, fun A w' γ hb hF hs => g_eq (op_pick (.tmp 106) (.tmp 110) (.const (.bool false)) true rfl ((hs.1 27 rfl 106 rfl).trans (hF 27 rfl)) ((hs.1 31 rfl 110 rfl).trans (hF 31 rfl)))⟩,
    .inr ⟨gk0 rfl, fun A w' γ hb hF hs => g_eq (op_move (.tmp 111) (.inr rfl) ((hs.1 32 rfl 111 rfl).trans (hF 32 rfl)))⟩,
    trivial⟩ ?_
  intro γ wz hb hF
  have ez : γ 33 = .bool true := hF 33 (by decide)
  simp only [Fr, if_true, Act.put, List.setIfInBounds_toArray, List.set_cons_zero, List.set_cons_succ]
  rw [ez]
  clear ez hF
  have RB := Lib.hid hb; clear hb
  go_wp2
  go_ret
  exact ⟨rfl, bt BZ'.out RB.out⟩
end Go.Proofs.YticiipddilabfaaDoor
