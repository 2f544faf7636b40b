/- The document's Feed. -/
import Derived.BigQuiet
import Derived.Test.YtlegcceaoglpoaaDoorIsL
import Derived.Test.YtlegcceaoglpoaaDoorIsM
import Derived.Test.YtlegcceaoglpoaaDoorIsN
import Derived.Test.YtlegcceaoglpoaaDoorIsQ
namespace Go.Proofs.YtlegcceaoglpoaaDoor
open Go.RowKit
set_option linter.unusedVariables false
/-- A row of the document's messages, the call's own; what it points at lies in other blocks. -/
def MsgR (b0 : Nat) (T : List MsgT) (v : Value) (W : World) : Prop :=
  ∃ L : List (MsgT × Value), L.map (·.1) = T ∧ W.ownsRow b0 25 2 v T.length (msgCs L) ∧ ∀ x ∈ L, SlO (fun k => b0 ≤ k ∧ some k ≠ v.ownBlock) x.1.2 x.2 W
theorem SlO.app2 {W W' : World} {v v' : Value} {b0 : Nat} {l : List UInt8} {u : Value} (h : SlO (fun k => b0 ≤ k ∧ some k ≠ v.ownBlock) l u W) (hg : W.grownBy W' v.ownBlock) (ho : v'.ownBlock = v.ownBlock ∨ v'.ownBlock = some W.heap.size) : SlO (fun k => b0 ≤ k ∧ some k ≠ v'.ownBlock) l u W' := by
  have h' : SlO (fun k => (b0 ≤ k ∧ some k ≠ v.ownBlock) ∧ k < W.heap.size) l u W := h.mono fun g hg ho => ⟨ho, hg⟩
  exact (h'.keep (kp_grown hg) fun g hg => hg.1.2).mono fun g _ hk => ⟨hk.1.1, apart_grown hg ho hk.2 hk.1.2⟩
theorem MsgR.nil (b0 : Nat) (W : World) : MsgR b0 [] (.slice none 0 0) W := ⟨[], rfl, World.ownsRow_nil _ _ _ _, fun x h => by cases h⟩
theorem MsgR.calls {b0 : Nat} {T : List MsgT} {v : Value} {W W' : World} (h : MsgR b0 T v W) (hb : Below W.heap.size W W') : MsgR b0 T v W' := by
  obtain ⟨L, h1, h2, h3⟩ := h
  exact ⟨L, h1, own2_below h2 hb, fun x hx => (h3 x hx).keep (kp_below (X := fun _ => False) hb) (fun g _ h => h)⟩
theorem MsgR.keep {X : Nat → Prop} {b0 : Nat} {T : List MsgT} {v : Value} {W W' : World} (h : MsgR b0 T v W) (k : Kp X W W') (hx : ∀ g, X g → g < b0) : MsgR b0 T v W' := by
  obtain ⟨L, h1, h2, h3⟩ := h
  refine ⟨L, h1, own_kp h2 k (fun g hg hX => ?_), fun x hx' => (h3 x hx').keep k (fun g hg hX => ?_)⟩
  · have := (h2.lt g hg).1
    have := hx g hX
    omega
  · have := hx g hX
    omega
theorem MsgR.slm {b0 : Nat} {T : List MsgT} {v : Value} {W : World} (h : MsgR b0 T v W) : SlM T v W := by
  obtain ⟨L, h1, h2, h3⟩ := h
  obtain ⟨a, c, e, r1, r2, _, r3⟩ := own2_rdc h2
  exact ⟨L, a, c, e, h1, fun x hx => (h3 x hx).clo, r1, r2, r3⟩
theorem MsgR.own {b0 : Nat} {T : List MsgT} {v : Value} {W : World} (h : MsgR b0 T v W) : ∀ k, v.ownBlock = some k → b0 ≤ k ∧ k < W.heap.size := by
  obtain ⟨L, h1, h2, h3⟩ := h
  exact h2.lt
theorem MsgR.slice {b0 : Nat} {T : List MsgT} {v : Value} {W : World} (h : MsgR b0 T v W) : ∃ a c, v = .slice a T.length c := by
  obtain ⟨L, h1, h2, h3⟩ := h
  exact own2_slice h2
set_option maxRecDepth 100000 in
/-- 'append(v, m)' of one message of the document's. -/
theorem wl_appR {w : World} {ops : Array Oper} {rest : List Oper} {o : Oper} {a : Act} {Q : Exit → Act → World → Prop} {b0 : Nat} {T : List MsgT} {v : Value} (h1 : MsgR b0 T v w) {g : Nat} {c q : List UInt8} {p : Option Addr} {m d : Nat} (hb : Blk w g 25 #[.string (bstr c), .slice p m d]) (hq : SlO (fun k => b0 ≤ k ∧ some k ≠ v.ownBlock) q (.slice p m d) w)
    (hgd : o.guard = none) (s x : Operand) (ho : o.op = .call { callee := .builtin .append, args := #[s, x], argTypes := #[43, 43] }) (hs : a.eval s = v) (hx : a.eval x = .slice (some ⟨g, 0, none⟩) 1 1) (hn : T.length ≤ 1000000) (hbase : b0 ≤ w.heap.size)
    (k : ∀ v' w', MsgR b0 (T ++ [(c, q)]) v' w' → w.grownBy w' v.ownBlock → (v'.ownBlock = v.ownBlock ∨ v'.ownBlock = some w.heap.size) → wpList Tryd.prog ops Q rest (a.put o.dst v') w') : wpList Tryd.prog ops Q (o :: rest) a w := by
  obtain ⟨iM, hi, hz0, hz1, hz2⟩ := info_parts (show (Tryd.prog.info? 25).map (fun i => (i.zero, i.size, i.bytes)) = some (some (.agg #[.string ⟨#[]⟩, .slice none 0 0]), 2, 40) by kernel_rfl)
  obtain ⟨L1, p1, p2, p3⟩ := h1
  refine wpList_append_own_at w hgd s x _ ho b0 25 iM (.agg #[.string ⟨#[]⟩, .slice none 0 0]) 2 40 Tryd.underlying43 hi hz0 hz1 hz2 rfl (by omega) v T.length (msgCs L1) hs p2 ⟨g, 0, none⟩ 1 1 [.string (bstr c), .slice p m d] hx rfl (fun jj u hu => by
    match jj with
    | 0 => injection hu with hu; subst hu; exact blk_get hb 0 _ rfl
    | 1 => injection hu with hu; subst hu; exact blk_get hb 1 _ rfl
    | jj + 2 => cases hu) (by simp [Value.oneCell']) (by unfold maxLen; omega) (by omega) hbase fun v' w' h3 h4 h5 h6 => ?_
  refine k v' w' ⟨L1 ++ [((c, q), .slice p m d)], by rw [List.map_append, p1]; rfl, ?_, fun y hy => ?_⟩ h4 h6
  · rw [List.length_append]
    have e : msgCs (L1 ++ [((c, q), .slice p m d)]) = msgCs L1 ++ [.string (bstr c), .slice p m d] := by unfold msgCs; rw [List.flatMap_append]; rfl
    rw [e]
    exact h3
  · rcases List.mem_append.1 hy with hy | hy
    · exact (p3 y hy).app2 h4 h6
    · obtain rfl := List.mem_singleton.1 hy
      exact hq.app2 h4 h6
theorem SlO.from {O : Nat → Prop} {W : World} {a : Option Addr} {n c k : Nat} {l : List UInt8} (h : SlO O l (.slice a n c) W) (hn : n = l.length) (hk : k ≤ n) : SlO O (l.drop k) (.slice (if c = k then a else Option.map (fun x => x.add k) a) (n - k) (c - k)) W := by
  obtain ⟨a', c', e, h1, h2, h3, h4⟩ := h
  injection e with e1 e2 e3
  subst e1 e3
  refine ⟨_, _, by rw [List.length_drop, ← hn], h1.from hn.symm hk (by omega), by rw [List.length_drop]; omega, by omega, fun h => ?_⟩
  have h0 : a = none := by
    split at h
    · exact h
    · cases a with
      | none => rfl
      | some _ => cases h
  have := h4 h0
  rw [List.length_drop]
  omega
/-- What the document's Feed hands back. -/
def FedR (magic K : Nat) (r : List MsgT × List UInt8 × Int) (v : Value) (w : World) : Prop :=
  ∃ u vl, v = .tuple #[.agg (bufI magic K u r.2.2), vl] ∧ CloV r.2.1 u w ∧ SlM r.1 vl w
theorem rbufI (c : Array Value) (h : c.size = 4) : (Tryd.prog.info? 28).map (·.size) = some c.size := by rw [h]; kernel_rfl
def slLen : Value → Nat
  | .slice _ n _ => n
  | _ => 0
theorem slm_nil (W : World) : SlM [] (.slice none 0 0) W := ⟨[], none, 0, rfl, rfl, (fun x h => by cases h), .inl rfl, Nat.le_refl _, fun _ => ⟨rfl, rfl⟩⟩
set_option maxRecDepth 100000 in
set_option maxHeartbeats 4000000 in
theorem RFeed_any (magic : Nat) (hm : magic < 4294967296) (m bad : Int) (ar : Option Addr) (nr cr : Nat) (rest : List UInt8) (ac : Option Addr) (nc cc : Nat) (cs : List UInt8)
    (hl1 : rest.length = nr) (hl2 : cs.length = nc) (hr1 : nr ≤ cr) (hr2 : cr ≤ 9223372036854775807) (hc1 : nc ≤ cc) (hc2 : cc ≤ 9223372036854775807) (hn1 : nr ≤ 100000) (hn2 : nc ≤ 100000)
    (hno1 : ar = none → nr = 0 ∧ cr = 0) (hno2 : ac = none → nc = 0 ∧ cc = 0) (w : World) (hR1 : RdS w ar rest) (hR2 : RdS w ac cs) :
    Calls Tryd.prog 11 #[.agg #[.int .u32 magic, .int .i64 m, .slice ar nr cr, .int .i64 bad], .slice ac nc cc] w fun e w' => ∃ v, e = .returned v ∧ Below w.heap.size w w' ∧ FedR magic (capN m) (feedF magic m rest bad cs) v w' := by
  have cS := fun w' (h : Below w.heap.size w w') => RFSane_any magic hm m bad ar nr cr rest hl1 hr1 ⟨by omega, by omega⟩ hno1 w' (hR1.calls h)
  have cN := fun w' => RNew_any magic m w'
  have B0 : Below w.heap.size w ((w.alloc (.cells #[.int .u32 magic, .int .i64 m, .slice ar nr cr, .int .i64 bad] 28)).alloc (.cells #[.int .u32 0, .int .i64 0, .slice none 0 0, .int .i64 0] 28)) := ba (ba (Below.refl _ _) _) _
  obtain ⟨K, hK⟩ : ∃ K, K = capN m := ⟨_, rfl⟩
  have K4 : K ≤ 4000000 := by rw [hK]; exact capN_le m
  obtain ⟨R, hR⟩ : ∃ R, R = feedF magic m rest bad cs := ⟨_, rfl⟩
  rw [← hK, ← hR]
  have F := Lib.hid (And.intro cS (And.intro cN (And.intro B0 (And.intro hR1 (And.intro hR2 (And.intro hK hR)))))); clear cS cN B0 hR1 hR2 hK hR
  go_enter Tryd.func11, Tryd.ntmps11
  go_wp2_with fail
  refine (F.out.1 _ F.out.2.2.1).mono ?_
  rintro e w1 ⟨rfl, hb1⟩
  have A0 := ((Blk.newAt w 28 #[.int .u32 magic, .int .i64 m, .slice ar nr cr, .int .i64 bad] rfl).alloc (.cells #[.int .u32 0, .int .i64 0, .slice none 0 0, .int .i64 0] 28)).calls hb1
  have A1 : Blk w1 (w.heap.size + 1) 28 #[.int .u32 0, .int .i64 0, .slice none 0 0, .int .i64 0] := (Blk.second w _ _ _).calls hb1
  have AB : Below w.heap.size w w1 := bt F.out.2.2.1 hb1
  have z1 := A1.lt
  obtain ⟨sv, hsv⟩ : ∃ sv, sv = saneF magic m rest bad := ⟨_, rfl⟩
  rw [← hsv]
  have hK := F.out.2.2.2.2.2.1
  have c0 : w1.cell? ⟨w.heap.size, 0, none⟩ = some (.int .u32 magic) := A0.cell 0
  have c1 : w1.cell? ⟨w.heap.size, 1, none⟩ = some (.int .i64 m) := A0.cell 1
  have c2 : w1.cell? ⟨w.heap.size, 2, none⟩ = some (.slice ar nr cr) := A0.cell 2
  have c3 : w1.cell? ⟨w.heap.size, 3, none⟩ = some (.int .i64 bad) := A0.cell 3
  have G := Lib.hid (And.intro A0 (And.intro A1 (And.intro AB (And.intro hsv hK)))); clear A0 A1 AB hsv hb1 hK
  go_upto_if 13 with fail
  go_cut [] from 14 to 18 (fun wx => ∃ (r1 : List UInt8) (a1 : Option Addr) (n1 c1 : Nat) (b1 : Int), Blk wx w.heap.size 28 #[.int .u32 magic, .int .i64 (K : Nat), .slice a1 n1 c1, .int .i64 b1] ∧ Blk wx (w.heap.size + 1) 28 #[.int .u32 0, .int .i64 0, .slice none 0 0, .int .i64 0] ∧ Below w.heap.size w wx ∧
    R = (if b1 = 0 then fedA magic K (r1 ++ cs) else ([], [], b1)) ∧ r1.length = n1 ∧ RdS w a1 r1 ∧ n1 ≤ c1 ∧ c1 ≤ 9223372036854775807 ∧ n1 ≤ 100000 ∧ (a1 = none → n1 = 0 ∧ c1 = 0) ∧ (b1 ≠ 0 → n1 = 0))
  case first =>
    cases sv with
    | true =>
      go_wp2_with fail
      go_meet
      obtain ⟨A0, A1, AB, hsv, hK⟩ := G.out
      have hs := hsv
      unfold saneF at hs
      have hmK : m = (K : Int) := by
        rw [hK]
        by_cases h : m = (capN m : Int)
        · exact h
        · rw [if_neg h] at hs; cases hs
      refine ⟨rest, ar, nr, cr, bad, A0.to (by rw [← hmK]), A1, AB, ?_, hl1, F.out.2.2.2.1, hr1, hr2, hn1, hno1, fun hb => ?_⟩
      · rw [F.out.2.2.2.2.2.2]
        unfold feedF
        rw [← hsv, hK, if_pos rfl]
      · rw [if_pos (by rw [← hK]; exact hmK), if_neg hb] at hs
        have := of_decide_eq_true hs.symm
        omega
    | false =>
      have CN := F.out.2.1
      rw [← G.out.2.2.2.2] at CN
      have f0 := G.out.1.frozen 0
      have f1 := G.out.1.frozen 1
      have f2 := G.out.1.frozen 2
      have f3 := G.out.1.frozen 3
      have CN2 := Lib.hid CN; clear CN f0 f1 f2 f3
      go_wp2_with fail
      refine (CN2.out _).mono ?_
      rintro e w2 ⟨rfl, hb2⟩
      have B0 := G.out.1.calls hb2
      have B1 := G.out.2.1.calls hb2
      have BB := bt G.out.2.2.1 hb2
      have c0 : w2.cell? ⟨w.heap.size, 0, none⟩ = some (.int .u32 magic) := B0.cell 0
      have c1 : w2.cell? ⟨w.heap.size, 1, none⟩ = some (.int .i64 m) := B0.cell 1
      have c2 : w2.cell? ⟨w.heap.size, 2, none⟩ = some (.slice ar nr cr) := B0.cell 2
      have c3 : w2.cell? ⟨w.heap.size, 3, none⟩ = some (.int .i64 bad) := B0.cell 3
      have f0 := B0.frozen 0
      have f1 := B0.frozen 1
      have f2 := B0.frozen 2
      have f3 := B0.frozen 3
      have HB := Lib.hid (And.intro B0 (And.intro B1 BB)); clear B0 B1 BB hb2
      go_wp2_with fail
      go_meet
      have hK := G.out.2.2.2.2
      refine ⟨[], none, 0, 0, 0, ((((HB.out.1.set_ 0 _).set_ 1 _).set_ 2 _).set_ 3 _).to rfl, (((HB.out.2.1.far (by omega) _).far (by omega) _).far (by omega) _).far (by omega) _, (((HB.out.2.2.setCell (Nat.le_refl _) _).setCell (Nat.le_refl _) _).setCell (Nat.le_refl _) _).setCell (Nat.le_refl _) _, ?_, rfl, .inl rfl, Nat.le_refl _, by omega, by omega, fun _ => ⟨rfl, rfl⟩, fun _ => rfl⟩
      rw [F.out.2.2.2.2.2.2, if_pos rfl]
      unfold feedF
      rw [← G.out.2.2.2.1, if_neg (by simp), ← hK]
      rfl
  case rest =>
    obtain ⟨r1, a1, n1, c1, b1, A0, A1, AB, hR, hl, hr, h1, h2, h3, h4, h5⟩ := hcut
    rename World => wa
    have e0 : wa.cell? ⟨w.heap.size, 0, none⟩ = some (.int .u32 magic) := A0.cell 0
    have e1 : wa.cell? ⟨w.heap.size, 1, none⟩ = some (.int .i64 (K : Nat)) := A0.cell 1
    have e2 : wa.cell? ⟨w.heap.size, 2, none⟩ = some (.slice a1 n1 c1) := A0.cell 2
    have e3 : wa.cell? ⟨w.heap.size, 3, none⟩ = some (.int .i64 b1) := A0.cell 3
    have f0 := A1.frozen 0
    have f1 := A1.frozen 1
    have f2 := A1.frozen 2
    have f3 := A1.frozen 3
    have d0 : wa.cell? ⟨w.heap.size + 1, 0, none⟩ = some (.int .u32 0) := A1.cell 0
    have d1 : wa.cell? ⟨w.heap.size + 1, 1, none⟩ = some (.int .i64 0) := A1.cell 1
    have d2 : wa.cell? ⟨w.heap.size + 1, 2, none⟩ = some (.slice none 0 0) := A1.cell 2
    have d3 : wa.cell? ⟨w.heap.size + 1, 3, none⟩ = some (.int .i64 0) := A1.cell 3
    have z2 := A1.lt
    have z3 : w.heap.size < wa.heap.size := by omega
    clear G
    by_cases hb : b1 = 0
    · subst hb
      have H := Lib.hid (And.intro A0 (And.intro A1 (And.intro AB (And.intro hR (And.intro hl (And.intro hr h5)))))); clear A0 A1 AB hR hl hr h5
      clear f0 f1 f2 f3 d0 d1 d2 d3
      obtain ⟨N, hN⟩ : ∃ N, N = n1 + nc := ⟨_, rfl⟩
      have N2 : N ≤ 200000 := by omega
      obtain ⟨i0, hi, hz0, hz1, hz2⟩ := info_parts (show (Tryd.prog.info? 5).map (fun i => (i.zero, i.size, i.bytes)) = some (some (.int .u8 0), 1, 1) by kernel_rfl)
      have I := Lib.hid (And.intro hi (And.intro hz0 (And.intro hz1 hz2))); clear hi hz0 hz1 hz2
      have own : (wa.alloc (.cells #[] 5)).ownsRow wa.heap.size 5 1 (.slice (some ⟨wa.heap.size, 0, none⟩) 0 0) 0 (([] : List UInt8).map fun c => Value.int .u8 (c.toNat : Int)) := World.ownsRow_made wa #[] 0 (Nat.le_refl _) (by unfold maxLen; omega) rfl
      have k3 : Below wa.heap.size wa (wa.alloc (.cells #[] 5)) := ba (Below.refl _ _) _
      have z4 : wa.heap.size ≤ (wa.alloc (.cells #[] 5)).heap.size := k3.size
      have q2 : (wa.alloc (.cells #[] 5)).cell? ⟨w.heap.size, 2, none⟩ = some (.slice a1 n1 c1) := (H.out.1.calls k3).cell 2
      have O := Lib.hid (And.intro own (And.intro k3 (And.intro ((H.out.2.2.2.2.2.1.calls H.out.2.2.1).calls k3) hN))); clear own k3 hN e0 e1 e2
      go_wp2_with (at_builtin; refine wl_app O.out.1 rfl _ _ 23 rfl Tryd.underlying23 i0 I.out.1 I.out.2.1 I.out.2.2.1 I.out.2.2.2 rfl a1 n1 c1 r1 rfl O.out.2.2.1 H.out.2.2.2.2.1 h4 (by omega) z4 ?_)
      intro v4 w4 o4 g4 _
      replace o4 : w4.ownsRow wa.heap.size 5 1 v4 n1 (r1.map fun c => Value.int .u8 (c.toNat : Int)) := by simpa using o4
      have B4 := below_grown O.out.2.1 g4 z4 (by intro k hk; have := O.out.1.lt k hk; omega)
      obtain ⟨a4, c4, rfl⟩ := own_slice o4
      have z5 : wa.heap.size ≤ w4.heap.size := B4.size
      have O4 := Lib.hid (And.intro o4 (And.intro B4 (And.intro ((F.out.2.2.2.2.1.calls H.out.2.2.1).calls B4) O.out.2.2.2))); clear o4 B4 g4 O q2
      go_wp2_with (at_builtin; refine wl_app O4.out.1 rfl _ _ 23 rfl Tryd.underlying23 i0 I.out.1 I.out.2.1 I.out.2.2.1 I.out.2.2.2 rfl ac nc cc cs rfl O4.out.2.2.1 hl2 hno2 (by omega) z5 ?_)
      intro v5 w5 o5 g5 _
      replace o5 : w5.ownsRow wa.heap.size 5 1 v5 N ((r1 ++ cs).map fun c => Value.int .u8 (c.toNat : Int)) := by rw [O4.out.2.2.2]; simpa using o5
      have B5 := below_grown O4.out.2.1 g5 z5 (by intro k hk; have := O4.out.1.lt k hk; omega)
      have hfr : ∀ k, v5.ownBlock = some k → wa.heap.size ≤ k := fun k hk => (o5.lt k hk).1
      obtain ⟨a5, c5, rfl, q1, q2, q3, q4, q5⟩ := own_rds o5
      have c5m : c5 ≤ 9223372036854775807 := by unfold maxLen at q4; omega
      have hNl : N = (r1 ++ cs).length := q1.symm
      have hRv : R = fedA magic K (r1 ++ cs) := by simpa using H.out.2.2.2.1
      have X0 := H.out.1.calls B5
      have X1 := H.out.2.1.calls B5
      have XB := bt H.out.2.2.1 B5
      have S0 : SlO (fun k => w.heap.size + 2 ≤ k ∧ some k ≠ (Value.slice none 0 0).ownBlock) (r1 ++ cs) (.slice a5 N c5) w5 := ⟨a5, c5, by rw [hNl], q2.rdo (fun g off e _ => ⟨by have := hfr g (by rw [e]; rfl); omega, by simp [Value.ownBlock]⟩), by omega, q4, fun h => by have := q5 h; omega⟩
      have P5 := Lib.hid (And.intro X0 (And.intro X1 (And.intro XB (And.intro S0 (And.intro hNl hRv))))); clear X0 X1 XB S0 q1 q2 q3 q4 q5 o5 B5 g5 O4 H hRv hfr hNl
      go_wp2_with fail
      go_loopw [6, 7] (fun v6 v7 wr => ∃ (T : List MsgT) (rs : List UInt8), MsgR (w.heap.size + 2) T v6 wr ∧ SlO (fun k => w.heap.size + 2 ≤ k ∧ some k ≠ v6.ownBlock) rs v7 wr ∧ Blk wr w.heap.size 28 #[.int .u32 magic, .int .i64 (K : Nat), .slice a1 n1 c1, .int .i64 0] ∧ Blk wr (w.heap.size + 1) 28 #[.int .u32 0, .int .i64 0, .slice none 0 0, .int .i64 0] ∧ Below w.heap.size w wr ∧ PK magic K N (r1 ++ cs) rs T) (fun _ v7 _ => slLen v7)
      case atStart => exact ⟨[], r1 ++ cs, MsgR.nil _ _, P5.out.2.2.2.1, P5.out.1, P5.out.2.1, P5.out.2.2.1, pk_start P5.out.2.2.2.2.1⟩
      case round =>
        obtain ⟨T, rs, hM, hS, X0, X1, XB, hp⟩ := hrel
        obtain ⟨vo, vc, rfl⟩ := hM.slice
        obtain ⟨tl, htl⟩ : ∃ n, n = T.length := ⟨_, rfl⟩
        obtain ⟨n, hn⟩ : ∃ n, n = rs.length := ⟨_, rfl⟩
        have hS' := hS
        obtain ⟨a, c, rfl, s1, s2, s3, s4⟩ := hS'
        have c63 : c ≤ 9223372036854775807 := by unfold maxLen at s3; omega
        have hle := hp.1
        rw [← htl] at hM hS ⊢
        rw [← hn] at hS s2 s4 hle ⊢
        rw [← htl] at hle
        have e0 : wr.cell? ⟨w.heap.size, 0, none⟩ = some (.int .u32 magic) := X0.cell 0
        have e1 : wr.cell? ⟨w.heap.size, 1, none⟩ = some (.int .i64 (K : Nat)) := X0.cell 1
        have e2 : wr.cell? ⟨w.heap.size, 2, none⟩ = some (.slice a1 n1 c1) := X0.cell 2
        have e3 : wr.cell? ⟨w.heap.size, 3, none⟩ = some (.int .i64 0) := X0.cell 3
        have cG := RGet_any magic hm (K : Int) a n c rs hn.symm s2 ⟨by omega, c63⟩ s4 wr s1.rds
        rw [capN_same K K4] at cG
        have n2 : n ≤ 200000 := by omega
        have t2 : tl ≤ 200000 := by omega
        have Y := Lib.hid (And.intro hM (And.intro hS (And.intro X0 (And.intro X1 (And.intro XB (And.intro hp (And.intro cG (And.intro htl (And.intro hn s1))))))))); clear hM hS X0 X1 XB hp cG htl hn s1 hle
        go_wp2_with fail
        refine Y.out.2.2.2.2.2.2.1.mono ?_
        rintro e w6 ⟨v, rfl, hb6, hv⟩
        have X0 := (Y.out.2.2.1.calls hb6)
        have X1 := (Y.out.2.2.2.1.calls hb6)
        have XB := bt Y.out.2.2.2.2.1 hb6
        have M6 := Y.out.1.calls hb6
        have S6 := Y.out.2.1.keep (kp_below (X := fun _ => False) hb6) (fun g _ h => h)
        clear e0 e1 e2 e3
        have e0 : w6.cell? ⟨w.heap.size, 0, none⟩ = some (.int .u32 magic) := X0.cell 0
        have e1 : w6.cell? ⟨w.heap.size, 1, none⟩ = some (.int .i64 (K : Nat)) := X0.cell 1
        have e2 : w6.cell? ⟨w.heap.size, 2, none⟩ = some (.slice a1 n1 c1) := X0.cell 2
        have e3 : w6.cell? ⟨w.heap.size, 3, none⟩ = some (.int .i64 0) := X0.cell 3
        have f0 := X0.frozen 0
        have f1 := X0.frozen 1
        have f2 := X0.frozen 2
        have f3 := X0.frozen 3
        have d0 : w6.cell? ⟨w.heap.size + 1, 0, none⟩ = some (.int .u32 0) := X1.cell 0
        have d1 : w6.cell? ⟨w.heap.size + 1, 1, none⟩ = some (.int .i64 0) := X1.cell 1
        have d2 : w6.cell? ⟨w.heap.size + 1, 2, none⟩ = some (.slice none 0 0) := X1.cell 2
        have d3 : w6.cell? ⟨w.heap.size + 1, 3, none⟩ = some (.int .i64 0) := X1.cell 3
        have h0 := X1.frozen 0
        have h1 := X1.frozen 1
        have h2 := X1.frozen 2
        have h3 := X1.frozen 3
        have z6 := X1.lt
        have z7 : w.heap.size < w6.heap.size := by omega
        cases hg : getG magic K rs with
        | no q =>
          unfold GetV at hv
          rw [hg] at hv
          simp only at hv
          subst hv
          have hR' := pk_no Y.out.2.2.2.2.2.1 hg
          have L6 := Lib.hid (And.intro X0 (And.intro X1 (And.intro XB (And.intro M6 (And.intro S6 hR'))))); have Q := Lib.hid hg; clear X0 X1 XB M6 S6 hR' hg hb6
          by_cases hq : q = 1
          · subst hq
            go_wp2_with fail
            refine bodyPost_ret (v := .tuple #[.agg (bufI magic K (.slice a n c) 0), .slice vo tl vc]) ?_ rfl ⟨_, rfl, ?_, ?_⟩
            · refine Eq.trans (results_ct rfl _ _ (w.heap.size + 1) _ _ ?_ (((((((L6.out.2.1.far (show w.heap.size + 1 ≠ w.heap.size by omega) _).set_ 0 _).set_ 1 _).set_ 2 _).set_ 3 _).alloc _).to rfl) Tryd.underlying28 (rbufI (bufI magic K (.slice a n c) 0) rfl)) ?_ <;> rfl
            · exact ba (((((L6.out.2.2.1.setCell (Nat.le_refl _) _).setCell (show w.heap.size ≤ w.heap.size + 1 by omega) _).setCell (show w.heap.size ≤ w.heap.size + 1 by omega) _).setCell (show w.heap.size ≤ w.heap.size + 1 by omega) _).setCell (show w.heap.size ≤ w.heap.size + 1 by omega) _) _
            · have e := P5.out.2.2.2.2.2.trans L6.out.2.2.2.2.2
              replace e : R = (T, rs, 0) := e.trans (by simp)
              rw [e]
              have kF := (((kp_set w6 w.heap.size 2 (.slice a n c)).mono (Y := fun k => k = w.heap.size ∨ k = w.heap.size + 1) fun k h => .inl h).trans ((kp4 _ (w.heap.size + 1) (.int .u32 magic) (.int .i64 (K : Nat)) (.slice a n c) (.int .i64 0)).mono fun k h => .inr h)).trans (kp_alloc _ _ (.cells #[.string ⟨#[]⟩, .slice none 0 0] 25))
              exact ⟨_, _, rfl, (L6.out.2.2.2.2.1.keep kF (fun g h1 h2 => by omega)).clo, (L6.out.2.2.2.1.keep kF (fun g h => by omega)).slm⟩
          · have hqi : ¬ (q : Int) = 1 := by omega
            have hq0 : ¬ (q : Int) = 0 := by have := getG_no Q.out; omega
            go_wp2_with fail
            refine bodyPost_ret (v := .tuple #[.agg (bufI magic K (.slice none 0 0) (q : Int)), .slice vo tl vc]) ?_ rfl ⟨_, rfl, ?_, ?_⟩
            · refine Eq.trans (results_ct rfl _ _ (w.heap.size + 1) _ _ ?_ ((((((((L6.out.2.1.far (show w.heap.size + 1 ≠ w.heap.size by omega) _).far (show w.heap.size + 1 ≠ w.heap.size by omega) _).set_ 0 _).set_ 1 _).set_ 2 _).set_ 3 _).alloc _).to rfl) Tryd.underlying28 (rbufI (bufI magic K (.slice none 0 0) (q : Int)) rfl)) ?_ <;> rfl
            · exact ba ((((((L6.out.2.2.1.setCell (Nat.le_refl _) _).setCell (Nat.le_refl _) _).setCell (show w.heap.size ≤ w.heap.size + 1 by omega) _).setCell (show w.heap.size ≤ w.heap.size + 1 by omega) _).setCell (show w.heap.size ≤ w.heap.size + 1 by omega) _).setCell (show w.heap.size ≤ w.heap.size + 1 by omega) _) _
            · have e := P5.out.2.2.2.2.2.trans L6.out.2.2.2.2.2
              rw [if_neg hq, if_neg hq] at e
              rw [e]
              have kF := ((((kp_set w6 w.heap.size 2 (.slice none 0 0)).trans (kp_set _ w.heap.size 3 (.int .i64 (q : Int)))).mono (Y := fun k => k = w.heap.size ∨ k = w.heap.size + 1) fun k h => .inl h).trans ((kp4 _ (w.heap.size + 1) (.int .u32 magic) (.int .i64 (K : Nat)) (.slice none 0 0) (.int .i64 (q : Int))).mono fun k h => .inr h)).trans (kp_alloc _ _ (.cells #[.string ⟨#[]⟩, .slice none 0 0] 25))
              exact ⟨_, _, rfl, ⟨none, 0, rfl, .inl rfl, Nat.le_refl _, Nat.zero_le _, fun _ => ⟨rfl, rfl⟩⟩, (L6.out.2.2.2.1.keep kF (fun g h => by omega)).slm⟩
        | yes cm pp =>
          unfold GetV at hv
          rw [hg] at hv
          simp only at hv
          obtain ⟨u, rfl, hu, hfr⟩ := hv
          have hgy := getG_yes hg
          obtain ⟨ua, uc, rfl, hu2⟩ := hu
          have hpay : SlO (fun k => w.heap.size + 2 ≤ k ∧ some k ≠ (Value.slice vo tl vc).ownBlock) pp (.slice ua pp.length uc) w6 := CloV.slo ⟨ua, uc, rfl, hu2⟩ (fun ad n' c' e hlt => by
            have h1 := hfr ad n' c' e
            have h2 := Y.out.2.2.2.1.lt
            refine ⟨by omega, fun h => ?_⟩
            have := (Y.out.1.own _ h.symm).2
            omega)
          obtain ⟨pl, hpl⟩ : ∃ n, n = pp.length := ⟨_, rfl⟩
          obtain ⟨k, hk⟩ : ∃ k, k = 24 + pp.length := ⟨_, rfl⟩
          rw [← hk]
          rw [← hpl] at hpay ⊢
          have hp' := pk_yes Y.out.2.2.2.2.2.1 hg
          rw [← hk] at hp'
          have hkn : k ≤ n := by have := hgy.1; have := Y.out.2.2.2.2.2.2.2.2.1; omega
          have k1 : 1 ≤ k := by omega
          have hbs := fun w => bsMR_run (bstr cm) ua pl uc w
          obtain ⟨S, hS⟩ : ∃ S, S = bstr cm := ⟨_, rfl⟩
          unfold msgC
          rw [← hS] at hbs ⊢
          have NM : Blk (w6.alloc (.cells #[.string S, .slice ua pl uc] 25)) w6.heap.size 25 #[.string S, .slice ua pl uc] := Blk.new _ _ _
          have L6 := Lib.hid (And.intro X0 (And.intro X1 (And.intro XB (And.intro M6 (And.intro S6 (And.intro hp' (And.intro hpay (And.intro hS (And.intro hpl (And.intro hk NM)))))))))); clear X0 X1 XB M6 S6 hp' hpay hS hpl hk NM hg hb6 hu2 hfr hgy
          clear e0 e1 e2 e3 f0 f1 f2 f3 d0 d1 d2 d3 h0 h1 h2 h3
          have kA : Below w6.heap.size w6 ((w6.alloc (.cells #[.string S, .slice ua pl uc] 25)).alloc (.cells #[.string S, .slice ua pl uc] 25)) := ba (ba (Below.refl _ _) _) _
          have NB : Blk ((w6.alloc (.cells #[.string S, .slice ua pl uc] 25)).alloc (.cells #[.string S, .slice ua pl uc] 25)) (w6.heap.size + 1) 25 #[.string (bstr cm), .slice ua pl uc] := by rw [← L6.out.2.2.2.2.2.2.2.1]; exact Blk.second w6 _ _ _
          have zB2 : w.heap.size + 2 ≤ ((w6.alloc (.cells #[.string S, .slice ua pl uc] 25)).alloc (.cells #[.string S, .slice ua pl uc] 25)).heap.size := by simp only [World.size_alloc]; omega
          have kB := kp_below (X := fun _ => False) kA
          have T6 := Lib.hid (And.intro kA (And.intro NB (And.intro (L6.out.2.2.2.1.calls kA) (And.intro (L6.out.2.2.2.2.2.2.1.keep kB (fun g _ h => h)) kB)))); clear kA NB kB
          have tl1 : T.length ≤ 1000000 := by have := Y.out.2.2.2.2.2.2.2.1; omega
          go_wp2_with (at_builtin; refine wl_appR T6.out.2.2.1 T6.out.2.1 T6.out.2.2.2.1 rfl _ _ rfl rfl rfl tl1 zB2 ?_)
          intro v7 w7 M7 g7 ob7
          have kX : Kp (fun g => some g = (Value.slice vo tl vc).ownBlock) w6 w7 := (T6.out.2.2.2.2.mono (fun g h => h.elim)).trans (kp_grown g7)
          have hXo : ∀ g, some g = (Value.slice vo tl vc).ownBlock → w.heap.size + 2 ≤ g := fun g e => (L6.out.2.2.2.1.own g e.symm).1
          have X0' : Blk w7 w.heap.size 28 #[.int .u32 magic, .int .i64 (K : Nat), .slice a1 n1 c1, .int .i64 0] := kX.blk L6.out.1 (fun e => by have := hXo _ e; omega)
          have X1' : Blk w7 (w.heap.size + 1) 28 #[.int .u32 0, .int .i64 0, .slice none 0 0, .int .i64 0] := kX.blk L6.out.2.1 (fun e => by have := hXo _ e; omega)
          have XB' : Below w.heap.size w w7 := kX.below L6.out.2.2.1 (by omega) (fun g hg e => by have := hXo _ e; omega)
          have S7 := (L6.out.2.2.2.2.1.keep T6.out.2.2.2.2 (fun g _ h => h)).app2 (v' := v7) g7 (by simp only [World.size_alloc]; exact ob7)
          obtain ⟨a7, c7, rfl⟩ := M7.slice
          have N7 := Lib.hid (And.intro M7 (And.intro S7 (And.intro X0' (And.intro X1' (And.intro XB' L6.out.2.2.2.2.2.1))))); clear M7 S7 X0' X1' XB' kX g7 ob7 hXo T6
          have hSk := SlO.from N7.out.2.1 Y.out.2.2.2.2.2.2.2.2.1 hkn
          by_cases ck : c = k
          · rw [if_pos ck] at hSk
            have hS8 := Lib.hid hSk; clear hSk
            go_wp2
            go_roundw
            case rel => exact ⟨T ++ [(cm, pp)], rs.drop k, by have := N7.out.1; rw [List.length_append] at this; simpa [← Y.out.2.2.2.2.2.2.2.1] using this, by simpa [ck] using hS8.out, N7.out.2.2.1, N7.out.2.2.2.1, N7.out.2.2.2.2.1, N7.out.2.2.2.2.2⟩
            case measure => simp [slLen]; omega
          · rw [if_neg ck] at hSk
            have hS8 := Lib.hid hSk; clear hSk
            go_wp2
            go_roundw
            case rel => exact ⟨T ++ [(cm, pp)], rs.drop k, N7.out.1, hS8.out, N7.out.2.2.1, N7.out.2.2.2.1, N7.out.2.2.2.2.1, N7.out.2.2.2.2.2⟩
            case measure => simp [slLen]; omega
    · have H := Lib.hid (And.intro A0 (And.intro A1 (And.intro AB (And.intro (hR.trans (if_neg hb)) (And.intro (h5 hb) h4))))); clear A0 A1 AB hR h5 h4
      go_wp2_with fail
      refine bodyPost_ret (v := .tuple #[.agg (bufI magic K (.slice a1 n1 c1) b1), .slice none 0 0]) ?_ rfl ⟨_, rfl, ?_, ?_⟩
      · refine Eq.trans (results_ct rfl _ _ (w.heap.size + 1) _ _ ?_ (((((H.out.2.1.set_ 0 _).set_ 1 _).set_ 2 _).set_ 3 _).to rfl) Tryd.underlying28 (rbufI (bufI magic K (.slice a1 n1 c1) b1) rfl)) ?_ <;> rfl
      · exact (((H.out.2.2.1.setCell (show w.heap.size ≤ w.heap.size + 1 by omega) _).setCell (show w.heap.size ≤ w.heap.size + 1 by omega) _).setCell (show w.heap.size ≤ w.heap.size + 1 by omega) _).setCell (show w.heap.size ≤ w.heap.size + 1 by omega) _
      · rw [H.out.2.2.2.1]
        exact ⟨_, _, rfl, ⟨a1, c1, by rw [H.out.2.2.2.2.1]; rfl, .inl rfl, Nat.zero_le _, by unfold maxLen; omega, fun h => ⟨rfl, (H.out.2.2.2.2.2 h).2⟩⟩, slm_nil _⟩
end Go.Proofs.YtlegcceaoglpoaaDoor
