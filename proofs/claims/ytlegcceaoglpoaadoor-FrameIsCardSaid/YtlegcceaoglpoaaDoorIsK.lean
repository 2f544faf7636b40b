/- Rows of messages: read, compared, laid anew. How arguments are opened: messages and streams of the document's. Single operations of regions: the bits of words. A range over the messages of bytes: the law. -/
import Derived.Test.YtlegcceaoglpoaaDoorIsJ
import Derived.Test.YtlegcceaoglpoaaDoorIsH
import Derived.Deep.Slices
import Derived.Test.YtlegcceaoglpoaaDoorIsE
namespace Go.Proofs.YtlegcceaoglpoaaDoor
open Go.RowKit
set_option linter.unusedVariables false
abbrev MsgT := List UInt8 × List UInt8
/-- Cells are read from a on. -/
def RdC (W : World) (a : Option Addr) (cs : List Value) : Prop := cs = [] ∨ ∃ g o, a = some ⟨g, o, none⟩ ∧ g < W.heap.size ∧ ∀ j u, cs[j]? = some u → W.cell? ⟨g, o + j, none⟩ = some u
theorem RdC.calls {w w' : World} {a : Option Addr} {cs : List Value} (h : RdC w a cs) (hb : Below w.heap.size w w') : RdC w' a cs := by
  rcases h with h | ⟨g, o, h1, h2, h3⟩
  · exact .inl h
  · exact .inr ⟨g, o, h1, Nat.lt_of_lt_of_le h2 hb.size, fun j u hu => (hb.cell (p := ⟨g, o + j, none⟩) h2).trans (h3 j u hu)⟩
theorem RdC.below {B : Nat} {w w' : World} {a : Option Addr} {cs : List Value} (h : RdC w a cs) (hb : Below B w w') (hB : w.heap.size ≤ B) : RdC w' a cs := by
  rcases h with h | ⟨g, o, h1, h2, h3⟩
  · exact .inl h
  · exact .inr ⟨g, o, h1, Nat.lt_of_lt_of_le h2 hb.size, fun j u hu => (hb.cell (p := ⟨g, o + j, none⟩) (Nat.lt_of_lt_of_le h2 hB)).trans (h3 j u hu)⟩
/-- A slice of messages. -/
def SlM (T : List MsgT) (v : Value) (W : World) : Prop := ∃ (L : List (MsgT × Value)) (a : Option Addr) (c : Nat), v = .slice a T.length c ∧ L.map (·.1) = T ∧ (∀ x ∈ L, CloV x.1.2 x.2 W) ∧ RdC W a (msgCs L) ∧ T.length ≤ c ∧ (a = none → T.length = 0 ∧ c = 0)
theorem SlM.calls {T : List MsgT} {v : Value} {w w' : World} (h : SlM T v w) (hb : Below w.heap.size w w') : SlM T v w' := by
  obtain ⟨L, a, c, h1, h2, h3, h4, h5⟩ := h
  exact ⟨L, a, c, h1, h2, fun x hx => (h3 x hx).keep hb, h4.calls hb, h5⟩
theorem MsgL.slm {b0 : Nat} {T : List MsgT} {v : Value} {W : World} (h : MsgL b0 T v W) : SlM T v W := by
  obtain ⟨L, h1, h2, h3⟩ := h
  have hL : L.length = T.length := by rw [← h1, List.length_map]
  rcases h2.2 with ⟨hv, h0⟩ | ⟨g, cap, cur, hv, hb, hg, q1, q2, q3, q4⟩
  · have : L = [] := List.length_eq_zero_iff.1 (by omega)
    subst this
    exact ⟨[], none, 0, by rw [hv, h0], h1, (fun x hx => (by cases hx)), .inl rfl, by omega, fun _ => ⟨h0, rfl⟩⟩
  · refine ⟨L, some ⟨g, 0, none⟩, cap, hv, h1, fun x hx => (h3 x hx).clo, .inr ⟨g, 0, rfl, (show Blk W g _ cur from hg).lt, fun j u hu => ?_⟩, q1, fun h => by cases h⟩
    rw [Nat.zero_add]
    refine blk_get (show Blk W g _ cur from hg) j _ ?_
    rw [← q4, List.getElem?_take] at hu
    split at hu
    · simpa using hu
    · cases hu
theorem SlM.at {T : List MsgT} {a : Option Addr} {n c : Nat} {W : World} (h : SlM T (.slice a n c) W) {i : Nat} {y : MsgT} (hi : T[i]? = some y) :
    ∃ g o p d, a = some ⟨g, o, none⟩ ∧ g < W.heap.size ∧ W.cell? ⟨g, o + 2 * i, none⟩ = some (.string (bstr y.1)) ∧ W.cell? ⟨g, o + 2 * i + 1, none⟩ = some (.slice p y.2.length d) ∧ RdS W p y.2 ∧ y.2.length ≤ d ∧ d ≤ maxLen ∧ (p = none → y.2.length = 0 ∧ d = 0) := by
  obtain ⟨L, a', c', h1, h2, h3, h4, h5, h6⟩ := h
  injection h1 with e1 e2 e3
  subst e1
  obtain ⟨x, hx, hxy⟩ : ∃ x, L[i]? = some x ∧ x.1 = y := by
    rw [← h2, List.getElem?_map] at hi
    cases hL : L[i]? with
    | none => rw [hL] at hi; cases hi
    | some x => rw [hL] at hi; injection hi with hi; exact ⟨x, rfl, hi⟩
  obtain ⟨c1, c2⟩ := msgCs_at L i x hx
  have hm : x ∈ L := List.mem_of_getElem? hx
  obtain ⟨p, d, e4, e5, e6, e7, e8⟩ := h3 x hm
  subst hxy
  rcases h4 with h | ⟨g, o, ha, hg, hc⟩
  · rw [h] at c1; cases c1
  · exact ⟨g, o, p, d, ha, hg, hc _ _ c1, by have := hc _ _ c2; rw [e4] at this; exact this, e5, e6, e7, e8⟩
theorem SlM.len {T : List MsgT} {a : Option Addr} {n c : Nat} {W : World} (h : SlM T (.slice a n c) W) : n = T.length := by
  obtain ⟨L, a', c', h1, _⟩ := h
  injection h1
theorem idx_msgR (b o n c k : Nat) (hk : k < n) (w : World) : (Instr.indexAt 43 (.slice (some ⟨b, o, none⟩) n c) (.int .i64 k)).run Tryd.prog w = .ok (.pointer (some ⟨b, o + 2 * k, none⟩)) w := by
  obtain ⟨i, hi⟩ := Option.isSome_iff_exists.1 (show (Tryd.prog.info? 25).isSome = true by kernel_rfl)
  have h1 : i.size = 2 := by
    have : (Tryd.prog.info? 25).map (·.size) = some 2 := by kernel_rfl
    rw [hi] at this
    simpa using this
  have e1 : (0 : Int) ≤ (k : Int) ∧ (k : Int) < (n : Int) := by omega
  simp [Instr.indexAt, go_sem, run_underlying Tryd.underlying43, asIntOf, sizeOf, typeInfo, hi, h1, e1, Addr.add]
  rw [if_pos hk]
  by_cases h : k = 0
  · simp [h]
  · rw [if_neg (by omega), Nat.mul_comm]
theorem idx_msgF (b o n c k : Nat) (hk : k < n) (w : World) : (Instr.indexAt 39 (.slice (some ⟨b, o, none⟩) n c) (.int .i64 k)).run Tryd.prog w = .ok (.pointer (some ⟨b, o + 2 * k, none⟩)) w := by
  obtain ⟨i, hi⟩ := Option.isSome_iff_exists.1 (show (Tryd.prog.info? 32).isSome = true by kernel_rfl)
  have h1 : i.size = 2 := by
    have : (Tryd.prog.info? 32).map (·.size) = some 2 := by kernel_rfl
    rw [hi] at this
    simpa using this
  have e1 : (0 : Int) ≤ (k : Int) ∧ (k : Int) < (n : Int) := by omega
  simp [Instr.indexAt, go_sem, run_underlying Tryd.underlying39, asIntOf, sizeOf, typeInfo, hi, h1, e1, Addr.add]
  rw [if_pos hk]
  by_cases h : k = 0
  · simp [h]
  · rw [if_neg (by omega), Nat.mul_comm]
theorem bstr_beq (a b : List UInt8) : ((bstr a).toList == (bstr b).toList) = decide (a = b) := by
  rw [bstr_toList, bstr_toList, Bool.eq_iff_iff]
  simp
theorem Below.wk {B : Nat} {a b : World} (h : Below B a b) : Below B a b := h
theorem bstr_eq {a b : List UInt8} : bstr a = bstr b ↔ a = b := by
  constructor
  · intro h
    have := congrArg ByteArray.toList h
    rwa [bstr_toList, bstr_toList] at this
  · rintro rfl; rfl
theorem take_same {T1 T2 : List MsgT} {k : Nat} {x y : MsgT} (h : T1.take k = T2.take k) (h1 : T1[k]? = some x) (h2 : T2[k]? = some y) (he : x = y) : T1.take (k + 1) = T2.take (k + 1) := by
  rw [List.take_add_one, List.take_add_one, h, h1, h2, he]
set_option maxRecDepth 100000 in
set_option maxHeartbeats 4000000 in
theorem Msgs_any (T1 T2 : List MsgT) (a1 : Option Addr) (n1 c1 : Nat) (a2 : Option Addr) (n2 c2 : Nat) (hn : n1 ≤ 140737488355328) (hn2 : n2 ≤ 140737488355328) (w : World) (h1 : SlM T1 (.slice a1 n1 c1) w) (h2 : SlM T2 (.slice a2 n2 c2) w) :
    Calls Tryd.prog 14 #[.slice a1 n1 c1, .slice a2 n2 c2] w fun e w' => e = .returned (.bool (decide (T1 = T2))) ∧ Below w.heap.size w w' := by
  have e1 := h1.len
  have e2 := h2.len
  obtain ⟨b, hb⟩ : ∃ b, b = decide (T1 = T2) := ⟨_, rfl⟩
  rw [← hb]
  have H := Lib.hid (And.intro h1 (And.intro h2 (And.intro e1 (And.intro e2 hb)))); clear h1 h2 e1 e2 hb
  go_enter Tryd.func14, Tryd.ntmps14
  by_cases hne : n1 = n2
  · subst hne
    go_wp2
    go_loopw [5] (fun i wr => ∃ k : Nat, k ≤ n1 ∧ i = .int .i64 k ∧ T1.take k = T2.take k ∧ Below w.heap.size w wr) (fun i _ => n1 - (intOf i).toNat)
    case atStart => exact ⟨0, Nat.zero_le _, rfl, by simp, Below.refl _ _⟩
    case round =>
      obtain ⟨k, hk, rfl, hT, hB⟩ := hrel
      by_cases hlt : k < n1
      · have hlti : (k : Int) < (n1 : Int) := by omega
        obtain ⟨x, hx⟩ : ∃ x, T1[k]? = some x := ⟨_, List.getElem?_eq_getElem (by have := H.out.2.2.1; omega)⟩
        obtain ⟨y, hy⟩ : ∃ y, T2[k]? = some y := ⟨_, List.getElem?_eq_getElem (by have := H.out.2.2.2.1; omega)⟩
        obtain ⟨g, o, p, d, rfl, hg, q1, q2, q3, q4, q5, q6⟩ := (H.out.1.calls hB).at hx
        obtain ⟨g', o', p', d', rfl, hg', r1, r2, r3, r4, r5, r6⟩ := (H.out.2.1.calls hB).at hy
        have s1 := fun w' (h : Below wr.heap.size wr w') => str_of (c := d) (q3.calls h) rfl
        have s2 := fun w' (h : Below wr.heap.size wr w') => str_of (c := d') (r3.calls h) rfl
        have i1 := fun w => idx_msgR g o n1 c1 k hlt w
        have i2 := fun w => idx_msgR g' o' n1 c2 k hlt w
        have b1 := bstr_beq x.1 y.1
        have b2 := bstr_beq x.2 y.2
        obtain ⟨S1, hS1⟩ : ∃ S, S = bstr x.1 := ⟨_, rfl⟩
        obtain ⟨S2, hS2⟩ : ∃ S, S = bstr y.1 := ⟨_, rfl⟩
        obtain ⟨P1, hP1⟩ : ∃ S, S = bstr x.2 := ⟨_, rfl⟩
        obtain ⟨P2, hP2⟩ : ∃ S, S = bstr y.2 := ⟨_, rfl⟩
        rw [← hS1, ← hS2] at b1
        rw [← hP1, ← hP2] at b2
        rw [← hS1] at q1
        rw [← hS2] at r1
        rw [← hP1] at s1
        rw [← hP2] at s2
        obtain ⟨m1, hm1⟩ : ∃ m, m = x.2.length := ⟨_, rfl⟩
        obtain ⟨m2, hm2⟩ : ∃ m, m = y.2.length := ⟨_, rfl⟩
        rw [← hm1] at q2 s1
        rw [← hm2] at r2 s2
        obtain ⟨j1, hj1⟩ : ∃ j, j = o + 2 * k := ⟨_, rfl⟩
        obtain ⟨j2, hj2⟩ : ∃ j, j = o' + 2 * k := ⟨_, rfl⟩
        rw [← hj1] at q1 q2 i1
        rw [← hj2] at r1 r2 i2
        have R := Lib.hid (And.intro i1 (And.intro i2 (And.intro s1 (And.intro s2 (And.intro hT (And.intro hB (And.intro hx hy))))))); clear hT hB hx hy hS1 hS2 hP1 hP2 q3 q4 q5 q6 r3 r4 r5 r6 hm1 hm2 hj1 hj2 i1 i2 s1 s2
        by_cases e1 : x.1 = y.1
        · have g1 : (!(S1.toList == S2.toList)) = false := by rw [b1, decide_eq_true e1]; rfl
          by_cases e2 : x.2 = y.2
          · have g2 : (!(P1.toList == P2.toList)) = false := by rw [b2, decide_eq_true e2]; rfl
            have RR := Lib.hid (And.intro e1 e2); clear e1 e2 b1 b2
            go_wp2_with fail
            refine wp_region_g [some 17, some 18, some 19, some 20, some 21, some 22, some 23, some 24, some 25, some 26, some 27, some 28, some 29, some 30, some 31, some 32, some 33, some 34, some 35, some 36, some 37, some 38, some 39, some 40, some 41, some 42] (FL [
                EqV (.slice (some ⟨g, o, none⟩) n1 c1),
                EqV (.int .i64 k),
                EqV (.pointer (some ⟨g, j1, none⟩)),
                EqV (.pointer (some ⟨g, j1 + 0, none⟩)),
                EqV (.string S1),
                EqV (.slice (some ⟨g', o', none⟩) n1 c2),
                EqV (.int .i64 k),
                EqV (.pointer (some ⟨g', j2, none⟩)),
                EqV (.pointer (some ⟨g', j2 + 0, none⟩)),
                EqV (.string S2),
                EqV (.bool false),
                EqV (.bool false),
                EqV (.slice (some ⟨g, o, none⟩) n1 c1),
                EqV (.int .i64 k),
                EqV (.pointer (some ⟨g, j1, none⟩)),
                EqV (.pointer (some ⟨g, j1 + 1, none⟩)),
                EqV (.slice p m1 d),
                EqV (.string P1),
                EqV (.slice (some ⟨g', o', none⟩) n1 c2),
                EqV (.int .i64 k),
                EqV (.pointer (some ⟨g', j2, none⟩)),
                EqV (.pointer (some ⟨g', j2 + 1, none⟩)),
                EqV (.slice p' m2 d'),
                EqV (.string P2),
                EqV (.bool false),
                EqV (.bool false)
              ]) (FL_keeps ⟨keeps_eq _, keeps_eq _, keeps_eq _, keeps_eq _, keeps_eq _, keeps_eq _, keeps_eq _, keeps_eq _, keeps_eq _, keeps_eq _, keeps_eq _, keeps_eq _, keeps_eq _, keeps_eq _, keeps_eq _, keeps_eq _, keeps_eq _, keeps_eq _, keeps_eq _, keeps_eq _, keeps_eq _, keeps_eq _, keeps_eq _, keeps_eq _, keeps_eq _, keeps_eq _, trivial⟩) (by kernel_rfl) rfl rfl rfl rfl ⟨
              .inr ⟨gk0 rfl, fun A w' γ hb hF hs => g_eq (op_move (.tmp 0) (.inl rfl) ((hs.2 0 rfl).trans rfl))⟩,
              .inr ⟨gk0 rfl, fun A w' γ hb hF hs => g_eq (op_move (.tmp 5) (.inl rfl) ((hs.2 5 rfl).trans rfl))⟩,
              .inr ⟨gk0 rfl, fun A w' γ hb hF hs => g_eq (op_idxa 43 (.tmp 17) (.tmp 18) rfl ((hs.1 0 rfl 17 rfl).trans (hF 0 rfl)) ((hs.1 1 rfl 18 rfl).trans (hF 1 rfl)) (R.out.1 _))⟩,
              .inr ⟨gk0 rfl, fun A w' γ hb hF hs => g_eq (op_mf 25 (.tmp 19) 0 0 rfl (g) (j1) ((hs.1 2 rfl 19 rfl).trans (hF 2 rfl)) fun _ _ _ => by kernel_rfl)⟩,
              .inr ⟨gk0 rfl, fun A w' γ hb hF hs => g_eq (op_cel 9 (.tmp 20) rfl _ ((hs.1 3 rfl 20 rfl).trans (hF 3 rfl)) _ ((hb.cell (p := ⟨g, j1, none⟩) hg).trans q1) _ Tryd.underlying9 rfl)⟩,
              .inr ⟨gk0 rfl, fun A w' γ hb hF hs => g_eq (op_move (.tmp 1) (.inl rfl) ((hs.2 1 rfl).trans rfl))⟩,
              .inr ⟨gk0 rfl, fun A w' γ hb hF hs => g_eq (op_move (.tmp 5) (.inl rfl) ((hs.2 5 rfl).trans rfl))⟩,
              .inr ⟨gk0 rfl, fun A w' γ hb hF hs => g_eq (op_idxa 43 (.tmp 22) (.tmp 23) rfl ((hs.1 5 rfl 22 rfl).trans (hF 5 rfl)) ((hs.1 6 rfl 23 rfl).trans (hF 6 rfl)) (R.out.2.1 _))⟩,
              .inr ⟨gk0 rfl, fun A w' γ hb hF hs => g_eq (op_mf 25 (.tmp 24) 0 0 rfl (g') (j2) ((hs.1 7 rfl 24 rfl).trans (hF 7 rfl)) fun _ _ _ => by kernel_rfl)⟩,
              .inr ⟨gk0 rfl, fun A w' γ hb hF hs => g_eq (op_cel 9 (.tmp 25) rfl _ ((hs.1 8 rfl 25 rfl).trans (hF 8 rfl)) _ ((hb.cell (p := ⟨g', j2, none⟩) hg').trans r1) _ Tryd.underlying9 rfl)⟩,
              .inr ⟨gk0 rfl, fun A w' γ hb hF hs => g_eq (op_nes 9 _ (.tmp 21) (.tmp 26) (S1) (S2) false rfl ((hs.1 4 rfl 21 rfl).trans (hF 4 rfl)) ((hs.1 9 rfl 26 rfl).trans (hF 9 rfl)) (g1))⟩,
              .inr ⟨gk0 rfl, fun A w' γ hb hF hs => g_eq (op_move (.tmp 27) (.inl rfl) ((hs.1 10 rfl 27 rfl).trans (hF 10 rfl)))⟩,
              .inr ⟨gkT 11 false rfl rfl 28 rfl (fun _ _ h => h), fun A w' γ hb hF hs => g_eq (op_move (.tmp 0) (.inl rfl) ((hs.2 0 rfl).trans rfl))⟩,
              .inr ⟨gkT 11 false rfl rfl 28 rfl (fun _ _ h => h), fun A w' γ hb hF hs => g_eq (op_move (.tmp 5) (.inl rfl) ((hs.2 5 rfl).trans rfl))⟩,
              .inr ⟨gkT 11 false rfl rfl 28 rfl (fun _ _ h => h), fun A w' γ hb hF hs => g_eq (op_idxa 43 (.tmp 29) (.tmp 30) rfl ((hs.1 12 rfl 29 rfl).trans (hF 12 rfl)) ((hs.1 13 rfl 30 rfl).trans (hF 13 rfl)) (R.out.1 _))⟩,
              .inr ⟨gkT 11 false rfl rfl 28 rfl (fun _ _ h => h), fun A w' γ hb hF hs => g_eq (op_mf 25 (.tmp 31) 1 1 rfl (g) (j1) ((hs.1 14 rfl 31 rfl).trans (hF 14 rfl)) fun _ _ _ => by kernel_rfl)⟩,
              .inr ⟨gkT 11 false rfl rfl 28 rfl (fun _ _ h => h), fun A w' γ hb hF hs => g_eq (op_cel 23 (.tmp 32) rfl _ ((hs.1 15 rfl 32 rfl).trans (hF 15 rfl)) _ ((hb.cell (p := ⟨g, j1 + 1, none⟩) hg).trans q2) _ Tryd.underlying23 rfl)⟩,
              .inr ⟨gkT 11 false rfl rfl 28 rfl (fun _ _ h => h), fun A w' γ hb hF hs => g_eq (op_conv 23 9 (.tmp 33) rfl ((hs.1 16 rfl 33 rfl).trans (hF 16 rfl)) (R.out.2.2.1 _ hb))⟩,
              .inr ⟨gkT 11 false rfl rfl 28 rfl (fun _ _ h => h), fun A w' γ hb hF hs => g_eq (op_move (.tmp 1) (.inl rfl) ((hs.2 1 rfl).trans rfl))⟩,
              .inr ⟨gkT 11 false rfl rfl 28 rfl (fun _ _ h => h), fun A w' γ hb hF hs => g_eq (op_move (.tmp 5) (.inl rfl) ((hs.2 5 rfl).trans rfl))⟩,
              .inr ⟨gkT 11 false rfl rfl 28 rfl (fun _ _ h => h), fun A w' γ hb hF hs => g_eq (op_idxa 43 (.tmp 35) (.tmp 36) rfl ((hs.1 18 rfl 35 rfl).trans (hF 18 rfl)) ((hs.1 19 rfl 36 rfl).trans (hF 19 rfl)) (R.out.2.1 _))⟩,
              .inr ⟨gkT 11 false rfl rfl 28 rfl (fun _ _ h => h), fun A w' γ hb hF hs => g_eq (op_mf 25 (.tmp 37) 1 1 rfl (g') (j2) ((hs.1 20 rfl 37 rfl).trans (hF 20 rfl)) fun _ _ _ => by kernel_rfl)⟩,
              .inr ⟨gkT 11 false rfl rfl 28 rfl (fun _ _ h => h), fun A w' γ hb hF hs => g_eq (op_cel 23 (.tmp 38) rfl _ ((hs.1 21 rfl 38 rfl).trans (hF 21 rfl)) _ ((hb.cell (p := ⟨g', j2 + 1, none⟩) hg').trans r2) _ Tryd.underlying23 rfl)⟩,
              .inr ⟨gkT 11 false rfl rfl 28 rfl (fun _ _ h => h), fun A w' γ hb hF hs => g_eq (op_conv 23 9 (.tmp 39) rfl ((hs.1 22 rfl 39 rfl).trans (hF 22 rfl)) (R.out.2.2.2.1 _ hb))⟩,
              .inr ⟨gkT 11 false rfl rfl 28 rfl (fun _ _ h => h), fun A w' γ hb hF hs => g_eq (op_nes 9 _ (.tmp 34) (.tmp 40) (P1) (P2) false rfl ((hs.1 17 rfl 34 rfl).trans (hF 17 rfl)) ((hs.1 23 rfl 40 rfl).trans (hF 23 rfl)) (g2))⟩,
              .inr ⟨gk0 rfl, fun A w' γ hb hF hs => g_eq (op_pick (.tmp 28) (.const (.bool true)) (.tmp 41) false rfl ((hs.1 11 rfl 28 rfl).trans (hF 11 rfl)) ((hs.1 24 rfl 41 rfl).trans (hF 24 rfl)))⟩,
              trivial⟩ ?_
            intro γ wx hb hF
            have ez : γ 25 = .bool false := hF 25 (by decide)
            simp only [Fr, if_true, Act.put, List.setIfInBounds_toArray, List.set_cons_zero, List.set_cons_succ]
            rw [ez]
            clear ez hF
            clear g1 g2 q1 q2 r1 r2
            have RB := Lib.hid hb; clear hb
            go_wp2
            go_roundw
            case rel => exact ⟨k + 1, by omega, by go_num, take_same R.out.2.2.2.2.1 R.out.2.2.2.2.2.2.1 R.out.2.2.2.2.2.2.2 (Prod.ext RR.out.1 RR.out.2), bt R.out.2.2.2.2.2.1 RB.out⟩
            case measure => simp [intOf]; omega
          · have g2 : (!(P1.toList == P2.toList)) = true := by rw [b2, decide_eq_false e2]; rfl
            have hbf : b = false := by
              rw [H.out.2.2.2.2]
              exact decide_eq_false fun h => e2 (by have h1 := R.out.2.2.2.2.2.2.1; rw [h, R.out.2.2.2.2.2.2.2] at h1; injection h1 with h1; rw [h1])
            have RR := Lib.hid hbf; clear e1 e2 b1 b2 hbf
            go_wp2_with fail
            refine wp_region_g [some 17, some 18, some 19, some 20, some 21, some 22, some 23, some 24, some 25, some 26, some 27, some 28, some 29, some 30, some 31, some 32, some 33, some 34, some 35, some 36, some 37, some 38, some 39, some 40, some 41, some 42] (FL [
                EqV (.slice (some ⟨g, o, none⟩) n1 c1),
                EqV (.int .i64 k),
                EqV (.pointer (some ⟨g, j1, none⟩)),
                EqV (.pointer (some ⟨g, j1 + 0, none⟩)),
                EqV (.string S1),
                EqV (.slice (some ⟨g', o', none⟩) n1 c2),
                EqV (.int .i64 k),
                EqV (.pointer (some ⟨g', j2, none⟩)),
                EqV (.pointer (some ⟨g', j2 + 0, none⟩)),
                EqV (.string S2),
                EqV (.bool false),
                EqV (.bool false),
                EqV (.slice (some ⟨g, o, none⟩) n1 c1),
                EqV (.int .i64 k),
                EqV (.pointer (some ⟨g, j1, none⟩)),
                EqV (.pointer (some ⟨g, j1 + 1, none⟩)),
                EqV (.slice p m1 d),
                EqV (.string P1),
                EqV (.slice (some ⟨g', o', none⟩) n1 c2),
                EqV (.int .i64 k),
                EqV (.pointer (some ⟨g', j2, none⟩)),
                EqV (.pointer (some ⟨g', j2 + 1, none⟩)),
                EqV (.slice p' m2 d'),
                EqV (.string P2),
                EqV (.bool true),
                EqV (.bool true)
              ]) (FL_keeps ⟨keeps_eq _, keeps_eq _, keeps_eq _, keeps_eq _, keeps_eq _, keeps_eq _, keeps_eq _, keeps_eq _, keeps_eq _, keeps_eq _, keeps_eq _, keeps_eq _, keeps_eq _, keeps_eq _, keeps_eq _, keeps_eq _, keeps_eq _, keeps_eq _, keeps_eq _, keeps_eq _, keeps_eq _, keeps_eq _, keeps_eq _, keeps_eq _, keeps_eq _, keeps_eq _, trivial⟩) (by kernel_rfl) rfl rfl rfl rfl ⟨
              .inr ⟨gk0 rfl, fun A w' γ hb hF hs => g_eq (op_move (.tmp 0) (.inl rfl) ((hs.2 0 rfl).trans rfl))⟩,
              .inr ⟨gk0 rfl, fun A w' γ hb hF hs => g_eq (op_move (.tmp 5) (.inl rfl) ((hs.2 5 rfl).trans rfl))⟩,
              .inr ⟨gk0 rfl, fun A w' γ hb hF hs => g_eq (op_idxa 43 (.tmp 17) (.tmp 18) rfl ((hs.1 0 rfl 17 rfl).trans (hF 0 rfl)) ((hs.1 1 rfl 18 rfl).trans (hF 1 rfl)) (R.out.1 _))⟩,
              .inr ⟨gk0 rfl, fun A w' γ hb hF hs => g_eq (op_mf 25 (.tmp 19) 0 0 rfl (g) (j1) ((hs.1 2 rfl 19 rfl).trans (hF 2 rfl)) fun _ _ _ => by kernel_rfl)⟩,
              .inr ⟨gk0 rfl, fun A w' γ hb hF hs => g_eq (op_cel 9 (.tmp 20) rfl _ ((hs.1 3 rfl 20 rfl).trans (hF 3 rfl)) _ ((hb.cell (p := ⟨g, j1, none⟩) hg).trans q1) _ Tryd.underlying9 rfl)⟩,
              .inr ⟨gk0 rfl, fun A w' γ hb hF hs => g_eq (op_move (.tmp 1) (.inl rfl) ((hs.2 1 rfl).trans rfl))⟩,
              .inr ⟨gk0 rfl, fun A w' γ hb hF hs => g_eq (op_move (.tmp 5) (.inl rfl) ((hs.2 5 rfl).trans rfl))⟩,
              .inr ⟨gk0 rfl, fun A w' γ hb hF hs => g_eq (op_idxa 43 (.tmp 22) (.tmp 23) rfl ((hs.1 5 rfl 22 rfl).trans (hF 5 rfl)) ((hs.1 6 rfl 23 rfl).trans (hF 6 rfl)) (R.out.2.1 _))⟩,
              .inr ⟨gk0 rfl, fun A w' γ hb hF hs => g_eq (op_mf 25 (.tmp 24) 0 0 rfl (g') (j2) ((hs.1 7 rfl 24 rfl).trans (hF 7 rfl)) fun _ _ _ => by kernel_rfl)⟩,
              .inr ⟨gk0 rfl, fun A w' γ hb hF hs => g_eq (op_cel 9 (.tmp 25) rfl _ ((hs.1 8 rfl 25 rfl).trans (hF 8 rfl)) _ ((hb.cell (p := ⟨g', j2, none⟩) hg').trans r1) _ Tryd.underlying9 rfl)⟩,
              .inr ⟨gk0 rfl, fun A w' γ hb hF hs => g_eq (op_nes 9 _ (.tmp 21) (.tmp 26) (S1) (S2) false rfl ((hs.1 4 rfl 21 rfl).trans (hF 4 rfl)) ((hs.1 9 rfl 26 rfl).trans (hF 9 rfl)) (g1))⟩,
              .inr ⟨gk0 rfl, fun A w' γ hb hF hs => g_eq (op_move (.tmp 27) (.inl rfl) ((hs.1 10 rfl 27 rfl).trans (hF 10 rfl)))⟩,
              .inr ⟨gkT 11 false rfl rfl 28 rfl (fun _ _ h => h), fun A w' γ hb hF hs => g_eq (op_move (.tmp 0) (.inl rfl) ((hs.2 0 rfl).trans rfl))⟩,
              .inr ⟨gkT 11 false rfl rfl 28 rfl (fun _ _ h => h), fun A w' γ hb hF hs => g_eq (op_move (.tmp 5) (.inl rfl) ((hs.2 5 rfl).trans rfl))⟩,
              .inr ⟨gkT 11 false rfl rfl 28 rfl (fun _ _ h => h), fun A w' γ hb hF hs => g_eq (op_idxa 43 (.tmp 29) (.tmp 30) rfl ((hs.1 12 rfl 29 rfl).trans (hF 12 rfl)) ((hs.1 13 rfl 30 rfl).trans (hF 13 rfl)) (R.out.1 _))⟩,
              .inr ⟨gkT 11 false rfl rfl 28 rfl (fun _ _ h => h), fun A w' γ hb hF hs => g_eq (op_mf 25 (.tmp 31) 1 1 rfl (g) (j1) ((hs.1 14 rfl 31 rfl).trans (hF 14 rfl)) fun _ _ _ => by kernel_rfl)⟩,
              .inr ⟨gkT 11 false rfl rfl 28 rfl (fun _ _ h => h), fun A w' γ hb hF hs => g_eq (op_cel 23 (.tmp 32) rfl _ ((hs.1 15 rfl 32 rfl).trans (hF 15 rfl)) _ ((hb.cell (p := ⟨g, j1 + 1, none⟩) hg).trans q2) _ Tryd.underlying23 rfl)⟩,
              .inr ⟨gkT 11 false rfl rfl 28 rfl (fun _ _ h => h), fun A w' γ hb hF hs => g_eq (op_conv 23 9 (.tmp 33) rfl ((hs.1 16 rfl 33 rfl).trans (hF 16 rfl)) (R.out.2.2.1 _ hb))⟩,
              .inr ⟨gkT 11 false rfl rfl 28 rfl (fun _ _ h => h), fun A w' γ hb hF hs => g_eq (op_move (.tmp 1) (.inl rfl) ((hs.2 1 rfl).trans rfl))⟩,
              .inr ⟨gkT 11 false rfl rfl 28 rfl (fun _ _ h => h), fun A w' γ hb hF hs => g_eq (op_move (.tmp 5) (.inl rfl) ((hs.2 5 rfl).trans rfl))⟩,
              .inr ⟨gkT 11 false rfl rfl 28 rfl (fun _ _ h => h), fun A w' γ hb hF hs => g_eq (op_idxa 43 (.tmp 35) (.tmp 36) rfl ((hs.1 18 rfl 35 rfl).trans (hF 18 rfl)) ((hs.1 19 rfl 36 rfl).trans (hF 19 rfl)) (R.out.2.1 _))⟩,
              .inr ⟨gkT 11 false rfl rfl 28 rfl (fun _ _ h => h), fun A w' γ hb hF hs => g_eq (op_mf 25 (.tmp 37) 1 1 rfl (g') (j2) ((hs.1 20 rfl 37 rfl).trans (hF 20 rfl)) fun _ _ _ => by kernel_rfl)⟩,
              .inr ⟨gkT 11 false rfl rfl 28 rfl (fun _ _ h => h), fun A w' γ hb hF hs => g_eq (op_cel 23 (.tmp 38) rfl _ ((hs.1 21 rfl 38 rfl).trans (hF 21 rfl)) _ ((hb.cell (p := ⟨g', j2 + 1, none⟩) hg').trans r2) _ Tryd.underlying23 rfl)⟩,
              .inr ⟨gkT 11 false rfl rfl 28 rfl (fun _ _ h => h), fun A w' γ hb hF hs => g_eq (op_conv 23 9 (.tmp 39) rfl ((hs.1 22 rfl 39 rfl).trans (hF 22 rfl)) (R.out.2.2.2.1 _ hb))⟩,
              .inr ⟨gkT 11 false rfl rfl 28 rfl (fun _ _ h => h), fun A w' γ hb hF hs => g_eq (op_nes 9 _ (.tmp 34) (.tmp 40) (P1) (P2) true rfl ((hs.1 17 rfl 34 rfl).trans (hF 17 rfl)) ((hs.1 23 rfl 40 rfl).trans (hF 23 rfl)) (g2))⟩,
              .inr ⟨gk0 rfl, fun A w' γ hb hF hs => g_eq (op_pick (.tmp 28) (.const (.bool true)) (.tmp 41) false rfl ((hs.1 11 rfl 28 rfl).trans (hF 11 rfl)) ((hs.1 24 rfl 41 rfl).trans (hF 24 rfl)))⟩,
              trivial⟩ ?_
            intro γ wx hb hF
            have ez : γ 25 = .bool true := hF 25 (by decide)
            simp only [Fr, if_true, Act.put, List.setIfInBounds_toArray, List.set_cons_zero, List.set_cons_succ]
            rw [ez]
            clear ez hF
            clear g1 g2 q1 q2 r1 r2
            have RB := Lib.hid hb; clear hb
            go_wp2
            go_ret
            exact ⟨ret_b RR.out.symm, bt R.out.2.2.2.2.2.1 RB.out⟩
        · have g1 : (!(S1.toList == S2.toList)) = true := by rw [b1, decide_eq_false e1]; rfl
          have hbf : b = false := by
            rw [H.out.2.2.2.2]
            exact decide_eq_false fun h => e1 (by have h1 := R.out.2.2.2.2.2.2.1; rw [h, R.out.2.2.2.2.2.2.2] at h1; injection h1 with h1; rw [h1])
          have RR := Lib.hid hbf; clear e1 b1 b2 hbf
          go_wp2_with fail
          refine wp_region_g [some 17, some 18, some 19, some 20, some 21, some 22, some 23, some 24, some 25, some 26, some 27, some 28, some 29, some 30, some 31, some 32, some 33, some 34, some 35, some 36, some 37, some 38, some 39, some 40, some 41, some 42] (FL [
              EqV (.slice (some ⟨g, o, none⟩) n1 c1),
              EqV (.int .i64 k),
              EqV (.pointer (some ⟨g, j1, none⟩)),
              EqV (.pointer (some ⟨g, j1 + 0, none⟩)),
              EqV (.string S1),
              EqV (.slice (some ⟨g', o', none⟩) n1 c2),
              EqV (.int .i64 k),
              EqV (.pointer (some ⟨g', j2, none⟩)),
              EqV (.pointer (some ⟨g', j2 + 0, none⟩)),
              EqV (.string S2),
              EqV (.bool true),
              EqV (.bool true),
              EqV (undef),
              EqV (undef),
              EqV (undef),
              EqV (undef),
              EqV (undef),
              EqV (undef),
              EqV (undef),
              EqV (undef),
              EqV (undef),
              EqV (undef),
              EqV (undef),
              EqV (undef),
              EqV (undef),
              EqV (.bool true)
            ]) (FL_keeps ⟨keeps_eq _, keeps_eq _, keeps_eq _, keeps_eq _, keeps_eq _, keeps_eq _, keeps_eq _, keeps_eq _, keeps_eq _, keeps_eq _, keeps_eq _, keeps_eq _, keeps_eq _, keeps_eq _, keeps_eq _, keeps_eq _, keeps_eq _, keeps_eq _, keeps_eq _, keeps_eq _, keeps_eq _, keeps_eq _, keeps_eq _, keeps_eq _, keeps_eq _, keeps_eq _, trivial⟩) (by kernel_rfl) rfl rfl rfl rfl ⟨
            .inr ⟨gk0 rfl, fun A w' γ hb hF hs => g_eq (op_move (.tmp 0) (.inl rfl) ((hs.2 0 rfl).trans rfl))⟩,
            .inr ⟨gk0 rfl, fun A w' γ hb hF hs => g_eq (op_move (.tmp 5) (.inl rfl) ((hs.2 5 rfl).trans rfl))⟩,
            .inr ⟨gk0 rfl, fun A w' γ hb hF hs => g_eq (op_idxa 43 (.tmp 17) (.tmp 18) rfl ((hs.1 0 rfl 17 rfl).trans (hF 0 rfl)) ((hs.1 1 rfl 18 rfl).trans (hF 1 rfl)) (R.out.1 _))⟩,
            .inr ⟨gk0 rfl, fun A w' γ hb hF hs => g_eq (op_mf 25 (.tmp 19) 0 0 rfl (g) (j1) ((hs.1 2 rfl 19 rfl).trans (hF 2 rfl)) fun _ _ _ => by kernel_rfl)⟩,
            .inr ⟨gk0 rfl, fun A w' γ hb hF hs => g_eq (op_cel 9 (.tmp 20) rfl _ ((hs.1 3 rfl 20 rfl).trans (hF 3 rfl)) _ ((hb.cell (p := ⟨g, j1, none⟩) hg).trans q1) _ Tryd.underlying9 rfl)⟩,
            .inr ⟨gk0 rfl, fun A w' γ hb hF hs => g_eq (op_move (.tmp 1) (.inl rfl) ((hs.2 1 rfl).trans rfl))⟩,
            .inr ⟨gk0 rfl, fun A w' γ hb hF hs => g_eq (op_move (.tmp 5) (.inl rfl) ((hs.2 5 rfl).trans rfl))⟩,
            .inr ⟨gk0 rfl, fun A w' γ hb hF hs => g_eq (op_idxa 43 (.tmp 22) (.tmp 23) rfl ((hs.1 5 rfl 22 rfl).trans (hF 5 rfl)) ((hs.1 6 rfl 23 rfl).trans (hF 6 rfl)) (R.out.2.1 _))⟩,
            .inr ⟨gk0 rfl, fun A w' γ hb hF hs => g_eq (op_mf 25 (.tmp 24) 0 0 rfl (g') (j2) ((hs.1 7 rfl 24 rfl).trans (hF 7 rfl)) fun _ _ _ => by kernel_rfl)⟩,
            .inr ⟨gk0 rfl, fun A w' γ hb hF hs => g_eq (op_cel 9 (.tmp 25) rfl _ ((hs.1 8 rfl 25 rfl).trans (hF 8 rfl)) _ ((hb.cell (p := ⟨g', j2, none⟩) hg').trans r1) _ Tryd.underlying9 rfl)⟩,
            .inr ⟨gk0 rfl, fun A w' γ hb hF hs => g_eq (op_nes 9 _ (.tmp 21) (.tmp 26) (S1) (S2) true rfl ((hs.1 4 rfl 21 rfl).trans (hF 4 rfl)) ((hs.1 9 rfl 26 rfl).trans (hF 9 rfl)) (g1))⟩,
            .inr ⟨gk0 rfl, fun A w' γ hb hF hs => g_eq (op_move (.tmp 27) (.inl rfl) ((hs.1 10 rfl 27 rfl).trans (hF 10 rfl)))⟩,
            .inl ⟨gkF 11 false rfl rfl 28 rfl (fun _ _ h => h), fun _ => rfl⟩,
            .inl ⟨gkF 11 false rfl rfl 28 rfl (fun _ _ h => h), fun _ => rfl⟩,
            .inl ⟨gkF 11 false rfl rfl 28 rfl (fun _ _ h => h), fun _ => rfl⟩,
            .inl ⟨gkF 11 false rfl rfl 28 rfl (fun _ _ h => h), fun _ => rfl⟩,
            .inl ⟨gkF 11 false rfl rfl 28 rfl (fun _ _ h => h), fun _ => rfl⟩,
            .inl ⟨gkF 11 false rfl rfl 28 rfl (fun _ _ h => h), fun _ => rfl⟩,
            .inl ⟨gkF 11 false rfl rfl 28 rfl (fun _ _ h => h), fun _ => rfl⟩,
            .inl ⟨gkF 11 false rfl rfl 28 rfl (fun _ _ h => h), fun _ => rfl⟩,
            .inl ⟨gkF 11 false rfl rfl 28 rfl (fun _ _ h => h), fun _ => rfl⟩,
            .inl ⟨gkF 11 false rfl rfl 28 rfl (fun _ _ h => h), fun _ => rfl⟩,
            .inl ⟨gkF 11 false rfl rfl 28 rfl (fun _ _ h => h), fun _ => rfl⟩,
            .inl ⟨gkF 11 false rfl rfl 28 rfl (fun _ _ h => h), fun _ => rfl⟩,
            .inl ⟨gkF 11 false rfl rfl 28 rfl (fun _ _ h => h), fun _ => rfl⟩,
            .inr ⟨gk0 rfl, fun A w' γ hb hF hs => g_eq (op_pick (.tmp 28) (.const (.bool true)) (.tmp 41) true rfl ((hs.1 11 rfl 28 rfl).trans (hF 11 rfl)) rfl)⟩,
            trivial⟩ ?_
          intro γ wx hb hF
          have ez : γ 25 = .bool true := hF 25 (by decide)
          simp only [Fr, if_true, Act.put, List.setIfInBounds_toArray, List.set_cons_zero, List.set_cons_succ]
          rw [ez]
          clear ez hF
          clear g1 q1 q2 r1 r2
          have RB := Lib.hid hb; clear hb
          go_wp2
          go_ret
          exact ⟨ret_b RR.out.symm, bt R.out.2.2.2.2.2.1 RB.out⟩
      · obtain rfl : k = n1 := by omega
        have hbt : b = true := by
          rw [H.out.2.2.2.2]
          have h1 := H.out.2.2.1
          have h2 := H.out.2.2.2.1
          rw [List.take_of_length_le (by omega), List.take_of_length_le (by omega)] at hT
          exact decide_eq_true hT
        have RR := Lib.hid (And.intro hbt hB); clear hbt hB hT
        go_wp2
        go_ret
        exact ⟨ret_b RR.out.1.symm, RR.out.2⟩
  · have hbf : b = false := by
      rw [H.out.2.2.2.2]
      exact decide_eq_false fun h => hne (by rw [H.out.2.2.1, H.out.2.2.2.1, h])
    have hnei : ¬ (n1 : Int) = (n2 : Int) := by omega
    have RR := Lib.hid hbf; clear hbf
    go_wp2
    go_ret
    exact ⟨ret_b RR.out.symm, Below.refl _ _⟩
end Go.Proofs.YtlegcceaoglpoaaDoor

namespace Go.Proofs.YtlegcceaoglpoaaDoor
open Go.ChangeShapes Go.WideShapes Go.ChangeAt Go.RowKit Go.Deep
set_option linter.unusedVariables false
theorem bstr_ex (s : ByteArray) : ∃ l, s = bstr l ∧ l.length = s.size := by
  obtain ⟨a⟩ := s
  refine ⟨a.toList, ?_, by simp [ByteArray.size]⟩
  unfold bstr
  simp
theorem list_of {α : Type} (Q : Nat → α → Prop) : ∀ n, (∀ i, i < n → ∃ x, Q i x) → ∃ L : List α, L.length = n ∧ ∀ i x, L[i]? = some x → Q i x
  | 0, _ => ⟨[], rfl, fun i x h => by simp at h⟩
  | n + 1, h => by
    obtain ⟨L, h1, h2⟩ := list_of Q n (fun i hi => h i (by omega))
    obtain ⟨y, hy⟩ := h n (by omega)
    refine ⟨L ++ [y], by rw [List.length_append, h1]; rfl, fun i x hx => ?_⟩
    by_cases hi : i < n
    · rw [List.getElem?_append_left (by omega)] at hx
      exact h2 i x hx
    · rw [List.getElem?_append_right (by omega)] at hx
      obtain rfl : i = n := by
        have := (List.getElem?_eq_some_iff.1 hx).1
        simp at this
        omega
      rw [h1, Nat.sub_self] at hx
      injection hx with hx
      exact hx ▸ hy
theorem weightsAll_mem {H : Type} {P : Program} {e : TypeId} : ∀ {l : List (DataW H)}, (DataW.weightsAll P e l).all (· ≤ reachBytes) = true → ∀ d ∈ l, (DataW.weights P e d).all (· ≤ reachBytes) = true
  | [], _, d, hd => by cases hd
  | x :: r, h, d, hd => by
    simp only [DataW.weightsAll, List.all_append, Bool.and_eq_true] at h
    rcases List.mem_cons.1 hd with rfl | hd
    · exact h.1
    · exact weightsAll_mem h.2 d hd
section
variable {H : Type} {enc : TypeId × Value → H} {w : World}
set_option maxRecDepth 100000 in
theorem bytes_ok {n : Nat} {cs : List Value} {d : DataW H} {pl : List MemPlace} (h : DataW.trod enc Tryd.prog w 0 (fun _ => true) true n 23 cs = some (d, pl)) (hwt : (DataW.weights Tryd.prog 23 d).all (· ≤ reachBytes) = true) :
    ∃ (a : Option Addr) (c : Nat) (l : List UInt8), cs = [.slice a l.length c] ∧ CloV l (.slice a l.length c) w ∧ c ≤ 140737488355328 := by
  obtain ⟨a0, len, cap, rfl⟩ : ∃ a len cap, cs = [.slice a len cap] := by
    rcases open_slice Tryd.underlying23 h with ⟨hcs, _⟩ | ⟨a, len, cap, _, _, _, _, hcs, _⟩
    · exact ⟨_, _, _, hcs⟩
    · exact ⟨_, _, _, hcs⟩
  obtain ⟨a', n', c', l, he, q1, q2, q3, q4, q5⟩ := open_bytes_at Tryd.underlying23 Tryd.underlying5 (by kernel_rfl) (by kernel_rfl) h hwt
  subst q1
  rw [he]
  exact ⟨a', c', l, rfl, ⟨a', c', rfl, q5, q2, by unfold maxLen; omega, q4⟩, q3⟩
set_option maxRecDepth 100000 in
theorem msg_ok {n : Nat} {cs : List Value} {d : DataW H} {pl : List MemPlace} (h : DataW.trod enc Tryd.prog w 0 (fun _ => true) true n 25 cs = some (d, pl)) (hwt : (DataW.weights Tryd.prog 25 d).all (· ≤ reachBytes) = true) :
    ∃ (x : MsgT) (a : Option Addr) (c : Nat), cs = [.string (bstr x.1), .slice a x.2.length c] ∧ CloV x.2 (.slice a x.2.length c) w ∧ c ≤ 140737488355328 ∧ x.1.length ≤ maxLen := by
  obtain ⟨xs, m, _, hx, hl, hlen, hf⟩ := DataW.trod_struct Tryd.underlying25 h
  have hl2 : cs.length = 2 := hl.trans (by kernel_rfl)
  have hlen2 : xs.length = 2 := hlen
  obtain ⟨c0, c1, rfl⟩ : ∃ c0 c1, cs = [c0, c1] := by
    match cs, hl2 with
    | [c0, c1], _ => exact ⟨_, _, rfl⟩
  obtain ⟨u0, u1, rfl⟩ : ∃ u0 u1, xs = [u0, u1] := by
    match xs, hlen2 with
    | [u0, u1], _ => exact ⟨_, _, rfl⟩
  have h0 : DataW.trod enc Tryd.prog w 0 (fun _ => true) true m 9 [c0] = some u0 := hf 0 _ rfl
  have h1 : DataW.trod enc Tryd.prog w 0 (fun _ => true) true m 23 [c1] = some (u1.1, u1.2) := hf 1 _ rfl
  have hd : d = .agg [u0.1, u1.1] := by
    have := congrArg Prod.fst hx
    simpa using this
  have hwb : (DataW.weights Tryd.prog 23 u1.1).all (· ≤ reachBytes) = true := by
    rw [hd] at hwt
    have hw2 : (DataW.weightsEach Tryd.prog [9, 23] [u0.1, u1.1]).all (· ≤ reachBytes) = true := by
      have hu := Tryd.underlying25
      simp only [DataW.weights, hu] at hwt
      exact hwt
    simp only [DataW.weightsEach, List.all_append, Bool.and_eq_true] at hw2
    exact hw2.2.1
  obtain ⟨s, hs, _, hsz⟩ := DataW.trod_string Tryd.underlying9 h0
  obtain ⟨a, c, l, hcs, hc, hc2⟩ := bytes_ok h1 hwb
  injection hs with hs
  injection hcs with hcs
  subst hs hcs
  obtain ⟨x, rfl, hx2⟩ := bstr_ex s
  exact ⟨(x, l), a, c, rfl, hc, hc2, by rw [hx2]; exact hsz⟩
set_option maxRecDepth 100000 in
theorem open_msg {r : Reach} {b0 : Nat} {v : Value} {d : DataW H} {p : List MemPlace} (hv : Value.okWide Tryd.prog w r b0 25 v) (h : DataW.Trod enc Tryd.prog w 0 (fun _ => true) true 25 v d p) (hwt : (DataW.weights Tryd.prog 25 d).all (· ≤ reachBytes) = true) :
    ∃ (x : MsgT) (a : Option Addr) (c : Nat), v = .agg #[.string (bstr x.1), .slice a x.2.length c] ∧ CloV x.2 (.slice a x.2.length c) w ∧ c ≤ 140737488355328 ∧ x.1.length ≤ maxLen := by
  have hct : Tryd.prog.cellTypes Tryd.prog.depth 25 = some [9, 23] := by kernel_rfl
  obtain ⟨cs, rfl, hsz, _⟩ := okWide_cellsS Tryd.underlying25 hct (by kernel_rfl) hv
  obtain ⟨fuel, hf⟩ := h
  obtain ⟨x, a, c, hcs, h2⟩ := msg_ok (cs := cs.toList) hf hwt
  refine ⟨x, a, c, ?_, h2⟩
  have : cs = #[.string (bstr x.1), .slice a x.2.length c] := by
    apply Array.toList_inj.1
    rw [hcs]
  rw [this]
set_option maxRecDepth 100000 in
theorem open_buf {r : Reach} {b0 : Nat} {v : Value} {d : DataW H} {p : List MemPlace} (hv : Value.okWide Tryd.prog w r b0 28 v) (h : DataW.Trod enc Tryd.prog w 0 (fun _ => true) true 28 v d p) (hwt : (DataW.weights Tryd.prog 28 d).all (· ≤ reachBytes) = true) :
    ∃ (M : Nat) (K : Int) (a : Option Addr) (c : Nat) (l : List UInt8) (bad : Int), v = .agg #[.int .u32 M, .int .i64 K, .slice a l.length c, .int .i64 bad] ∧ M < 4294967296 ∧ (Lit.int .i64 K).wf = true ∧ (Lit.int .i64 bad).wf = true ∧ CloV l (.slice a l.length c) w ∧ c ≤ 140737488355328 := by
  have hct : Tryd.prog.cellTypes Tryd.prog.depth 28 = some [22, 3, 23, 26] := by kernel_rfl
  obtain ⟨cs, rfl, hsz, hc⟩ := okWide_cellsS Tryd.underlying28 hct (by kernel_rfl) hv
  obtain ⟨x0, e0, k0⟩ := hc 0 _ rfl
  obtain ⟨x1, e1, k1⟩ := hc 1 _ rfl
  obtain ⟨x2, e2, k2⟩ := hc 2 _ rfl
  obtain ⟨x3, e3, k3⟩ := hc 3 _ rfl
  obtain ⟨z0, rfl, w0⟩ := cell_intS Tryd.underlying22 k0
  obtain ⟨z1, rfl, w1⟩ := cell_intS Tryd.underlying3 k1
  obtain ⟨z3, rfl, w3⟩ := cell_intS Tryd.underlying26 k3
  obtain ⟨M, rfl, hM⟩ : ∃ n : Nat, z0 = n ∧ n < 4294967296 := by
    simp [Lit.wf, IntKind.min, IntKind.max, IntKind.signed, IntKind.bits] at w0
    exact ⟨z0.toNat, by omega, by omega⟩
  have hcs : cs = #[.int .u32 M, .int .i64 z1, x2, .int .i64 z3] := by
    obtain ⟨l⟩ := cs
    match l, hsz with
    | [q0, q1, q2, q3], _ =>
      simp at e0 e1 e2 e3
      subst e0 e1 e2 e3
      rfl
  obtain ⟨fuel, hf⟩ := h
  obtain ⟨xs, m, _, hx, hl, hlen, hg⟩ := DataW.trod_struct Tryd.underlying28 hf
  have hlen4 : xs.length = 4 := hlen
  have hd : d = .agg (xs.map (·.1)) := by
    have := congrArg Prod.fst hx
    simpa using this
  obtain ⟨u0, u1, u2, u3, rfl⟩ : ∃ u0 u1 u2 u3, xs = [u0, u1, u2, u3] := by
    match xs, hlen4 with
    | [u0, u1, u2, u3], _ => exact ⟨_, _, _, _, rfl⟩
  subst hcs
  have h1 : DataW.trod enc Tryd.prog w 0 (fun _ => true) true m 23 [x2] = some (u2.1, u2.2) := hg 2 _ rfl
  have hwb : (DataW.weights Tryd.prog 23 u2.1).all (· ≤ reachBytes) = true := by
    rw [hd] at hwt
    have hw2 : (DataW.weightsEach Tryd.prog [22, 3, 23, 26] [u0.1, u1.1, u2.1, u3.1]).all (· ≤ reachBytes) = true := by
      have hu := Tryd.underlying28
      simp only [DataW.weights, hu] at hwt
      exact hwt
    simp only [DataW.weightsEach, List.all_append, Bool.and_eq_true] at hw2
    exact hw2.2.2.1
  clear hc
  obtain ⟨a, c, l, hcs, hcl, hc2⟩ := bytes_ok h1 hwb
  injection hcs with hcs
  subst hcs
  exact ⟨M, z1, a, c, l, z3, rfl, hM, w1, w3, hcl, hc2⟩
set_option maxRecDepth 100000 in
theorem open_msgs {r : Reach} {b0 : Nat} {v : Value} {d : DataW H} {p : List MemPlace} (hv : Value.okWide Tryd.prog w r b0 43 v) (h : DataW.Trod enc Tryd.prog w 0 (fun _ => true) true 43 v d p) (hwt : (DataW.weights Tryd.prog 43 d).all (· ≤ reachBytes) = true) :
    ∃ (a : Option Addr) (n c : Nat) (T : List MsgT), v = .slice a n c ∧ n = T.length ∧ SlM T (.slice a n c) w := by
  obtain ⟨a0, len, cap, rfl⟩ := okWide_slice Tryd.underlying43 hv
  obtain ⟨fuel, hf⟩ := h
  have c2 : Tryd.prog.cellsOf 25 = 2 := by kernel_rfl
  rcases open_slice Tryd.underlying43 hf with ⟨hcs, hx⟩ | ⟨a, len', cap', m, n, D, Pl, hcs, _, hl, hcm, hm, hx, hel⟩
  · simp [Value.cells] at hcs
    obtain ⟨rfl, rfl, rfl⟩ := hcs
    exact ⟨none, 0, 0, [], rfl, rfl, [], none, 0, rfl, rfl, (fun x hx => by cases hx), .inl rfl, Nat.le_refl _, fun _ => ⟨rfl, rfl⟩⟩
  · simp [Value.cells] at hcs
    obtain ⟨rfl, rfl, rfl⟩ := hcs
    simp only [if_true] at hm
    rw [c2] at hel
    have hd : d = .slice ((List.range len).map D) ((List.range (m - len)).map fun j => D (len + j)) := congrArg Prod.fst hx
    have hwa : ∀ i, i < len → (DataW.weights Tryd.prog 25 (D i)).all (· ≤ reachBytes) = true := fun i hi => by
      rw [hd] at hwt
      simp only [DataW.weights, Tryd.underlying43, List.all_cons, List.all_append, Bool.and_eq_true] at hwt
      exact weightsAll_mem hwt.2.1 _ (List.mem_map.2 ⟨i, List.mem_range.2 hi, rfl⟩)
    obtain ⟨L, hL, hLq⟩ := list_of (fun i (y : MsgT × Value) => w.cells? 0 (a.add (i * 2)) 2 = some [.string (bstr y.1.1), y.2] ∧ CloV y.1.2 y.2 w) len (fun i hi => by
      obtain ⟨cs', h1, h2⟩ := hel i (by omega)
      obtain ⟨x, a', c', e, hc, _⟩ := msg_ok h2 (hwa i hi)
      exact ⟨(x, .slice a' x.2.length c'), by rw [h1, e], hc⟩)
    refine ⟨some a, len, cap, L.map (·.1), rfl, by rw [List.length_map, hL], L, some a, cap, by rw [List.length_map, hL], rfl, fun x hx => ?_, ?_, by rw [List.length_map, hL]; exact hl, fun h => by cases h⟩
    · obtain ⟨i, hi⟩ := List.mem_iff_getElem?.1 hx
      exact (hLq i x hi).2
    · by_cases h0 : len = 0
      · left
        have : L = [] := List.length_eq_zero_iff.1 (by omega)
        rw [this]
        rfl
      · right
        obtain ⟨y0, hy0⟩ : ∃ y, L[0]? = some y := ⟨_, List.getElem?_eq_getElem (by omega)⟩
        obtain ⟨_, hlen, hcell⟩ := World.cells?_some (hLq 0 y0 hy0).1
        have hc0 := hcell 0 (by omega)
        have ha0 : (a.add (0 * 2)).add 0 = a := by simp [Addr.add]
        rw [ha0] at hc0
        have sq := spot_none (w := w) (a := a) hc0
        refine ⟨a.block, a.off, by rw [← sq.1], sq.2, fun j u hu => ?_⟩
        have hj : j < L.length * 2 := by rw [← msgCs_length]; exact (List.getElem?_eq_some_iff.1 hu).1
        obtain ⟨y, hy⟩ : ∃ y, L[j / 2]? = some y := ⟨_, List.getElem?_eq_getElem (by omega)⟩
        obtain ⟨m1, m2⟩ := msgCs_at L (j / 2) y hy
        obtain ⟨_, hlen, hcell⟩ := World.cells?_some (hLq (j / 2) y hy).1
        have ea : ∀ r, (a.add (j / 2 * 2)).add r = ⟨a.block, a.off + j / 2 * 2 + r, none⟩ := fun r => by
          have := sq.1
          generalize a.block = ab at *
          generalize a.off = ao at *
          rw [this]
          simp only [Addr.add_mid]
        rcases (show j = 2 * (j / 2) ∨ j = 2 * (j / 2) + 1 by omega) with e | e
        · rw [e, m1] at hu
          have h3 := hcell 0 (by omega)
          rw [ea] at h3
          injection hu with hu
          subst hu
          rw [show a.off + j = a.off + j / 2 * 2 + 0 by omega]
          exact h3
        · rw [e, m2] at hu
          have h3 := hcell 1 (by omega)
          rw [ea] at h3
          injection hu with hu
          subst hu
          rw [show a.off + j = a.off + j / 2 * 2 + 1 by omega]
          exact h3
end
end Go.Proofs.YtlegcceaoglpoaaDoor

namespace Go.Proofs.YtlegcceaoglpoaaDoor
open Go.RowKit
set_option linter.unusedVariables false
section
variable {P : Program} {Q : Exit → Act → World → Prop} {o : Oper} {A : Act} {w : World} {u : Value}
theorem op_bxor (t r : TypeId) (x y : Operand) (k : IntKind) (m n s : Int) (ho : o.op = .binOp .xor t x y r) (hx : A.eval x = .int k m) (hy : A.eval y = .int k n) (hb : bits .xor k m n = s) : o.wp P A w (fun a' w'' => a' = A.put o.dst (.int k s) ∧ Below w.heap.size w w'') Q := by
  refine op_run ?_
  generalize A.eval = ρ at *
  unfold execOp
  subst hb
  simp [ho, hx, hy, eqGuard, binOp, Op.intBits, bits, go_sem]
theorem op_bnot (t : TypeId) (x : Operand) (m s : Int) (ho : o.op = .unOp .xor t x) (hx : A.eval x = .int .u32 m) (hb : bits .xor .u32 IntKind.u32.max m = s) : o.wp P A w (fun a' w'' => a' = A.put o.dst (.int .u32 s) ∧ Below w.heap.size w w'') Q := by
  refine op_run ?_
  generalize A.eval = ρ at *
  unfold execOp
  subst hb
  simp [ho, hx, Op.unary, Op.intBits, bits, IntKind.signed, go_sem]
end
end Go.Proofs.YtlegcceaoglpoaaDoor

namespace Go.Proofs.YtlegcceaoglpoaaDoor
open Go.RowKit
set_option linter.unusedVariables false
/-- How a round's body is left: off its end; the record and the block of its deferred calls as they stood. -/
def okPost (D : Nat) (W2 : World) (Post : World → Prop) : Exit → Act → World → Prop
  | .normal, _, W3 => W3.heap[D + 1]? = W2.heap[D + 1]? ∧ W3.heap[D]? = W2.heap[D]? ∧ Post W3
  | _, _, _ => False
/-- A round, walked: the assignments, then the body. -/
def RoundOk (D : Nat) (ps : Array Tmp) (assign body : Code) (tmps : Array Value) (args : Array Value) (W : World) (Post : World → Prop) : Prop :=
  ∀ m, assign.wpIn (Fence.wide.inRound (D + 1)) m Tryd.prog (Exit.then (fun a1 W1 => Kp (fun _ => False) W W1 ∧ ∀ W2, Kp (fun k => k = D + 1) W1 W2 → body.wpIn (Fence.wide.inRound (D + 1)) m Tryd.prog (okPost D W2 Post) a1 W2) (fun _ _ _ => False))
    { tmps := (ps.zip args).foldl (fun t (p, v) => t.setIfInBounds p v) tmps, defers := [] } W
set_option maxHeartbeats 1000000 in
theorem range_msgs {g : Operand} {ps : Array Tmp} {assign body : Code} {Q : Exit → Act → World → Prop} {a : Act} {w : World} {n : Nat} (h6 : 6 ≤ n) (magic : Nat) (hm : magic < 4294967296) (K : Nat) (hK : K ≤ 4000000) (Bm Bc Bb : Nat) (hBb : Bb < w.heap.size)
    (hg : a.eval g = .func (.func 38) #[] #[.pointer (some ⟨Bm, 0, none⟩), .pointer (some ⟨Bc, 0, none⟩), .pointer (some ⟨Bb, 0, none⟩)]) (hps : ps.size = 2)
    (I : List UInt8 → World → Prop) (J : List UInt8 → Nat → World → Prop) (Fn : World → Prop)
    (kI : ∀ rest W W', I rest W → Kp (fun k => k = w.heap.size + 1) W W' → I rest W') (kJ : ∀ rest k W W', J rest k W → Kp (fun k => k = w.heap.size + 1) W W' → J rest k W') (kF : ∀ W W', Fn W → Kp (fun k => k = w.heap.size + 1) W W' → Fn W')
    (hI : ∀ rest W, I rest W → W.cell? ⟨Bm, 0, none⟩ = some (.int .u32 magic) ∧ W.cell? ⟨Bc, 0, none⟩ = some (.int .i64 K) ∧ Laid W ∧ ∃ a c, W.cell? ⟨Bb, 0, none⟩ = some (.slice a rest.length c) ∧ RdS W a rest ∧ rest.length ≤ c ∧ (rest.length ≤ 140737488355328 ∧ c ≤ 9223372036854775807) ∧ (a = none → rest.length = 0 ∧ c = 0))
    (hyes : ∀ rest W0 W c p u, I rest W0 → w.heap.size + 1 < W0.heap.size → Below W0.heap.size W0 W → getG magic K rest = .yes c p → CloV p u W → (∀ ad n c, u = .slice (some ad) n c → W0.heap.size ≤ ad.block) → RoundOk w.heap.size ps assign body a.tmps #[.agg (msgC c u), .int .i64 0] W (fun W3 => J rest (24 + p.length) W3))
    (hJ : ∀ rest k W, J rest k W → ∃ a c, W.cell? ⟨Bb, 0, none⟩ = some (.slice a rest.length c) ∧ W.frozen? ⟨Bb, 0, none⟩ = false ∧ rest.length ≤ c ∧ c ≤ 9223372036854775807 ∧ I (rest.drop k) (W.setCell ⟨Bb, 0, none⟩ (.slice (if c = k then a else Option.map (fun x => x.add k) a) (rest.length - k) (c - k))))
    (hno : ∀ rest W e, I rest W → w.heap.size + 1 < W.heap.size → getG magic K rest = .no e → RoundOk w.heap.size ps assign body a.tmps #[.agg #[.string ⟨#[]⟩, .slice none 0 0], .int .i64 (e : Nat)] W Fn)
    (rest0 : List UInt8) (h0 : I rest0 w)
    (hdone : ∀ W, Fn W → W.heap[w.heap.size]? = some (.deferred (some [])) → Q .normal { a with defers := { target := .collected w.heap.size, args := #[] } :: a.defers } W) :
    (Code.rangeFunc g ps assign body).wpIn Fence.wide n Tryd.prog Q a w := by
  refine wpIn_rangeFunc ?_
  intro fn hfn
  show ∃ _, _
  obtain ⟨rec, hrec⟩ : ∃ rec : LoopState → Option Code → Loop, rec = fun st pe => { state := st, pending := pe, fn, tmps := a.tmps, params := ps, assign, body, defers := w.heap.size } := ⟨_, rfl⟩
  obtain ⟨W1, hW1⟩ : ∃ W1, (w.alloc (.deferred (some []))).alloc (.loop (rec .ready none)) = W1 := ⟨_, rfl⟩
  have hL1 : W1.heap[w.heap.size + 1]? = some (.loop (rec .ready none)) := by
    rw [← hW1]; have := World.alloc_heap_new (w.alloc (.deferred (some []))) (.loop (rec .ready none)); rwa [World.size_alloc] at this
  have hK1 : W1.heap[w.heap.size]? = some (.deferred (some [])) := by
    rw [← hW1]; exact (Below.heap_alloc _ _ _ (by simp)).trans (World.alloc_heap_new w _)
  have hI1 : I rest0 W1 := kI _ _ _ h0 (by rw [← hW1]; exact (kp_alloc _ _ _).trans (kp_alloc _ _ _))
  refine ⟨w.heap.size + 1, [{ target := .collected w.heap.size, args := #[] }], W1, { target := .fn (.func 38) #[.pointer (some ⟨Bm, 0, none⟩), .pointer (some ⟨Bc, 0, none⟩), .pointer (some ⟨Bb, 0, none⟩)], args := #[.func (.yield (w.heap.size + 1)) #[] #[]] }, W1, 38,
    #[.func (.yield (w.heap.size + 1)) #[] #[], .pointer (some ⟨Bm, 0, none⟩), .pointer (some ⟨Bc, 0, none⟩), .pointer (some ⟨Bb, 0, none⟩)], W1, ?_, ?_, ?_, ?_, fun hh => (by cases hh), ?_⟩
  · rw [← hW1, hrec]; exact run_enterLoop_outer _ _ _ _ _
  · simp only [resolve, hg]
    simp [go_sem]
  · intro f' hf'; trivial
  · simp [invoke, go_sem]
  · have round : ∀ (args : Array Value) (W : World) (Post : World → Prop), args.size = 2 → W.heap[w.heap.size + 1]? = some (.loop (rec .ready none)) → W.heap[w.heap.size]? = some (.deferred (some [])) → (∀ W W', Post W → Kp (fun k => k = w.heap.size + 1) W W' → Post W') →
        RoundOk w.heap.size ps assign body a.tmps args W Post → YieldAt Fence.wide (n - 1 - 1) Tryd.prog (w.heap.size + 1) args W fun e W' => e = .returned (.bool true) ∧ Post W' ∧ W'.heap[w.heap.size + 1]? = some (.loop (rec .ready none)) ∧ W'.heap[w.heap.size]? = some (.deferred (some [])) := by
      intro args W Post hsz hl hk hP hr
      have hy := run_yield (P := Tryd.prog) (args := args) hl (by rw [hrec]; exact hsz.trans hps.symm)
      rw [hrec] at hy
      refine ⟨fn, _, assign, body, hy, roundIn_of_wpIn trivial (wpIn_mono (hr _) ?_)⟩
      rintro e a1 W2 hp
      cases e with
      | normal =>
        obtain ⟨hkp, hb⟩ := hp
        have hl2 := hkp.obj hl (fun h => h)
        have hk2 := hkp.obj hk (fun h => h)
        have hlt : w.heap.size + 1 < W2.heap.size := (Array.getElem?_eq_some_iff.1 hl2).1
        refine ⟨_, run_beginRound hl2 (by rw [hrec]), wpIn_mono (hb _ (kp_put _ _ _)) ?_⟩
        have hl3 : (W2.putObj (w.heap.size + 1) (.loop { rec .ready none with state := .busy })).heap[w.heap.size + 1]? = some (.loop { rec .ready none with state := .busy }) := World.putObj_heap_same hlt
        have hk3 : (W2.putObj (w.heap.size + 1) (.loop { rec .ready none with state := .busy })).heap[w.heap.size]? = some (.deferred (some [])) := (World.putObj_heap_other (by omega)).trans hk2
        rintro e3 a3 W3 hp3
        cases e3 with
        | normal =>
          obtain ⟨e1, e2, hpost⟩ := hp3
          have hl4 := e1.trans hl3
          have hend := run_endRound (P := Tryd.prog) none hl4
          refine ⟨_, _, hend, rfl, hP _ _ hpost (kp_put _ _ _), ?_, (World.putObj_heap_other (by omega)).trans (e2.trans hk3)⟩
          rw [World.putObj_heap_same (Array.getElem?_eq_some_iff.1 hl4).1, hrec]
          rfl
        | ret => exact hp3.elim
        | exit id => exact hp3.elim
        | goto t => exact hp3.elim
        | panic ch => exact hp3.elim
        | outgrown => exact hp3.elim
      | ret => exact hp.elim
      | exit id => exact hp.elim
      | goto t => exact hp.elim
      | panic ch => exact hp.elim
      | outgrown => exact hp.elim
    refine (Msgs1_in magic hm K hK Bm Bc Bb (w.heap.size + 1) (n - 1) (by omega)
      (fun rest W => I rest W ∧ W.heap[w.heap.size + 1]? = some (.loop (rec .ready none)) ∧ W.heap[w.heap.size]? = some (.deferred (some [])))
      (fun rest k W => J rest k W ∧ W.heap[w.heap.size + 1]? = some (.loop (rec .ready none)) ∧ W.heap[w.heap.size]? = some (.deferred (some [])))
      (fun W => Fn W ∧ W.heap[w.heap.size + 1]? = some (.loop (rec .ready none)) ∧ W.heap[w.heap.size]? = some (.deferred (some [])))
      (fun rest W h => hI rest W h.1)
      (fun rest W W' h hb => ⟨kI _ _ _ h.1 (kp_below hb), (kp_below (X := fun _ => False) hb).obj h.2.1 (fun h => h), (kp_below (X := fun _ => False) hb).obj h.2.2 (fun h => h)⟩)
      (fun rest W0 W c p u h hb hg' hu hf => (round _ W _ rfl ((kp_below (X := fun _ => False) hb).obj h.2.1 (fun h => h)) ((kp_below (X := fun _ => False) hb).obj h.2.2 (fun h => h)) (fun A B hA hB => kJ _ _ _ _ hA hB) (hyes rest W0 W c p u h.1 (Array.getElem?_eq_some_iff.1 h.2.1).1 hb hg' hu hf)))
      (fun rest k W h => by
        obtain ⟨a2, c2, x1, x2, x3, x4, x5⟩ := hJ rest k W h.1
        exact ⟨a2, c2, x1, x2, x3, x4, x5, (Below.heap_setCell W ⟨Bb, 0, none⟩ _ _ (by show _ ≠ Bb; omega)).trans h.2.1, (Below.heap_setCell W ⟨Bb, 0, none⟩ _ _ (by show _ ≠ Bb; omega)).trans h.2.2⟩)
      (fun rest W e h hg' => (round _ W _ rfl h.2.1 h.2.2 (fun A B hA hB => kF _ _ hA hB) (hno rest W e h.1 (Array.getElem?_eq_some_iff.1 h.2.1).1 hg')))
      rest0 W1 ⟨hI1, hL1, hK1⟩).mono ?_
    rintro e W2 ⟨⟨v, rfl⟩, hF, hl, hk⟩
    exact ⟨none, _, by have := run_endLoop (P := Tryd.prog) hl (by rw [hrec]; simp); rw [hrec] at this; exact this, hdone _ (kF _ _ hF (kp_put _ _ _)) ((World.putObj_heap_other (by omega)).trans hk)⟩
end Go.Proofs.YtlegcceaoglpoaaDoor
