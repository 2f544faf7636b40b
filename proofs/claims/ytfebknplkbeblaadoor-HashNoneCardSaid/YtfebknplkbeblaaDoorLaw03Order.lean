/- HashOrder, HashNone: their walks. -/
import Derived.Test.YtfebknplkbeblaaDoorHashP
import Derived.Test.YtfebknplkbeblaaDoorLaw03a
namespace Go.Proofs.YtfebknplkbeblaaDoor
open Go.RowKit
set_option linter.unusedVariables false
theorem hx_inj (d e : Nat) (hd : d < 16) (he : e < 16) (h : hx d = hx e) : d = e := by
  have h1 := (hx_dg d hd).1
  rw [h, (hx_dg e he).1] at h1
  exact (Option.some.inj h1).symm
theorem hexT_inj (l k : List UInt8) (hl : l.length = 32) (hk : k.length = 32) (h : hexT l = hexT k) : l = k := by
  apply List.ext_getElem (by omega)
  intro i h1 h2
  have e1 := hexT_even l (31 - i) (by omega)
  have e2 := hexT_odd l (31 - i) (by omega)
  rw [h, hexT_even k (31 - i) (by omega)] at e1
  rw [h, hexT_odd k (31 - i) (by omega)] at e2
  rw [show 31 - (31 - i) = i by omega] at e1 e2
  have f1 : k.getD i 0 = k[i] := by simp [List.getD, List.getElem?_eq_getElem h2]
  have f2 : l.getD i 0 = l[i] := by simp [List.getD, List.getElem?_eq_getElem h1]
  rw [f1, f2] at e1 e2
  have b1 := (l[i]).toNat_lt
  have b2 := (k[i]).toNat_lt
  have g1 := hx_inj _ _ (by omega) (by omega) e1
  have g2 := hx_inj _ _ (by omega) (by omega) e2
  apply UInt8.toNat_inj.1
  omega
theorem leN_inj (l k : List UInt8) (hl : l.length = 32) (hk : k.length = 32) (h : leN l 32 = leN k 32) : l = k := by
  rw [← leB_leN l hl, ← leB_leN k hk, h]
theorem cmp_three {m n k : Nat} {c1 c2 c3 : Int} (h1 : CmpIs m n c1) (h2 : CmpIs n k c2) (h3 : CmpIs m k c3) : (c1 = 0 ↔ m = n) ∧ (¬ 0 < c1 → ¬ 0 < c2 → c3 ≤ 0) ∧ -1 ≤ c1 ∧ c1 ≤ 1 := by
  have f1 := cmp_facts h1
  have f2 := cmp_facts h2
  have f3 := cmp_facts h3
  clear h1 h2 h3
  omega
set_option maxRecDepth 100000 in
set_option maxHeartbeats 4000000 in
theorem Order_P (w : World) (hL : Laid w) (A1 A2 A3 C1 : Array Value) (i1 : (Tryd.prog.info? 38).map (·.size) = some A1.size) (i2 : (Tryd.prog.info? 38).map (·.size) = some A2.size) (i3 : (Tryd.prog.info? 38).map (·.size) = some A3.size) (c1 c2 c3 : Int) (S1 S2 : ByteArray)
    (k12 : ∀ w, Calls Tryd.prog 39 #[.agg A1, .agg A2] w fun e w' => e = .returned (.int .i64 c1) ∧ Below w.heap.size w w') (k21 : ∀ w, Calls Tryd.prog 39 #[.agg A2, .agg A1] w fun e w' => e = .returned (.int .i64 (-c1)) ∧ Below w.heap.size w w')
    (k23 : ∀ w, Calls Tryd.prog 39 #[.agg A2, .agg A3] w fun e w' => e = .returned (.int .i64 c2) ∧ Below w.heap.size w w') (k13 : ∀ w, Calls Tryd.prog 39 #[.agg A1, .agg A3] w fun e w' => e = .returned (.int .i64 c3) ∧ Below w.heap.size w w')
    (p12 : ∀ w, Laid w → Calls Tryd.prog 40 #[.agg A1, .agg A2] w fun e w' => e = .returned (.agg C1) ∧ Below w.heap.size w w')
    (t1 : ∀ w, Calls Tryd.prog 41 #[.agg A1] w fun e w' => e = .returned (.string S1) ∧ Below w.heap.size w w') (t2 : ∀ w, Calls Tryd.prog 41 #[.agg A2] w fun e w' => e = .returned (.string S2) ∧ Below w.heap.size w w')
    (q12 : ∀ w, (Op.equalIn 10000 38 (.agg A1) (.agg A2)).run Tryd.prog w = .ok false w) (hneg : IntKind.i64.wrap (0 - -c1) = c1) (hx0 : (c1 == 0) = false) (hx : decide ((0 : Int) < c1) = true) (hS : (S1.toList == S2.toList) = false) :
    Calls Tryd.prog 9 #[.agg A1, .agg A2, .agg A3] w fun e w' => e = .returned (.bool true) ∧ Below w.heap.size w w' := by
  have HL := Lib.hid hL; clear hL
  have bb : Below w.heap.size w (((w.alloc (.cells A1 38)).alloc (.cells A2 38)).alloc (.cells A3 38)) := ba (ba (ba (Below.refl _ _) _) _) _
  have B1 : Blk (((w.alloc (.cells A1 38)).alloc (.cells A2 38)).alloc (.cells A3 38)) w.heap.size 38 A1 := ((Blk.newAt w _ A1 rfl).alloc _).alloc _
  have B2 : Blk (((w.alloc (.cells A1 38)).alloc (.cells A2 38)).alloc (.cells A3 38)) (w.heap.size + 1) 38 A2 := (Blk.second w _ _ _).alloc _
  have B3 : Blk (((w.alloc (.cells A1 38)).alloc (.cells A2 38)).alloc (.cells A3 38)) (w.heap.size + 2) 38 A3 := Blk.newAt _ _ _ (by simp)
  have G := Lib.hid (And.intro B1 (And.intro B2 (And.intro B3 bb))); clear bb B1 B2 B3
  have HN := Lib.hid hneg; have HX := Lib.hid (And.intro hx0 hx); clear hneg hx0 hx
  have hneg := HN; have HS := Lib.hid hS; clear hS
  go_enter Tryd.func9, Tryd.ntmps9
  go_wp2_with fail
  refine (Awake03 _).mono ?_
  rintro e w1 ⟨rfl, hb1⟩
  have K1 := Lib.hid (And.intro (G.out.1.calls hb1) (And.intro (G.out.2.1.calls hb1) (And.intro (G.out.2.2.1.calls hb1) (bt G.out.2.2.2 hb1)))); clear hb1 G
  go_wp2_with (first | with_reducible refine wl_row K1.out.1 _ _ rfl rfl rfl _ _ Tryd.underlying38 i1 ?_ | with_reducible refine wl_row K1.out.2.1 _ _ rfl rfl rfl _ _ Tryd.underlying38 i2 ?_)
  refine (k12 w1).mono ?_
  rintro e w2 ⟨rfl, hb1⟩
  have K := Lib.hid (And.intro (K1.out.1.calls hb1) (And.intro (K1.out.2.1.calls hb1) (And.intro (K1.out.2.2.1.calls hb1) (bt K1.out.2.2.2 hb1)))); clear hb1 K1
  go_wp2_with fail
  have hneg := HN.out
  have hx0 := HX.out.1
  have hx := HX.out.2
  have hS := HS.out
  try simp only [List.append_eq, List.cons_append, List.nil_append]
  refine wp_region_g [some 13, some 14, some 15, some 16, some 17, some 18, some 19, some 20, some 21, some 22, some 23, some 24, some 25, some 26, some 27, some 28, some 29, some 30, some 31, some 32, some 33, some 34, some 35, some 36, some 37, some 38, some 39, some 40, some 41, some 42, some 43, some 44, some 45, some 46, some 47, some 48, some 49, some 50, some 51, some 52, some 53, some 54, some 55, some 56, some 57, some 58, some 59, some 60, some 61, some 62, some 63, some 64, some 65, some 66, some 67, some 68, some 69, some 70, some 6] (FL [
      EqV (.bool true),
      EqV (.bool true),
      EqV (.int .i64 c1),
      EqV (.agg A2),
      EqV (.agg A1),
      EqV (.int .i64 (-c1)),
      EqV (.int .i64 (c1)),
      EqV (.bool true),
      EqV (.bool true),
      EqV (.bool true),
      EqV (.int .i64 c1),
      EqV (.bool false),
      EqV (.agg A1),
      EqV (.agg A2),
      EqV (.bool false),
      EqV (.bool true),
      EqV (.bool true),
      EqV (.bool true),
      EqV (.int .i64 c1),
      EqV (.bool true),
      EqV (.bool true),
      EqV (undef),
      EqV (undef),
      EqV (undef),
      EqV (undef),
      EqV (.bool true),
      EqV (.bool true),
      EqV (undef),
      EqV (undef),
      EqV (undef),
      EqV (undef),
      EqV (.bool true),
      EqV (.bool true),
      EqV (.bool true),
      EqV (.agg A1),
      EqV (.agg A2),
      EqV (.bool true),
      EqV (.bool true),
      EqV (undef),
      EqV (undef),
      EqV (undef),
      EqV (undef),
      EqV (undef),
      EqV (undef),
      EqV (undef),
      EqV (.bool true),
      EqV (.bool true),
      EqV (.bool true),
      EqV (.agg A1),
      EqV (.string S1),
      EqV (.agg A2),
      EqV (.string S2),
      EqV (.bool false),
      EqV (.agg A1),
      EqV (.agg A2),
      EqV (.bool false),
      EqV (.bool true),
      EqV (.bool true),
      EqV (.bool true)
    ]) (FL_keeps ⟨keeps_eq _, keeps_eq _, keeps_eq _, keeps_eq _, keeps_eq _, keeps_eq _, keeps_eq _, keeps_eq _, keeps_eq _, keeps_eq _, keeps_eq _, keeps_eq _, keeps_eq _, keeps_eq _, keeps_eq _, keeps_eq _, keeps_eq _, keeps_eq _, keeps_eq _, keeps_eq _, keeps_eq _, keeps_eq _, keeps_eq _, keeps_eq _, keeps_eq _, keeps_eq _, keeps_eq _, keeps_eq _, keeps_eq _, keeps_eq _, keeps_eq _, keeps_eq _, keeps_eq _, keeps_eq _, keeps_eq _, keeps_eq _, keeps_eq _, keeps_eq _, keeps_eq _, keeps_eq _, keeps_eq _, keeps_eq _, keeps_eq _, keeps_eq _, keeps_eq _, keeps_eq _, keeps_eq _, keeps_eq _, keeps_eq _, keeps_eq _, keeps_eq _, keeps_eq _, keeps_eq _, keeps_eq _, keeps_eq _, keeps_eq _, keeps_eq _, keeps_eq _, keeps_eq _, trivial⟩) (by kernel_rfl) rfl rfl rfl rfl ⟨
    .inr ⟨gk0 rfl, fun A w' γ hb hF hs => g_eq (op_move (.tmp 7) (.inl rfl) ((hs.2 7 rfl).trans rfl))⟩,
    .inr ⟨gk0 rfl, fun A w' γ hb hF hs => g_eq (op_move (.tmp 13) (.inl rfl) ((hs.1 0 rfl 13 rfl).trans (hF 0 rfl)))⟩,
    .inr ⟨gkT 1 true rfl rfl 14 rfl (fun _ _ h => h), fun A w' γ hb hF hs => g_eq (op_move (.tmp 8) (.inl rfl) ((hs.2 8 rfl).trans rfl))⟩,
    .inr ⟨gkT 1 true rfl rfl 14 rfl (fun _ _ h => h), fun A w' γ hb hF hs => g_eq (op_load 38 (.tmp 4) rfl ((hs.2 4 rfl).trans rfl) (K.out.2.1.below hb K.out.2.1.lt) Tryd.underlying38 (i2))⟩,
    .inr ⟨gkT 1 true rfl rfl 14 rfl (fun _ _ h => h), fun A w' γ hb hF hs => g_eq (op_load 38 (.tmp 3) rfl ((hs.2 3 rfl).trans rfl) (K.out.1.below hb K.out.1.lt) Tryd.underlying38 (i1))⟩,
    .inr ⟨gkT 1 true rfl rfl 14 rfl (fun _ _ h => h), fun A w' γ hb hF hs => g_eq (op_call 39 #[.agg A2, .agg A1] (exec_call _ 39 #[.agg A2, .agg A1] rfl rfl (margs2 ((hs.1 3 rfl 16 rfl).trans (hF 3 rfl)) ((hs.1 4 rfl 17 rfl).trans (hF 4 rfl))) Tryd.func39 rfl rfl) (k21 w'))⟩,
    .inr ⟨gkT 1 true rfl rfl 14 rfl (fun _ _ h => h), fun A w' γ hb hF hs => g_eq (op_neg 3 (.tmp 18) .i64 ((-c1)) (c1) rfl ((hs.1 5 rfl 18 rfl).trans (hF 5 rfl)) (hneg))⟩,
    .inr ⟨gkT 1 true rfl rfl 14 rfl (fun _ _ h => h), fun A w' γ hb hF hs => g_eq (op_eq_int 3 _ (.tmp 15) (.tmp 19) .i64 (c1) ((c1)) true rfl ((hs.1 2 rfl 15 rfl).trans (hF 2 rfl)) ((hs.1 6 rfl 19 rfl).trans (hF 6 rfl)) (by simp))⟩,
    .inr ⟨gk0 rfl, fun A w' γ hb hF hs => g_eq (op_pick (.tmp 14) (.tmp 20) (.const (.bool false)) true rfl ((hs.1 1 rfl 14 rfl).trans (hF 1 rfl)) ((hs.1 7 rfl 20 rfl).trans (hF 7 rfl)))⟩,
    .inr ⟨gk0 rfl, fun A w' γ hb hF hs => g_eq (op_move (.tmp 21) (.inl rfl) ((hs.1 8 rfl 21 rfl).trans (hF 8 rfl)))⟩,
    .inr ⟨gkT 9 true rfl rfl 22 rfl (fun _ _ h => h), fun A w' γ hb hF hs => g_eq (op_move (.tmp 8) (.inl rfl) ((hs.2 8 rfl).trans rfl))⟩,
    .inr ⟨gkT 9 true rfl rfl 22 rfl (fun _ _ h => h), fun A w' γ hb hF hs => g_eq (op_eq_int 3 _ (.tmp 23) (.const (.int .i64 0)) .i64 (c1) (0) false rfl ((hs.1 10 rfl 23 rfl).trans (hF 10 rfl)) rfl (hx0))⟩,
    .inr ⟨gkT 9 true rfl rfl 22 rfl (fun _ _ h => h), fun A w' γ hb hF hs => g_eq (op_load 38 (.tmp 3) rfl ((hs.2 3 rfl).trans rfl) (K.out.1.below hb K.out.1.lt) Tryd.underlying38 (i1))⟩,
    .inr ⟨gkT 9 true rfl rfl 22 rfl (fun _ _ h => h), fun A w' γ hb hF hs => g_eq (op_load 38 (.tmp 4) rfl ((hs.2 4 rfl).trans rfl) (K.out.2.1.below hb K.out.2.1.lt) Tryd.underlying38 (i2))⟩,
    .inr ⟨gkT 9 true rfl rfl 22 rfl (fun _ _ h => h), fun A w' γ hb hF hs => g_eq (op_eq_agg 38 _ (.tmp 25) (.tmp 26) (A1) (A2) false rfl ((hs.1 12 rfl 25 rfl).trans (hF 12 rfl)) ((hs.1 13 rfl 26 rfl).trans (hF 13 rfl)) (by kernel_rfl) (q12 _))⟩,
    .inr ⟨gkT 9 true rfl rfl 22 rfl (fun _ _ h => h), fun A w' γ hb hF hs => g_eq (op_eq_bool 4 _ (.tmp 24) (.tmp 27) (false) (false) true rfl ((hs.1 11 rfl 24 rfl).trans (hF 11 rfl)) ((hs.1 14 rfl 27 rfl).trans (hF 14 rfl)) Tryd.underlying4 (by simp))⟩,
    .inr ⟨gk0 rfl, fun A w' γ hb hF hs => g_eq (op_pick (.tmp 22) (.tmp 28) (.const (.bool false)) true rfl ((hs.1 9 rfl 22 rfl).trans (hF 9 rfl)) ((hs.1 15 rfl 28 rfl).trans (hF 15 rfl)))⟩,
    .inr ⟨gk0 rfl, fun A w' γ hb hF hs => g_eq (op_move (.tmp 29) (.inl rfl) ((hs.1 16 rfl 29 rfl).trans (hF 16 rfl)))⟩,
    .inr ⟨gkT 17 true rfl rfl 30 rfl (fun _ _ h => h), fun A w' γ hb hF hs => g_eq (op_move (.tmp 8) (.inl rfl) ((hs.2 8 rfl).trans rfl))⟩,
    .inr ⟨gkT 17 true rfl rfl 30 rfl (fun _ _ h => h), fun A w' γ hb hF hs => g_eq (op_gtr 3 _ (.tmp 31) (.const (.int .i64 0)) .i64 (c1) (0) true rfl ((hs.1 18 rfl 31 rfl).trans (hF 18 rfl)) rfl (hx))⟩,
    .inr ⟨gkT 17 true rfl rfl 30 rfl (fun _ _ h => h), fun A w' γ hb hF hs => g_eq (op_move (.tmp 32) (.inl rfl) ((hs.1 19 rfl 32 rfl).trans (hF 19 rfl)))⟩,
    .inl ⟨gkF 20 false rfl rfl 33 rfl (fun _ _ h => h), fun _ => rfl⟩,
    .inl ⟨gkF 20 false rfl rfl 33 rfl (fun _ _ h => h), fun _ => rfl⟩,
    .inl ⟨gkF 20 false rfl rfl 33 rfl (fun _ _ h => h), fun _ => rfl⟩,
    .inl ⟨gkF 20 false rfl rfl 33 rfl (fun _ _ h => h), fun _ => rfl⟩,
    .inr ⟨gkT 17 true rfl rfl 30 rfl (fun _ _ h => h), fun A w' γ hb hF hs => g_eq (op_pick (.tmp 33) (.const (.bool true)) (.tmp 37) true rfl ((hs.1 20 rfl 33 rfl).trans (hF 20 rfl)) rfl)⟩,
    .inr ⟨gkT 17 true rfl rfl 30 rfl (fun _ _ h => h), fun A w' γ hb hF hs => g_eq (op_move (.tmp 38) (.inl rfl) ((hs.1 25 rfl 38 rfl).trans (hF 25 rfl)))⟩,
    .inl ⟨gkF 26 false rfl rfl 39 rfl (fun _ _ h => h), fun _ => rfl⟩,
    .inl ⟨gkF 26 false rfl rfl 39 rfl (fun _ _ h => h), fun _ => rfl⟩,
    .inl ⟨gkF 26 false rfl rfl 39 rfl (fun _ _ h => h), fun _ => rfl⟩,
    .inl ⟨gkF 26 false rfl rfl 39 rfl (fun _ _ h => h), fun _ => rfl⟩,
    .inr ⟨gkT 17 true rfl rfl 30 rfl (fun _ _ h => h), fun A w' γ hb hF hs => g_eq (op_pick (.tmp 39) (.const (.bool true)) (.tmp 43) true rfl ((hs.1 26 rfl 39 rfl).trans (hF 26 rfl)) rfl)⟩,
    .inr ⟨gk0 rfl, fun A w' γ hb hF hs => g_eq (op_pick (.tmp 30) (.tmp 44) (.const (.bool false)) true rfl ((hs.1 17 rfl 30 rfl).trans (hF 17 rfl)) ((hs.1 31 rfl 44 rfl).trans (hF 31 rfl)))⟩,
    .inr ⟨gk0 rfl, fun A w' γ hb hF hs => g_eq (op_move (.tmp 45) (.inl rfl) ((hs.1 32 rfl 45 rfl).trans (hF 32 rfl)))⟩,
    .inr ⟨gkT 33 true rfl rfl 46 rfl (fun _ _ h => h), fun A w' γ hb hF hs => g_eq (op_load 38 (.tmp 3) rfl ((hs.2 3 rfl).trans rfl) (K.out.1.below hb K.out.1.lt) Tryd.underlying38 (i1))⟩,
    .inr ⟨gkT 33 true rfl rfl 46 rfl (fun _ _ h => h), fun A w' γ hb hF hs => g_eq (op_load 38 (.tmp 4) rfl ((hs.2 4 rfl).trans rfl) (K.out.2.1.below hb K.out.2.1.lt) Tryd.underlying38 (i2))⟩,
    .inr ⟨gkT 33 true rfl rfl 46 rfl (fun _ _ h => h), fun A w' γ hb hF hs => g_eq (op_neq_agg 38 _ (.tmp 47) (.tmp 48) (A1) (A2) false rfl ((hs.1 34 rfl 47 rfl).trans (hF 34 rfl)) ((hs.1 35 rfl 48 rfl).trans (hF 35 rfl)) (by kernel_rfl) (q12 _))⟩,
    .inr ⟨gkT 33 true rfl rfl 46 rfl (fun _ _ h => h), fun A w' γ hb hF hs => g_eq (op_move (.tmp 49) (.inl rfl) ((hs.1 36 rfl 49 rfl).trans (hF 36 rfl)))⟩,
    .inl ⟨gkF 37 false rfl rfl 50 rfl (fun _ _ h => h), fun _ => rfl⟩,
    .inl ⟨gkF 37 false rfl rfl 50 rfl (fun _ _ h => h), fun _ => rfl⟩,
    .inl ⟨gkF 37 false rfl rfl 50 rfl (fun _ _ h => h), fun _ => rfl⟩,
    .inl ⟨gkF 37 false rfl rfl 50 rfl (fun _ _ h => h), fun _ => rfl⟩,
    .inl ⟨gkF 37 false rfl rfl 50 rfl (fun _ _ h => h), fun _ => rfl⟩,
    .inl ⟨gkF 37 false rfl rfl 50 rfl (fun _ _ h => h), fun _ => rfl⟩,
    .inl ⟨gkF 37 false rfl rfl 50 rfl (fun _ _ h => h), fun _ => rfl⟩,
    .inr ⟨gkT 33 true rfl rfl 46 rfl (fun _ _ h => h), fun A w' γ hb hF hs => g_eq (op_pick (.tmp 50) (.const (.bool true)) (.tmp 57) true rfl ((hs.1 37 rfl 50 rfl).trans (hF 37 rfl)) rfl)⟩,
    .inr ⟨gk0 rfl, fun A w' γ hb hF hs => g_eq (op_pick (.tmp 46) (.tmp 58) (.const (.bool false)) true rfl ((hs.1 33 rfl 46 rfl).trans (hF 33 rfl)) ((hs.1 45 rfl 58 rfl).trans (hF 45 rfl)))⟩,
    .inr ⟨gk0 rfl, fun A w' γ hb hF hs => g_eq (op_move (.tmp 59) (.inl rfl) ((hs.1 46 rfl 59 rfl).trans (hF 46 rfl)))⟩,
    .inr ⟨gkT 47 true rfl rfl 60 rfl (fun _ _ h => h), fun A w' γ hb hF hs => g_eq (op_load 38 (.tmp 3) rfl ((hs.2 3 rfl).trans rfl) (K.out.1.below hb K.out.1.lt) Tryd.underlying38 (i1))⟩,
    .inr ⟨gkT 47 true rfl rfl 60 rfl (fun _ _ h => h), fun A w' γ hb hF hs => g_eq (op_call 41 #[.agg A1] (exec_call _ 41 #[.agg A1] rfl rfl (margs1 ((hs.1 48 rfl 61 rfl).trans (hF 48 rfl))) Tryd.func41 rfl rfl) (t1 w'))⟩,
    .inr ⟨gkT 47 true rfl rfl 60 rfl (fun _ _ h => h), fun A w' γ hb hF hs => g_eq (op_load 38 (.tmp 4) rfl ((hs.2 4 rfl).trans rfl) (K.out.2.1.below hb K.out.2.1.lt) Tryd.underlying38 (i2))⟩,
    .inr ⟨gkT 47 true rfl rfl 60 rfl (fun _ _ h => h), fun A w' γ hb hF hs => g_eq (op_call 41 #[.agg A2] (exec_call _ 41 #[.agg A2] rfl rfl (margs1 ((hs.1 50 rfl 63 rfl).trans (hF 50 rfl))) Tryd.func41 rfl rfl) (t2 w'))⟩,
    .inr ⟨gkT 47 true rfl rfl 60 rfl (fun _ _ h => h), fun A w' γ hb hF hs => g_eq (op_eq_str 9 _ (.tmp 62) (.tmp 64) (S1) (S2) false rfl ((hs.1 49 rfl 62 rfl).trans (hF 49 rfl)) ((hs.1 51 rfl 64 rfl).trans (hF 51 rfl)) (hS))⟩,
    .inr ⟨gkT 47 true rfl rfl 60 rfl (fun _ _ h => h), fun A w' γ hb hF hs => g_eq (op_load 38 (.tmp 3) rfl ((hs.2 3 rfl).trans rfl) (K.out.1.below hb K.out.1.lt) Tryd.underlying38 (i1))⟩,
    .inr ⟨gkT 47 true rfl rfl 60 rfl (fun _ _ h => h), fun A w' γ hb hF hs => g_eq (op_load 38 (.tmp 4) rfl ((hs.2 4 rfl).trans rfl) (K.out.2.1.below hb K.out.2.1.lt) Tryd.underlying38 (i2))⟩,
    .inr ⟨gkT 47 true rfl rfl 60 rfl (fun _ _ h => h), fun A w' γ hb hF hs => g_eq (op_eq_agg 38 _ (.tmp 66) (.tmp 67) (A1) (A2) false rfl ((hs.1 53 rfl 66 rfl).trans (hF 53 rfl)) ((hs.1 54 rfl 67 rfl).trans (hF 54 rfl)) (by kernel_rfl) (q12 _))⟩,
    .inr ⟨gkT 47 true rfl rfl 60 rfl (fun _ _ h => h), fun A w' γ hb hF hs => g_eq (op_eq_bool 4 _ (.tmp 65) (.tmp 68) (false) (false) true rfl ((hs.1 52 rfl 65 rfl).trans (hF 52 rfl)) ((hs.1 55 rfl 68 rfl).trans (hF 55 rfl)) Tryd.underlying4 (by simp))⟩,
    .inr ⟨gk0 rfl, fun A w' γ hb hF hs => g_eq (op_pick (.tmp 60) (.tmp 69) (.const (.bool false)) true rfl ((hs.1 47 rfl 60 rfl).trans (hF 47 rfl)) ((hs.1 56 rfl 69 rfl).trans (hF 56 rfl)))⟩,
    .inr ⟨gk0 rfl, fun A w' γ hb hF hs => g_eq (op_move (.tmp 70) (.inr rfl) ((hs.1 57 rfl 70 rfl).trans (hF 57 rfl)))⟩,
    trivial⟩ ?_
  intro γ w' hb hF
  have bz := bt K.out.2.2.2 hb
  have ez : γ 58 = .bool true := hF 58 (by decide)
  simp only [Fr, if_true, Act.put, List.setIfInBounds_toArray, List.set_cons_zero, List.set_cons_succ]
  rw [ez]
  clear ez hF hneg hx0 hx hS
  go_wp2
  go_ret
  exact ⟨rfl, bz⟩
set_option maxRecDepth 100000 in
set_option maxHeartbeats 4000000 in
theorem Order_Q (w : World) (hL : Laid w) (A1 A2 A3 C1 : Array Value) (i1 : (Tryd.prog.info? 38).map (·.size) = some A1.size) (i2 : (Tryd.prog.info? 38).map (·.size) = some A2.size) (i3 : (Tryd.prog.info? 38).map (·.size) = some A3.size) (c1 c2 c3 : Int) (S1 S2 : ByteArray)
    (k12 : ∀ w, Calls Tryd.prog 39 #[.agg A1, .agg A2] w fun e w' => e = .returned (.int .i64 c1) ∧ Below w.heap.size w w') (k21 : ∀ w, Calls Tryd.prog 39 #[.agg A2, .agg A1] w fun e w' => e = .returned (.int .i64 (-c1)) ∧ Below w.heap.size w w')
    (k23 : ∀ w, Calls Tryd.prog 39 #[.agg A2, .agg A3] w fun e w' => e = .returned (.int .i64 c2) ∧ Below w.heap.size w w') (k13 : ∀ w, Calls Tryd.prog 39 #[.agg A1, .agg A3] w fun e w' => e = .returned (.int .i64 c3) ∧ Below w.heap.size w w')
    (p12 : ∀ w, Laid w → Calls Tryd.prog 40 #[.agg A1, .agg A2] w fun e w' => e = .returned (.agg C1) ∧ Below w.heap.size w w')
    (t1 : ∀ w, Calls Tryd.prog 41 #[.agg A1] w fun e w' => e = .returned (.string S1) ∧ Below w.heap.size w w') (t2 : ∀ w, Calls Tryd.prog 41 #[.agg A2] w fun e w' => e = .returned (.string S2) ∧ Below w.heap.size w w')
    (q12 : ∀ w, (Op.equalIn 10000 38 (.agg A1) (.agg A2)).run Tryd.prog w = .ok false w) (hneg : IntKind.i64.wrap (0 - -c1) = c1) (hx0 : (c1 == 0) = false) (hx : decide ((0 : Int) < c1) = false) (hy : decide ((0 : Int) < c2) = true) (hS : (S1.toList == S2.toList) = false) :
    Calls Tryd.prog 9 #[.agg A1, .agg A2, .agg A3] w fun e w' => e = .returned (.bool true) ∧ Below w.heap.size w w' := by
  have HL := Lib.hid hL; clear hL
  have bb : Below w.heap.size w (((w.alloc (.cells A1 38)).alloc (.cells A2 38)).alloc (.cells A3 38)) := ba (ba (ba (Below.refl _ _) _) _) _
  have B1 : Blk (((w.alloc (.cells A1 38)).alloc (.cells A2 38)).alloc (.cells A3 38)) w.heap.size 38 A1 := ((Blk.newAt w _ A1 rfl).alloc _).alloc _
  have B2 : Blk (((w.alloc (.cells A1 38)).alloc (.cells A2 38)).alloc (.cells A3 38)) (w.heap.size + 1) 38 A2 := (Blk.second w _ _ _).alloc _
  have B3 : Blk (((w.alloc (.cells A1 38)).alloc (.cells A2 38)).alloc (.cells A3 38)) (w.heap.size + 2) 38 A3 := Blk.newAt _ _ _ (by simp)
  have G := Lib.hid (And.intro B1 (And.intro B2 (And.intro B3 bb))); clear bb B1 B2 B3
  have HN := Lib.hid hneg; have HX := Lib.hid (And.intro hx0 hx); clear hneg hx0 hx
  have hneg := HN; have HS := Lib.hid hS; clear hS
  go_enter Tryd.func9, Tryd.ntmps9
  go_wp2_with fail
  refine (Awake03 _).mono ?_
  rintro e w1 ⟨rfl, hb1⟩
  have K1 := Lib.hid (And.intro (G.out.1.calls hb1) (And.intro (G.out.2.1.calls hb1) (And.intro (G.out.2.2.1.calls hb1) (bt G.out.2.2.2 hb1)))); clear hb1 G
  go_wp2_with (first | with_reducible refine wl_row K1.out.1 _ _ rfl rfl rfl _ _ Tryd.underlying38 i1 ?_ | with_reducible refine wl_row K1.out.2.1 _ _ rfl rfl rfl _ _ Tryd.underlying38 i2 ?_)
  refine (k12 w1).mono ?_
  rintro e w2 ⟨rfl, hb1⟩
  have K := Lib.hid (And.intro (K1.out.1.calls hb1) (And.intro (K1.out.2.1.calls hb1) (And.intro (K1.out.2.2.1.calls hb1) (bt K1.out.2.2.2 hb1)))); clear hb1 K1
  go_wp2_with fail
  have hneg := HN.out
  have hx0 := HX.out.1
  have hx := HX.out.2
  have hS := HS.out
  try simp only [List.append_eq, List.cons_append, List.nil_append]
  refine wp_region_g [some 13, some 14, some 15, some 16, some 17, some 18, some 19, some 20, some 21, some 22, some 23, some 24, some 25, some 26, some 27, some 28, some 29, some 30, some 31, some 32, some 33, some 34, some 35, some 36, some 37, some 38, some 39, some 40, some 41, some 42, some 43, some 44, some 45, some 46, some 47, some 48, some 49, some 50, some 51, some 52, some 53, some 54, some 55, some 56, some 57, some 58, some 59, some 60, some 61, some 62, some 63, some 64, some 65, some 66, some 67, some 68, some 69, some 70, some 6] (FL [
      EqV (.bool true),
      EqV (.bool true),
      EqV (.int .i64 c1),
      EqV (.agg A2),
      EqV (.agg A1),
      EqV (.int .i64 (-c1)),
      EqV (.int .i64 (c1)),
      EqV (.bool true),
      EqV (.bool true),
      EqV (.bool true),
      EqV (.int .i64 c1),
      EqV (.bool false),
      EqV (.agg A1),
      EqV (.agg A2),
      EqV (.bool false),
      EqV (.bool true),
      EqV (.bool true),
      EqV (.bool true),
      EqV (.int .i64 c1),
      EqV (.bool false),
      EqV (.bool false),
      EqV (.agg A2),
      EqV (.agg A3),
      EqV (.int .i64 c2),
      EqV (.bool true),
      EqV (.bool true),
      EqV (.bool true),
      EqV (undef),
      EqV (undef),
      EqV (undef),
      EqV (undef),
      EqV (.bool true),
      EqV (.bool true),
      EqV (.bool true),
      EqV (.agg A1),
      EqV (.agg A2),
      EqV (.bool true),
      EqV (.bool true),
      EqV (undef),
      EqV (undef),
      EqV (undef),
      EqV (undef),
      EqV (undef),
      EqV (undef),
      EqV (undef),
      EqV (.bool true),
      EqV (.bool true),
      EqV (.bool true),
      EqV (.agg A1),
      EqV (.string S1),
      EqV (.agg A2),
      EqV (.string S2),
      EqV (.bool false),
      EqV (.agg A1),
      EqV (.agg A2),
      EqV (.bool false),
      EqV (.bool true),
      EqV (.bool true),
      EqV (.bool true)
    ]) (FL_keeps ⟨keeps_eq _, keeps_eq _, keeps_eq _, keeps_eq _, keeps_eq _, keeps_eq _, keeps_eq _, keeps_eq _, keeps_eq _, keeps_eq _, keeps_eq _, keeps_eq _, keeps_eq _, keeps_eq _, keeps_eq _, keeps_eq _, keeps_eq _, keeps_eq _, keeps_eq _, keeps_eq _, keeps_eq _, keeps_eq _, keeps_eq _, keeps_eq _, keeps_eq _, keeps_eq _, keeps_eq _, keeps_eq _, keeps_eq _, keeps_eq _, keeps_eq _, keeps_eq _, keeps_eq _, keeps_eq _, keeps_eq _, keeps_eq _, keeps_eq _, keeps_eq _, keeps_eq _, keeps_eq _, keeps_eq _, keeps_eq _, keeps_eq _, keeps_eq _, keeps_eq _, keeps_eq _, keeps_eq _, keeps_eq _, keeps_eq _, keeps_eq _, keeps_eq _, keeps_eq _, keeps_eq _, keeps_eq _, keeps_eq _, keeps_eq _, keeps_eq _, keeps_eq _, keeps_eq _, trivial⟩) (by kernel_rfl) rfl rfl rfl rfl ⟨
    .inr ⟨gk0 rfl, fun A w' γ hb hF hs => g_eq (op_move (.tmp 7) (.inl rfl) ((hs.2 7 rfl).trans rfl))⟩,
    .inr ⟨gk0 rfl, fun A w' γ hb hF hs => g_eq (op_move (.tmp 13) (.inl rfl) ((hs.1 0 rfl 13 rfl).trans (hF 0 rfl)))⟩,
    .inr ⟨gkT 1 true rfl rfl 14 rfl (fun _ _ h => h), fun A w' γ hb hF hs => g_eq (op_move (.tmp 8) (.inl rfl) ((hs.2 8 rfl).trans rfl))⟩,
    .inr ⟨gkT 1 true rfl rfl 14 rfl (fun _ _ h => h), fun A w' γ hb hF hs => g_eq (op_load 38 (.tmp 4) rfl ((hs.2 4 rfl).trans rfl) (K.out.2.1.below hb K.out.2.1.lt) Tryd.underlying38 (i2))⟩,
    .inr ⟨gkT 1 true rfl rfl 14 rfl (fun _ _ h => h), fun A w' γ hb hF hs => g_eq (op_load 38 (.tmp 3) rfl ((hs.2 3 rfl).trans rfl) (K.out.1.below hb K.out.1.lt) Tryd.underlying38 (i1))⟩,
    .inr ⟨gkT 1 true rfl rfl 14 rfl (fun _ _ h => h), fun A w' γ hb hF hs => g_eq (op_call 39 #[.agg A2, .agg A1] (exec_call _ 39 #[.agg A2, .agg A1] rfl rfl (margs2 ((hs.1 3 rfl 16 rfl).trans (hF 3 rfl)) ((hs.1 4 rfl 17 rfl).trans (hF 4 rfl))) Tryd.func39 rfl rfl) (k21 w'))⟩,
    .inr ⟨gkT 1 true rfl rfl 14 rfl (fun _ _ h => h), fun A w' γ hb hF hs => g_eq (op_neg 3 (.tmp 18) .i64 ((-c1)) (c1) rfl ((hs.1 5 rfl 18 rfl).trans (hF 5 rfl)) (hneg))⟩,
    .inr ⟨gkT 1 true rfl rfl 14 rfl (fun _ _ h => h), fun A w' γ hb hF hs => g_eq (op_eq_int 3 _ (.tmp 15) (.tmp 19) .i64 (c1) ((c1)) true rfl ((hs.1 2 rfl 15 rfl).trans (hF 2 rfl)) ((hs.1 6 rfl 19 rfl).trans (hF 6 rfl)) (by simp))⟩,
    .inr ⟨gk0 rfl, fun A w' γ hb hF hs => g_eq (op_pick (.tmp 14) (.tmp 20) (.const (.bool false)) true rfl ((hs.1 1 rfl 14 rfl).trans (hF 1 rfl)) ((hs.1 7 rfl 20 rfl).trans (hF 7 rfl)))⟩,
    .inr ⟨gk0 rfl, fun A w' γ hb hF hs => g_eq (op_move (.tmp 21) (.inl rfl) ((hs.1 8 rfl 21 rfl).trans (hF 8 rfl)))⟩,
    .inr ⟨gkT 9 true rfl rfl 22 rfl (fun _ _ h => h), fun A w' γ hb hF hs => g_eq (op_move (.tmp 8) (.inl rfl) ((hs.2 8 rfl).trans rfl))⟩,
    .inr ⟨gkT 9 true rfl rfl 22 rfl (fun _ _ h => h), fun A w' γ hb hF hs => g_eq (op_eq_int 3 _ (.tmp 23) (.const (.int .i64 0)) .i64 (c1) (0) false rfl ((hs.1 10 rfl 23 rfl).trans (hF 10 rfl)) rfl (hx0))⟩,
    .inr ⟨gkT 9 true rfl rfl 22 rfl (fun _ _ h => h), fun A w' γ hb hF hs => g_eq (op_load 38 (.tmp 3) rfl ((hs.2 3 rfl).trans rfl) (K.out.1.below hb K.out.1.lt) Tryd.underlying38 (i1))⟩,
    .inr ⟨gkT 9 true rfl rfl 22 rfl (fun _ _ h => h), fun A w' γ hb hF hs => g_eq (op_load 38 (.tmp 4) rfl ((hs.2 4 rfl).trans rfl) (K.out.2.1.below hb K.out.2.1.lt) Tryd.underlying38 (i2))⟩,
    .inr ⟨gkT 9 true rfl rfl 22 rfl (fun _ _ h => h), fun A w' γ hb hF hs => g_eq (op_eq_agg 38 _ (.tmp 25) (.tmp 26) (A1) (A2) false rfl ((hs.1 12 rfl 25 rfl).trans (hF 12 rfl)) ((hs.1 13 rfl 26 rfl).trans (hF 13 rfl)) (by kernel_rfl) (q12 _))⟩,
    .inr ⟨gkT 9 true rfl rfl 22 rfl (fun _ _ h => h), fun A w' γ hb hF hs => g_eq (op_eq_bool 4 _ (.tmp 24) (.tmp 27) (false) (false) true rfl ((hs.1 11 rfl 24 rfl).trans (hF 11 rfl)) ((hs.1 14 rfl 27 rfl).trans (hF 14 rfl)) Tryd.underlying4 (by simp))⟩,
    .inr ⟨gk0 rfl, fun A w' γ hb hF hs => g_eq (op_pick (.tmp 22) (.tmp 28) (.const (.bool false)) true rfl ((hs.1 9 rfl 22 rfl).trans (hF 9 rfl)) ((hs.1 15 rfl 28 rfl).trans (hF 15 rfl)))⟩,
    .inr ⟨gk0 rfl, fun A w' γ hb hF hs => g_eq (op_move (.tmp 29) (.inl rfl) ((hs.1 16 rfl 29 rfl).trans (hF 16 rfl)))⟩,
    .inr ⟨gkT 17 true rfl rfl 30 rfl (fun _ _ h => h), fun A w' γ hb hF hs => g_eq (op_move (.tmp 8) (.inl rfl) ((hs.2 8 rfl).trans rfl))⟩,
    .inr ⟨gkT 17 true rfl rfl 30 rfl (fun _ _ h => h), fun A w' γ hb hF hs => g_eq (op_gtr 3 _ (.tmp 31) (.const (.int .i64 0)) .i64 (c1) (0) false rfl ((hs.1 18 rfl 31 rfl).trans (hF 18 rfl)) rfl (hx))⟩,
    .inr ⟨gkT 17 true rfl rfl 30 rfl (fun _ _ h => h), fun A w' γ hb hF hs => g_eq (op_move (.tmp 32) (.inl rfl) ((hs.1 19 rfl 32 rfl).trans (hF 19 rfl)))⟩,
    .inr ⟨gkT 20 false rfl rfl 33 rfl (fun _ _ h => h), fun A w' γ hb hF hs => g_eq (op_load 38 (.tmp 4) rfl ((hs.2 4 rfl).trans rfl) (K.out.2.1.below hb K.out.2.1.lt) Tryd.underlying38 (i2))⟩,
    .inr ⟨gkT 20 false rfl rfl 33 rfl (fun _ _ h => h), fun A w' γ hb hF hs => g_eq (op_load 38 (.tmp 5) rfl ((hs.2 5 rfl).trans rfl) (K.out.2.2.1.below hb K.out.2.2.1.lt) Tryd.underlying38 (i3))⟩,
    .inr ⟨gkT 20 false rfl rfl 33 rfl (fun _ _ h => h), fun A w' γ hb hF hs => g_eq (op_call 39 #[.agg A2, .agg A3] (exec_call _ 39 #[.agg A2, .agg A3] rfl rfl (margs2 ((hs.1 21 rfl 34 rfl).trans (hF 21 rfl)) ((hs.1 22 rfl 35 rfl).trans (hF 22 rfl))) Tryd.func39 rfl rfl) (k23 w'))⟩,
    .inr ⟨gkT 20 false rfl rfl 33 rfl (fun _ _ h => h), fun A w' γ hb hF hs => g_eq (op_gtr 3 _ (.tmp 36) (.const (.int .i64 0)) .i64 (c2) (0) true rfl ((hs.1 23 rfl 36 rfl).trans (hF 23 rfl)) rfl (hy))⟩,
    .inr ⟨gkT 17 true rfl rfl 30 rfl (fun _ _ h => h), fun A w' γ hb hF hs => g_eq (op_pick (.tmp 33) (.const (.bool true)) (.tmp 37) false rfl ((hs.1 20 rfl 33 rfl).trans (hF 20 rfl)) ((hs.1 24 rfl 37 rfl).trans (hF 24 rfl)))⟩,
    .inr ⟨gkT 17 true rfl rfl 30 rfl (fun _ _ h => h), fun A w' γ hb hF hs => g_eq (op_move (.tmp 38) (.inl rfl) ((hs.1 25 rfl 38 rfl).trans (hF 25 rfl)))⟩,
    .inl ⟨gkF 26 false rfl rfl 39 rfl (fun _ _ h => h), fun _ => rfl⟩,
    .inl ⟨gkF 26 false rfl rfl 39 rfl (fun _ _ h => h), fun _ => rfl⟩,
    .inl ⟨gkF 26 false rfl rfl 39 rfl (fun _ _ h => h), fun _ => rfl⟩,
    .inl ⟨gkF 26 false rfl rfl 39 rfl (fun _ _ h => h), fun _ => rfl⟩,
    .inr ⟨gkT 17 true rfl rfl 30 rfl (fun _ _ h => h), fun A w' γ hb hF hs => g_eq (op_pick (.tmp 39) (.const (.bool true)) (.tmp 43) true rfl ((hs.1 26 rfl 39 rfl).trans (hF 26 rfl)) rfl)⟩,
    .inr ⟨gk0 rfl, fun A w' γ hb hF hs => g_eq (op_pick (.tmp 30) (.tmp 44) (.const (.bool false)) true rfl ((hs.1 17 rfl 30 rfl).trans (hF 17 rfl)) ((hs.1 31 rfl 44 rfl).trans (hF 31 rfl)))⟩,
    .inr ⟨gk0 rfl, fun A w' γ hb hF hs => g_eq (op_move (.tmp 45) (.inl rfl) ((hs.1 32 rfl 45 rfl).trans (hF 32 rfl)))⟩,
    .inr ⟨gkT 33 true rfl rfl 46 rfl (fun _ _ h => h), fun A w' γ hb hF hs => g_eq (op_load 38 (.tmp 3) rfl ((hs.2 3 rfl).trans rfl) (K.out.1.below hb K.out.1.lt) Tryd.underlying38 (i1))⟩,
    .inr ⟨gkT 33 true rfl rfl 46 rfl (fun _ _ h => h), fun A w' γ hb hF hs => g_eq (op_load 38 (.tmp 4) rfl ((hs.2 4 rfl).trans rfl) (K.out.2.1.below hb K.out.2.1.lt) Tryd.underlying38 (i2))⟩,
    .inr ⟨gkT 33 true rfl rfl 46 rfl (fun _ _ h => h), fun A w' γ hb hF hs => g_eq (op_neq_agg 38 _ (.tmp 47) (.tmp 48) (A1) (A2) false rfl ((hs.1 34 rfl 47 rfl).trans (hF 34 rfl)) ((hs.1 35 rfl 48 rfl).trans (hF 35 rfl)) (by kernel_rfl) (q12 _))⟩,
    .inr ⟨gkT 33 true rfl rfl 46 rfl (fun _ _ h => h), fun A w' γ hb hF hs => g_eq (op_move (.tmp 49) (.inl rfl) ((hs.1 36 rfl 49 rfl).trans (hF 36 rfl)))⟩,
    .inl ⟨gkF 37 false rfl rfl 50 rfl (fun _ _ h => h), fun _ => rfl⟩,
    .inl ⟨gkF 37 false rfl rfl 50 rfl (fun _ _ h => h), fun _ => rfl⟩,
    .inl ⟨gkF 37 false rfl rfl 50 rfl (fun _ _ h => h), fun _ => rfl⟩,
    .inl ⟨gkF 37 false rfl rfl 50 rfl (fun _ _ h => h), fun _ => rfl⟩,
    .inl ⟨gkF 37 false rfl rfl 50 rfl (fun _ _ h => h), fun _ => rfl⟩,
    .inl ⟨gkF 37 false rfl rfl 50 rfl (fun _ _ h => h), fun _ => rfl⟩,
    .inl ⟨gkF 37 false rfl rfl 50 rfl (fun _ _ h => h), fun _ => rfl⟩,
    .inr ⟨gkT 33 true rfl rfl 46 rfl (fun _ _ h => h), fun A w' γ hb hF hs => g_eq (op_pick (.tmp 50) (.const (.bool true)) (.tmp 57) true rfl ((hs.1 37 rfl 50 rfl).trans (hF 37 rfl)) rfl)⟩,
    .inr ⟨gk0 rfl, fun A w' γ hb hF hs => g_eq (op_pick (.tmp 46) (.tmp 58) (.const (.bool false)) true rfl ((hs.1 33 rfl 46 rfl).trans (hF 33 rfl)) ((hs.1 45 rfl 58 rfl).trans (hF 45 rfl)))⟩,
    .inr ⟨gk0 rfl, fun A w' γ hb hF hs => g_eq (op_move (.tmp 59) (.inl rfl) ((hs.1 46 rfl 59 rfl).trans (hF 46 rfl)))⟩,
    .inr ⟨gkT 47 true rfl rfl 60 rfl (fun _ _ h => h), fun A w' γ hb hF hs => g_eq (op_load 38 (.tmp 3) rfl ((hs.2 3 rfl).trans rfl) (K.out.1.below hb K.out.1.lt) Tryd.underlying38 (i1))⟩,
    .inr ⟨gkT 47 true rfl rfl 60 rfl (fun _ _ h => h), fun A w' γ hb hF hs => g_eq (op_call 41 #[.agg A1] (exec_call _ 41 #[.agg A1] rfl rfl (margs1 ((hs.1 48 rfl 61 rfl).trans (hF 48 rfl))) Tryd.func41 rfl rfl) (t1 w'))⟩,
    .inr ⟨gkT 47 true rfl rfl 60 rfl (fun _ _ h => h), fun A w' γ hb hF hs => g_eq (op_load 38 (.tmp 4) rfl ((hs.2 4 rfl).trans rfl) (K.out.2.1.below hb K.out.2.1.lt) Tryd.underlying38 (i2))⟩,
    .inr ⟨gkT 47 true rfl rfl 60 rfl (fun _ _ h => h), fun A w' γ hb hF hs => g_eq (op_call 41 #[.agg A2] (exec_call _ 41 #[.agg A2] rfl rfl (margs1 ((hs.1 50 rfl 63 rfl).trans (hF 50 rfl))) Tryd.func41 rfl rfl) (t2 w'))⟩,
    .inr ⟨gkT 47 true rfl rfl 60 rfl (fun _ _ h => h), fun A w' γ hb hF hs => g_eq (op_eq_str 9 _ (.tmp 62) (.tmp 64) (S1) (S2) false rfl ((hs.1 49 rfl 62 rfl).trans (hF 49 rfl)) ((hs.1 51 rfl 64 rfl).trans (hF 51 rfl)) (hS))⟩,
    .inr ⟨gkT 47 true rfl rfl 60 rfl (fun _ _ h => h), fun A w' γ hb hF hs => g_eq (op_load 38 (.tmp 3) rfl ((hs.2 3 rfl).trans rfl) (K.out.1.below hb K.out.1.lt) Tryd.underlying38 (i1))⟩,
    .inr ⟨gkT 47 true rfl rfl 60 rfl (fun _ _ h => h), fun A w' γ hb hF hs => g_eq (op_load 38 (.tmp 4) rfl ((hs.2 4 rfl).trans rfl) (K.out.2.1.below hb K.out.2.1.lt) Tryd.underlying38 (i2))⟩,
    .inr ⟨gkT 47 true rfl rfl 60 rfl (fun _ _ h => h), fun A w' γ hb hF hs => g_eq (op_eq_agg 38 _ (.tmp 66) (.tmp 67) (A1) (A2) false rfl ((hs.1 53 rfl 66 rfl).trans (hF 53 rfl)) ((hs.1 54 rfl 67 rfl).trans (hF 54 rfl)) (by kernel_rfl) (q12 _))⟩,
    .inr ⟨gkT 47 true rfl rfl 60 rfl (fun _ _ h => h), fun A w' γ hb hF hs => g_eq (op_eq_bool 4 _ (.tmp 65) (.tmp 68) (false) (false) true rfl ((hs.1 52 rfl 65 rfl).trans (hF 52 rfl)) ((hs.1 55 rfl 68 rfl).trans (hF 55 rfl)) Tryd.underlying4 (by simp))⟩,
    .inr ⟨gk0 rfl, fun A w' γ hb hF hs => g_eq (op_pick (.tmp 60) (.tmp 69) (.const (.bool false)) true rfl ((hs.1 47 rfl 60 rfl).trans (hF 47 rfl)) ((hs.1 56 rfl 69 rfl).trans (hF 56 rfl)))⟩,
    .inr ⟨gk0 rfl, fun A w' γ hb hF hs => g_eq (op_move (.tmp 70) (.inr rfl) ((hs.1 57 rfl 70 rfl).trans (hF 57 rfl)))⟩,
    trivial⟩ ?_
  intro γ w' hb hF
  have bz := bt K.out.2.2.2 hb
  have ez : γ 58 = .bool true := hF 58 (by decide)
  simp only [Fr, if_true, Act.put, List.setIfInBounds_toArray, List.set_cons_zero, List.set_cons_succ]
  rw [ez]
  clear ez hF hneg hx0 hx hS
  go_wp2
  go_ret
  exact ⟨rfl, bz⟩
set_option maxRecDepth 100000 in
set_option maxHeartbeats 4000000 in
theorem Order_Qe (w : World) (hL : Laid w) (A1 A2 A3 C1 : Array Value) (i1 : (Tryd.prog.info? 38).map (·.size) = some A1.size) (i2 : (Tryd.prog.info? 38).map (·.size) = some A2.size) (i3 : (Tryd.prog.info? 38).map (·.size) = some A3.size) (c1 c2 c3 : Int) (S1 S2 : ByteArray)
    (k12 : ∀ w, Calls Tryd.prog 39 #[.agg A1, .agg A2] w fun e w' => e = .returned (.int .i64 c1) ∧ Below w.heap.size w w') (k21 : ∀ w, Calls Tryd.prog 39 #[.agg A2, .agg A1] w fun e w' => e = .returned (.int .i64 (-c1)) ∧ Below w.heap.size w w')
    (k23 : ∀ w, Calls Tryd.prog 39 #[.agg A2, .agg A3] w fun e w' => e = .returned (.int .i64 c2) ∧ Below w.heap.size w w') (k13 : ∀ w, Calls Tryd.prog 39 #[.agg A1, .agg A3] w fun e w' => e = .returned (.int .i64 c3) ∧ Below w.heap.size w w')
    (p12 : ∀ w, Laid w → Calls Tryd.prog 40 #[.agg A1, .agg A2] w fun e w' => e = .returned (.agg C1) ∧ Below w.heap.size w w')
    (t1 : ∀ w, Calls Tryd.prog 41 #[.agg A1] w fun e w' => e = .returned (.string S1) ∧ Below w.heap.size w w') (t2 : ∀ w, Calls Tryd.prog 41 #[.agg A2] w fun e w' => e = .returned (.string S2) ∧ Below w.heap.size w w')
    (q12 : ∀ w, (Op.equalIn 10000 38 (.agg A1) (.agg A2)).run Tryd.prog w = .ok true w) (hneg : IntKind.i64.wrap (0 - -c1) = c1) (hx0 : (c1 == 0) = true) (hx : decide ((0 : Int) < c1) = false) (hy : decide ((0 : Int) < c2) = true) (p21 : ∀ w, Laid w → Calls Tryd.prog 40 #[.agg A2, .agg A1] w fun e w' => e = .returned (.agg C1) ∧ Below w.heap.size w w') (qC : ∀ w, (Op.equalIn 10000 38 (.agg C1) (.agg C1)).run Tryd.prog w = .ok true w) (hS : (S1.toList == S2.toList) = true) :
    Calls Tryd.prog 9 #[.agg A1, .agg A2, .agg A3] w fun e w' => e = .returned (.bool true) ∧ Below w.heap.size w w' := by
  have HL := Lib.hid hL; clear hL
  have bb : Below w.heap.size w (((w.alloc (.cells A1 38)).alloc (.cells A2 38)).alloc (.cells A3 38)) := ba (ba (ba (Below.refl _ _) _) _) _
  have B1 : Blk (((w.alloc (.cells A1 38)).alloc (.cells A2 38)).alloc (.cells A3 38)) w.heap.size 38 A1 := ((Blk.newAt w _ A1 rfl).alloc _).alloc _
  have B2 : Blk (((w.alloc (.cells A1 38)).alloc (.cells A2 38)).alloc (.cells A3 38)) (w.heap.size + 1) 38 A2 := (Blk.second w _ _ _).alloc _
  have B3 : Blk (((w.alloc (.cells A1 38)).alloc (.cells A2 38)).alloc (.cells A3 38)) (w.heap.size + 2) 38 A3 := Blk.newAt _ _ _ (by simp)
  have G := Lib.hid (And.intro B1 (And.intro B2 (And.intro B3 bb))); clear bb B1 B2 B3
  have HN := Lib.hid hneg; have HX := Lib.hid (And.intro hx0 hx); clear hneg hx0 hx
  have hneg := HN; have HS := Lib.hid hS; clear hS
  go_enter Tryd.func9, Tryd.ntmps9
  go_wp2_with fail
  refine (Awake03 _).mono ?_
  rintro e w1 ⟨rfl, hb1⟩
  have K1 := Lib.hid (And.intro (G.out.1.calls hb1) (And.intro (G.out.2.1.calls hb1) (And.intro (G.out.2.2.1.calls hb1) (bt G.out.2.2.2 hb1)))); clear hb1 G
  go_wp2_with (first | with_reducible refine wl_row K1.out.1 _ _ rfl rfl rfl _ _ Tryd.underlying38 i1 ?_ | with_reducible refine wl_row K1.out.2.1 _ _ rfl rfl rfl _ _ Tryd.underlying38 i2 ?_)
  refine (k12 w1).mono ?_
  rintro e w2 ⟨rfl, hb1⟩
  have K := Lib.hid (And.intro (K1.out.1.calls hb1) (And.intro (K1.out.2.1.calls hb1) (And.intro (K1.out.2.2.1.calls hb1) (bt K1.out.2.2.2 hb1)))); clear hb1 K1
  go_wp2_with fail
  have hneg := HN.out
  have hx0 := HX.out.1
  have hx := HX.out.2
  have hS := HS.out
  try simp only [List.append_eq, List.cons_append, List.nil_append]
  refine wp_region_g [some 13, some 14, some 15, some 16, some 17, some 18, some 19, some 20, some 21, some 22, some 23, some 24, some 25, some 26, some 27, some 28, some 29, some 30, some 31, some 32, some 33, some 34, some 35, some 36, some 37, some 38, some 39, some 40, some 41, some 42, some 43, some 44, some 45, some 46, some 47, some 48, some 49, some 50, some 51, some 52, some 53, some 54, some 55, some 56, some 57, some 58, some 59, some 60, some 61, some 62, some 63, some 64, some 65, some 66, some 67, some 68, some 69, some 70, some 6] (FL [
      EqV (.bool true),
      EqV (.bool true),
      EqV (.int .i64 c1),
      EqV (.agg A2),
      EqV (.agg A1),
      EqV (.int .i64 (-c1)),
      EqV (.int .i64 (c1)),
      EqV (.bool true),
      EqV (.bool true),
      EqV (.bool true),
      EqV (.int .i64 c1),
      EqV (.bool true),
      EqV (.agg A1),
      EqV (.agg A2),
      EqV (.bool true),
      EqV (.bool true),
      EqV (.bool true),
      EqV (.bool true),
      EqV (.int .i64 c1),
      EqV (.bool false),
      EqV (.bool false),
      EqV (.agg A2),
      EqV (.agg A3),
      EqV (.int .i64 c2),
      EqV (.bool true),
      EqV (.bool true),
      EqV (.bool true),
      EqV (undef),
      EqV (undef),
      EqV (undef),
      EqV (undef),
      EqV (.bool true),
      EqV (.bool true),
      EqV (.bool true),
      EqV (.agg A1),
      EqV (.agg A2),
      EqV (.bool false),
      EqV (.bool false),
      EqV (.agg A1),
      EqV (.agg A2),
      EqV (.agg C1),
      EqV (.agg A2),
      EqV (.agg A1),
      EqV (.agg C1),
      EqV (.bool true),
      EqV (.bool true),
      EqV (.bool true),
      EqV (.bool true),
      EqV (.agg A1),
      EqV (.string S1),
      EqV (.agg A2),
      EqV (.string S2),
      EqV (.bool true),
      EqV (.agg A1),
      EqV (.agg A2),
      EqV (.bool true),
      EqV (.bool true),
      EqV (.bool true),
      EqV (.bool true)
    ]) (FL_keeps ⟨keeps_eq _, keeps_eq _, keeps_eq _, keeps_eq _, keeps_eq _, keeps_eq _, keeps_eq _, keeps_eq _, keeps_eq _, keeps_eq _, keeps_eq _, keeps_eq _, keeps_eq _, keeps_eq _, keeps_eq _, keeps_eq _, keeps_eq _, keeps_eq _, keeps_eq _, keeps_eq _, keeps_eq _, keeps_eq _, keeps_eq _, keeps_eq _, keeps_eq _, keeps_eq _, keeps_eq _, keeps_eq _, keeps_eq _, keeps_eq _, keeps_eq _, keeps_eq _, keeps_eq _, keeps_eq _, keeps_eq _, keeps_eq _, keeps_eq _, keeps_eq _, keeps_eq _, keeps_eq _, keeps_eq _, keeps_eq _, keeps_eq _, keeps_eq _, keeps_eq _, keeps_eq _, keeps_eq _, keeps_eq _, keeps_eq _, keeps_eq _, keeps_eq _, keeps_eq _, keeps_eq _, keeps_eq _, keeps_eq _, keeps_eq _, keeps_eq _, keeps_eq _, keeps_eq _, trivial⟩) (by kernel_rfl) rfl rfl rfl rfl ⟨
    .inr ⟨gk0 rfl, fun A w' γ hb hF hs => g_eq (op_move (.tmp 7) (.inl rfl) ((hs.2 7 rfl).trans rfl))⟩,
    .inr ⟨gk0 rfl, fun A w' γ hb hF hs => g_eq (op_move (.tmp 13) (.inl rfl) ((hs.1 0 rfl 13 rfl).trans (hF 0 rfl)))⟩,
    .inr ⟨gkT 1 true rfl rfl 14 rfl (fun _ _ h => h), fun A w' γ hb hF hs => g_eq (op_move (.tmp 8) (.inl rfl) ((hs.2 8 rfl).trans rfl))⟩,
    .inr ⟨gkT 1 true rfl rfl 14 rfl (fun _ _ h => h), fun A w' γ hb hF hs => g_eq (op_load 38 (.tmp 4) rfl ((hs.2 4 rfl).trans rfl) (K.out.2.1.below hb K.out.2.1.lt) Tryd.underlying38 (i2))⟩,
    .inr ⟨gkT 1 true rfl rfl 14 rfl (fun _ _ h => h), fun A w' γ hb hF hs => g_eq (op_load 38 (.tmp 3) rfl ((hs.2 3 rfl).trans rfl) (K.out.1.below hb K.out.1.lt) Tryd.underlying38 (i1))⟩,
    .inr ⟨gkT 1 true rfl rfl 14 rfl (fun _ _ h => h), fun A w' γ hb hF hs => g_eq (op_call 39 #[.agg A2, .agg A1] (exec_call _ 39 #[.agg A2, .agg A1] rfl rfl (margs2 ((hs.1 3 rfl 16 rfl).trans (hF 3 rfl)) ((hs.1 4 rfl 17 rfl).trans (hF 4 rfl))) Tryd.func39 rfl rfl) (k21 w'))⟩,
    .inr ⟨gkT 1 true rfl rfl 14 rfl (fun _ _ h => h), fun A w' γ hb hF hs => g_eq (op_neg 3 (.tmp 18) .i64 ((-c1)) (c1) rfl ((hs.1 5 rfl 18 rfl).trans (hF 5 rfl)) (hneg))⟩,
    .inr ⟨gkT 1 true rfl rfl 14 rfl (fun _ _ h => h), fun A w' γ hb hF hs => g_eq (op_eq_int 3 _ (.tmp 15) (.tmp 19) .i64 (c1) ((c1)) true rfl ((hs.1 2 rfl 15 rfl).trans (hF 2 rfl)) ((hs.1 6 rfl 19 rfl).trans (hF 6 rfl)) (by simp))⟩,
    .inr ⟨gk0 rfl, fun A w' γ hb hF hs => g_eq (op_pick (.tmp 14) (.tmp 20) (.const (.bool false)) true rfl ((hs.1 1 rfl 14 rfl).trans (hF 1 rfl)) ((hs.1 7 rfl 20 rfl).trans (hF 7 rfl)))⟩,
    .inr ⟨gk0 rfl, fun A w' γ hb hF hs => g_eq (op_move (.tmp 21) (.inl rfl) ((hs.1 8 rfl 21 rfl).trans (hF 8 rfl)))⟩,
    .inr ⟨gkT 9 true rfl rfl 22 rfl (fun _ _ h => h), fun A w' γ hb hF hs => g_eq (op_move (.tmp 8) (.inl rfl) ((hs.2 8 rfl).trans rfl))⟩,
    .inr ⟨gkT 9 true rfl rfl 22 rfl (fun _ _ h => h), fun A w' γ hb hF hs => g_eq (op_eq_int 3 _ (.tmp 23) (.const (.int .i64 0)) .i64 (c1) (0) true rfl ((hs.1 10 rfl 23 rfl).trans (hF 10 rfl)) rfl (hx0))⟩,
    .inr ⟨gkT 9 true rfl rfl 22 rfl (fun _ _ h => h), fun A w' γ hb hF hs => g_eq (op_load 38 (.tmp 3) rfl ((hs.2 3 rfl).trans rfl) (K.out.1.below hb K.out.1.lt) Tryd.underlying38 (i1))⟩,
    .inr ⟨gkT 9 true rfl rfl 22 rfl (fun _ _ h => h), fun A w' γ hb hF hs => g_eq (op_load 38 (.tmp 4) rfl ((hs.2 4 rfl).trans rfl) (K.out.2.1.below hb K.out.2.1.lt) Tryd.underlying38 (i2))⟩,
    .inr ⟨gkT 9 true rfl rfl 22 rfl (fun _ _ h => h), fun A w' γ hb hF hs => g_eq (op_eq_agg 38 _ (.tmp 25) (.tmp 26) (A1) (A2) true rfl ((hs.1 12 rfl 25 rfl).trans (hF 12 rfl)) ((hs.1 13 rfl 26 rfl).trans (hF 13 rfl)) (by kernel_rfl) (q12 _))⟩,
    .inr ⟨gkT 9 true rfl rfl 22 rfl (fun _ _ h => h), fun A w' γ hb hF hs => g_eq (op_eq_bool 4 _ (.tmp 24) (.tmp 27) (true) (true) true rfl ((hs.1 11 rfl 24 rfl).trans (hF 11 rfl)) ((hs.1 14 rfl 27 rfl).trans (hF 14 rfl)) Tryd.underlying4 (by simp))⟩,
    .inr ⟨gk0 rfl, fun A w' γ hb hF hs => g_eq (op_pick (.tmp 22) (.tmp 28) (.const (.bool false)) true rfl ((hs.1 9 rfl 22 rfl).trans (hF 9 rfl)) ((hs.1 15 rfl 28 rfl).trans (hF 15 rfl)))⟩,
    .inr ⟨gk0 rfl, fun A w' γ hb hF hs => g_eq (op_move (.tmp 29) (.inl rfl) ((hs.1 16 rfl 29 rfl).trans (hF 16 rfl)))⟩,
    .inr ⟨gkT 17 true rfl rfl 30 rfl (fun _ _ h => h), fun A w' γ hb hF hs => g_eq (op_move (.tmp 8) (.inl rfl) ((hs.2 8 rfl).trans rfl))⟩,
    .inr ⟨gkT 17 true rfl rfl 30 rfl (fun _ _ h => h), fun A w' γ hb hF hs => g_eq (op_gtr 3 _ (.tmp 31) (.const (.int .i64 0)) .i64 (c1) (0) false rfl ((hs.1 18 rfl 31 rfl).trans (hF 18 rfl)) rfl (hx))⟩,
    .inr ⟨gkT 17 true rfl rfl 30 rfl (fun _ _ h => h), fun A w' γ hb hF hs => g_eq (op_move (.tmp 32) (.inl rfl) ((hs.1 19 rfl 32 rfl).trans (hF 19 rfl)))⟩,
    .inr ⟨gkT 20 false rfl rfl 33 rfl (fun _ _ h => h), fun A w' γ hb hF hs => g_eq (op_load 38 (.tmp 4) rfl ((hs.2 4 rfl).trans rfl) (K.out.2.1.below hb K.out.2.1.lt) Tryd.underlying38 (i2))⟩,
    .inr ⟨gkT 20 false rfl rfl 33 rfl (fun _ _ h => h), fun A w' γ hb hF hs => g_eq (op_load 38 (.tmp 5) rfl ((hs.2 5 rfl).trans rfl) (K.out.2.2.1.below hb K.out.2.2.1.lt) Tryd.underlying38 (i3))⟩,
    .inr ⟨gkT 20 false rfl rfl 33 rfl (fun _ _ h => h), fun A w' γ hb hF hs => g_eq (op_call 39 #[.agg A2, .agg A3] (exec_call _ 39 #[.agg A2, .agg A3] rfl rfl (margs2 ((hs.1 21 rfl 34 rfl).trans (hF 21 rfl)) ((hs.1 22 rfl 35 rfl).trans (hF 22 rfl))) Tryd.func39 rfl rfl) (k23 w'))⟩,
    .inr ⟨gkT 20 false rfl rfl 33 rfl (fun _ _ h => h), fun A w' γ hb hF hs => g_eq (op_gtr 3 _ (.tmp 36) (.const (.int .i64 0)) .i64 (c2) (0) true rfl ((hs.1 23 rfl 36 rfl).trans (hF 23 rfl)) rfl (hy))⟩,
    .inr ⟨gkT 17 true rfl rfl 30 rfl (fun _ _ h => h), fun A w' γ hb hF hs => g_eq (op_pick (.tmp 33) (.const (.bool true)) (.tmp 37) false rfl ((hs.1 20 rfl 33 rfl).trans (hF 20 rfl)) ((hs.1 24 rfl 37 rfl).trans (hF 24 rfl)))⟩,
    .inr ⟨gkT 17 true rfl rfl 30 rfl (fun _ _ h => h), fun A w' γ hb hF hs => g_eq (op_move (.tmp 38) (.inl rfl) ((hs.1 25 rfl 38 rfl).trans (hF 25 rfl)))⟩,
    .inl ⟨gkF 26 false rfl rfl 39 rfl (fun _ _ h => h), fun _ => rfl⟩,
    .inl ⟨gkF 26 false rfl rfl 39 rfl (fun _ _ h => h), fun _ => rfl⟩,
    .inl ⟨gkF 26 false rfl rfl 39 rfl (fun _ _ h => h), fun _ => rfl⟩,
    .inl ⟨gkF 26 false rfl rfl 39 rfl (fun _ _ h => h), fun _ => rfl⟩,
    .inr ⟨gkT 17 true rfl rfl 30 rfl (fun _ _ h => h), fun A w' γ hb hF hs => g_eq (op_pick (.tmp 39) (.const (.bool true)) (.tmp 43) true rfl ((hs.1 26 rfl 39 rfl).trans (hF 26 rfl)) rfl)⟩,
    .inr ⟨gk0 rfl, fun A w' γ hb hF hs => g_eq (op_pick (.tmp 30) (.tmp 44) (.const (.bool false)) true rfl ((hs.1 17 rfl 30 rfl).trans (hF 17 rfl)) ((hs.1 31 rfl 44 rfl).trans (hF 31 rfl)))⟩,
    .inr ⟨gk0 rfl, fun A w' γ hb hF hs => g_eq (op_move (.tmp 45) (.inl rfl) ((hs.1 32 rfl 45 rfl).trans (hF 32 rfl)))⟩,
    .inr ⟨gkT 33 true rfl rfl 46 rfl (fun _ _ h => h), fun A w' γ hb hF hs => g_eq (op_load 38 (.tmp 3) rfl ((hs.2 3 rfl).trans rfl) (K.out.1.below hb K.out.1.lt) Tryd.underlying38 (i1))⟩,
    .inr ⟨gkT 33 true rfl rfl 46 rfl (fun _ _ h => h), fun A w' γ hb hF hs => g_eq (op_load 38 (.tmp 4) rfl ((hs.2 4 rfl).trans rfl) (K.out.2.1.below hb K.out.2.1.lt) Tryd.underlying38 (i2))⟩,
    .inr ⟨gkT 33 true rfl rfl 46 rfl (fun _ _ h => h), fun A w' γ hb hF hs => g_eq (op_neq_agg 38 _ (.tmp 47) (.tmp 48) (A1) (A2) true rfl ((hs.1 34 rfl 47 rfl).trans (hF 34 rfl)) ((hs.1 35 rfl 48 rfl).trans (hF 35 rfl)) (by kernel_rfl) (q12 _))⟩,
    .inr ⟨gkT 33 true rfl rfl 46 rfl (fun _ _ h => h), fun A w' γ hb hF hs => g_eq (op_move (.tmp 49) (.inl rfl) ((hs.1 36 rfl 49 rfl).trans (hF 36 rfl)))⟩,
    .inr ⟨gkT 37 false rfl rfl 50 rfl (fun _ _ h => h), fun A w' γ hb hF hs => g_eq (op_load 38 (.tmp 3) rfl ((hs.2 3 rfl).trans rfl) (K.out.1.below hb K.out.1.lt) Tryd.underlying38 (i1))⟩,
    .inr ⟨gkT 37 false rfl rfl 50 rfl (fun _ _ h => h), fun A w' γ hb hF hs => g_eq (op_load 38 (.tmp 4) rfl ((hs.2 4 rfl).trans rfl) (K.out.2.1.below hb K.out.2.1.lt) Tryd.underlying38 (i2))⟩,
    .inr ⟨gkT 37 false rfl rfl 50 rfl (fun _ _ h => h), fun A w' γ hb hF hs => g_eq (op_call 40 #[.agg A1, .agg A2] (exec_call _ 40 #[.agg A1, .agg A2] rfl rfl (margs2 ((hs.1 38 rfl 51 rfl).trans (hF 38 rfl)) ((hs.1 39 rfl 52 rfl).trans (hF 39 rfl))) Tryd.func40 rfl rfl) (p12 w' (HL.out.below (bt K.out.2.2.2 hb) (Nat.le_refl _))))⟩,
    .inr ⟨gkT 37 false rfl rfl 50 rfl (fun _ _ h => h), fun A w' γ hb hF hs => g_eq (op_load 38 (.tmp 4) rfl ((hs.2 4 rfl).trans rfl) (K.out.2.1.below hb K.out.2.1.lt) Tryd.underlying38 (i2))⟩,
    .inr ⟨gkT 37 false rfl rfl 50 rfl (fun _ _ h => h), fun A w' γ hb hF hs => g_eq (op_load 38 (.tmp 3) rfl ((hs.2 3 rfl).trans rfl) (K.out.1.below hb K.out.1.lt) Tryd.underlying38 (i1))⟩,
    .inr ⟨gkT 37 false rfl rfl 50 rfl (fun _ _ h => h), fun A w' γ hb hF hs => g_eq (op_call 40 #[.agg A2, .agg A1] (exec_call _ 40 #[.agg A2, .agg A1] rfl rfl (margs2 ((hs.1 41 rfl 54 rfl).trans (hF 41 rfl)) ((hs.1 42 rfl 55 rfl).trans (hF 42 rfl))) Tryd.func40 rfl rfl) (p21 w' (HL.out.below (bt K.out.2.2.2 hb) (Nat.le_refl _))))⟩,
    .inr ⟨gkT 37 false rfl rfl 50 rfl (fun _ _ h => h), fun A w' γ hb hF hs => g_eq (op_eq_agg 38 _ (.tmp 53) (.tmp 56) (C1) (C1) true rfl ((hs.1 40 rfl 53 rfl).trans (hF 40 rfl)) ((hs.1 43 rfl 56 rfl).trans (hF 43 rfl)) (by kernel_rfl) (qC _))⟩,
    .inr ⟨gkT 33 true rfl rfl 46 rfl (fun _ _ h => h), fun A w' γ hb hF hs => g_eq (op_pick (.tmp 50) (.const (.bool true)) (.tmp 57) false rfl ((hs.1 37 rfl 50 rfl).trans (hF 37 rfl)) ((hs.1 44 rfl 57 rfl).trans (hF 44 rfl)))⟩,
    .inr ⟨gk0 rfl, fun A w' γ hb hF hs => g_eq (op_pick (.tmp 46) (.tmp 58) (.const (.bool false)) true rfl ((hs.1 33 rfl 46 rfl).trans (hF 33 rfl)) ((hs.1 45 rfl 58 rfl).trans (hF 45 rfl)))⟩,
    .inr ⟨gk0 rfl, fun A w' γ hb hF hs => g_eq (op_move (.tmp 59) (.inl rfl) ((hs.1 46 rfl 59 rfl).trans (hF 46 rfl)))⟩,
    .inr ⟨gkT 47 true rfl rfl 60 rfl (fun _ _ h => h), fun A w' γ hb hF hs => g_eq (op_load 38 (.tmp 3) rfl ((hs.2 3 rfl).trans rfl) (K.out.1.below hb K.out.1.lt) Tryd.underlying38 (i1))⟩,
    .inr ⟨gkT 47 true rfl rfl 60 rfl (fun _ _ h => h), fun A w' γ hb hF hs => g_eq (op_call 41 #[.agg A1] (exec_call _ 41 #[.agg A1] rfl rfl (margs1 ((hs.1 48 rfl 61 rfl).trans (hF 48 rfl))) Tryd.func41 rfl rfl) (t1 w'))⟩,
    .inr ⟨gkT 47 true rfl rfl 60 rfl (fun _ _ h => h), fun A w' γ hb hF hs => g_eq (op_load 38 (.tmp 4) rfl ((hs.2 4 rfl).trans rfl) (K.out.2.1.below hb K.out.2.1.lt) Tryd.underlying38 (i2))⟩,
    .inr ⟨gkT 47 true rfl rfl 60 rfl (fun _ _ h => h), fun A w' γ hb hF hs => g_eq (op_call 41 #[.agg A2] (exec_call _ 41 #[.agg A2] rfl rfl (margs1 ((hs.1 50 rfl 63 rfl).trans (hF 50 rfl))) Tryd.func41 rfl rfl) (t2 w'))⟩,
    .inr ⟨gkT 47 true rfl rfl 60 rfl (fun _ _ h => h), fun A w' γ hb hF hs => g_eq (op_eq_str 9 _ (.tmp 62) (.tmp 64) (S1) (S2) true rfl ((hs.1 49 rfl 62 rfl).trans (hF 49 rfl)) ((hs.1 51 rfl 64 rfl).trans (hF 51 rfl)) (hS))⟩,
    .inr ⟨gkT 47 true rfl rfl 60 rfl (fun _ _ h => h), fun A w' γ hb hF hs => g_eq (op_load 38 (.tmp 3) rfl ((hs.2 3 rfl).trans rfl) (K.out.1.below hb K.out.1.lt) Tryd.underlying38 (i1))⟩,
    .inr ⟨gkT 47 true rfl rfl 60 rfl (fun _ _ h => h), fun A w' γ hb hF hs => g_eq (op_load 38 (.tmp 4) rfl ((hs.2 4 rfl).trans rfl) (K.out.2.1.below hb K.out.2.1.lt) Tryd.underlying38 (i2))⟩,
    .inr ⟨gkT 47 true rfl rfl 60 rfl (fun _ _ h => h), fun A w' γ hb hF hs => g_eq (op_eq_agg 38 _ (.tmp 66) (.tmp 67) (A1) (A2) true rfl ((hs.1 53 rfl 66 rfl).trans (hF 53 rfl)) ((hs.1 54 rfl 67 rfl).trans (hF 54 rfl)) (by kernel_rfl) (q12 _))⟩,
    .inr ⟨gkT 47 true rfl rfl 60 rfl (fun _ _ h => h), fun A w' γ hb hF hs => g_eq (op_eq_bool 4 _ (.tmp 65) (.tmp 68) (true) (true) true rfl ((hs.1 52 rfl 65 rfl).trans (hF 52 rfl)) ((hs.1 55 rfl 68 rfl).trans (hF 55 rfl)) Tryd.underlying4 (by simp))⟩,
    .inr ⟨gk0 rfl, fun A w' γ hb hF hs => g_eq (op_pick (.tmp 60) (.tmp 69) (.const (.bool false)) true rfl ((hs.1 47 rfl 60 rfl).trans (hF 47 rfl)) ((hs.1 56 rfl 69 rfl).trans (hF 56 rfl)))⟩,
    .inr ⟨gk0 rfl, fun A w' γ hb hF hs => g_eq (op_move (.tmp 70) (.inr rfl) ((hs.1 57 rfl 70 rfl).trans (hF 57 rfl)))⟩,
    trivial⟩ ?_
  intro γ w' hb hF
  have bz := bt K.out.2.2.2 hb
  have ez : γ 58 = .bool true := hF 58 (by decide)
  simp only [Fr, if_true, Act.put, List.setIfInBounds_toArray, List.set_cons_zero, List.set_cons_succ]
  rw [ez]
  clear ez hF hneg hx0 hx hS
  go_wp2
  go_ret
  exact ⟨rfl, bz⟩
set_option maxRecDepth 100000 in
set_option maxHeartbeats 4000000 in
theorem Order_R (w : World) (hL : Laid w) (A1 A2 A3 C1 : Array Value) (i1 : (Tryd.prog.info? 38).map (·.size) = some A1.size) (i2 : (Tryd.prog.info? 38).map (·.size) = some A2.size) (i3 : (Tryd.prog.info? 38).map (·.size) = some A3.size) (c1 c2 c3 : Int) (S1 S2 : ByteArray)
    (k12 : ∀ w, Calls Tryd.prog 39 #[.agg A1, .agg A2] w fun e w' => e = .returned (.int .i64 c1) ∧ Below w.heap.size w w') (k21 : ∀ w, Calls Tryd.prog 39 #[.agg A2, .agg A1] w fun e w' => e = .returned (.int .i64 (-c1)) ∧ Below w.heap.size w w')
    (k23 : ∀ w, Calls Tryd.prog 39 #[.agg A2, .agg A3] w fun e w' => e = .returned (.int .i64 c2) ∧ Below w.heap.size w w') (k13 : ∀ w, Calls Tryd.prog 39 #[.agg A1, .agg A3] w fun e w' => e = .returned (.int .i64 c3) ∧ Below w.heap.size w w')
    (p12 : ∀ w, Laid w → Calls Tryd.prog 40 #[.agg A1, .agg A2] w fun e w' => e = .returned (.agg C1) ∧ Below w.heap.size w w')
    (t1 : ∀ w, Calls Tryd.prog 41 #[.agg A1] w fun e w' => e = .returned (.string S1) ∧ Below w.heap.size w w') (t2 : ∀ w, Calls Tryd.prog 41 #[.agg A2] w fun e w' => e = .returned (.string S2) ∧ Below w.heap.size w w')
    (q12 : ∀ w, (Op.equalIn 10000 38 (.agg A1) (.agg A2)).run Tryd.prog w = .ok false w) (hneg : IntKind.i64.wrap (0 - -c1) = c1) (hx0 : (c1 == 0) = false) (hx : decide ((0 : Int) < c1) = false) (hy : decide ((0 : Int) < c2) = false) (h13 : decide (c3 ≤ (0 : Int)) = true) (hS : (S1.toList == S2.toList) = false) :
    Calls Tryd.prog 9 #[.agg A1, .agg A2, .agg A3] w fun e w' => e = .returned (.bool true) ∧ Below w.heap.size w w' := by
  have HL := Lib.hid hL; clear hL
  have bb : Below w.heap.size w (((w.alloc (.cells A1 38)).alloc (.cells A2 38)).alloc (.cells A3 38)) := ba (ba (ba (Below.refl _ _) _) _) _
  have B1 : Blk (((w.alloc (.cells A1 38)).alloc (.cells A2 38)).alloc (.cells A3 38)) w.heap.size 38 A1 := ((Blk.newAt w _ A1 rfl).alloc _).alloc _
  have B2 : Blk (((w.alloc (.cells A1 38)).alloc (.cells A2 38)).alloc (.cells A3 38)) (w.heap.size + 1) 38 A2 := (Blk.second w _ _ _).alloc _
  have B3 : Blk (((w.alloc (.cells A1 38)).alloc (.cells A2 38)).alloc (.cells A3 38)) (w.heap.size + 2) 38 A3 := Blk.newAt _ _ _ (by simp)
  have G := Lib.hid (And.intro B1 (And.intro B2 (And.intro B3 bb))); clear bb B1 B2 B3
  have HN := Lib.hid hneg; have HX := Lib.hid (And.intro hx0 hx); clear hneg hx0 hx
  have hneg := HN; have HS := Lib.hid hS; clear hS
  go_enter Tryd.func9, Tryd.ntmps9
  go_wp2_with fail
  refine (Awake03 _).mono ?_
  rintro e w1 ⟨rfl, hb1⟩
  have K1 := Lib.hid (And.intro (G.out.1.calls hb1) (And.intro (G.out.2.1.calls hb1) (And.intro (G.out.2.2.1.calls hb1) (bt G.out.2.2.2 hb1)))); clear hb1 G
  go_wp2_with (first | with_reducible refine wl_row K1.out.1 _ _ rfl rfl rfl _ _ Tryd.underlying38 i1 ?_ | with_reducible refine wl_row K1.out.2.1 _ _ rfl rfl rfl _ _ Tryd.underlying38 i2 ?_)
  refine (k12 w1).mono ?_
  rintro e w2 ⟨rfl, hb1⟩
  have K := Lib.hid (And.intro (K1.out.1.calls hb1) (And.intro (K1.out.2.1.calls hb1) (And.intro (K1.out.2.2.1.calls hb1) (bt K1.out.2.2.2 hb1)))); clear hb1 K1
  go_wp2_with fail
  have hneg := HN.out
  have hx0 := HX.out.1
  have hx := HX.out.2
  have hS := HS.out
  try simp only [List.append_eq, List.cons_append, List.nil_append]
  refine wp_region_g [some 13, some 14, some 15, some 16, some 17, some 18, some 19, some 20, some 21, some 22, some 23, some 24, some 25, some 26, some 27, some 28, some 29, some 30, some 31, some 32, some 33, some 34, some 35, some 36, some 37, some 38, some 39, some 40, some 41, some 42, some 43, some 44, some 45, some 46, some 47, some 48, some 49, some 50, some 51, some 52, some 53, some 54, some 55, some 56, some 57, some 58, some 59, some 60, some 61, some 62, some 63, some 64, some 65, some 66, some 67, some 68, some 69, some 70, some 6] (FL [
      EqV (.bool true),
      EqV (.bool true),
      EqV (.int .i64 c1),
      EqV (.agg A2),
      EqV (.agg A1),
      EqV (.int .i64 (-c1)),
      EqV (.int .i64 (c1)),
      EqV (.bool true),
      EqV (.bool true),
      EqV (.bool true),
      EqV (.int .i64 c1),
      EqV (.bool false),
      EqV (.agg A1),
      EqV (.agg A2),
      EqV (.bool false),
      EqV (.bool true),
      EqV (.bool true),
      EqV (.bool true),
      EqV (.int .i64 c1),
      EqV (.bool false),
      EqV (.bool false),
      EqV (.agg A2),
      EqV (.agg A3),
      EqV (.int .i64 c2),
      EqV (.bool false),
      EqV (.bool false),
      EqV (.bool false),
      EqV (.agg A1),
      EqV (.agg A3),
      EqV (.int .i64 c3),
      EqV (.bool true),
      EqV (.bool true),
      EqV (.bool true),
      EqV (.bool true),
      EqV (.agg A1),
      EqV (.agg A2),
      EqV (.bool true),
      EqV (.bool true),
      EqV (undef),
      EqV (undef),
      EqV (undef),
      EqV (undef),
      EqV (undef),
      EqV (undef),
      EqV (undef),
      EqV (.bool true),
      EqV (.bool true),
      EqV (.bool true),
      EqV (.agg A1),
      EqV (.string S1),
      EqV (.agg A2),
      EqV (.string S2),
      EqV (.bool false),
      EqV (.agg A1),
      EqV (.agg A2),
      EqV (.bool false),
      EqV (.bool true),
      EqV (.bool true),
      EqV (.bool true)
    ]) (FL_keeps ⟨keeps_eq _, keeps_eq _, keeps_eq _, keeps_eq _, keeps_eq _, keeps_eq _, keeps_eq _, keeps_eq _, keeps_eq _, keeps_eq _, keeps_eq _, keeps_eq _, keeps_eq _, keeps_eq _, keeps_eq _, keeps_eq _, keeps_eq _, keeps_eq _, keeps_eq _, keeps_eq _, keeps_eq _, keeps_eq _, keeps_eq _, keeps_eq _, keeps_eq _, keeps_eq _, keeps_eq _, keeps_eq _, keeps_eq _, keeps_eq _, keeps_eq _, keeps_eq _, keeps_eq _, keeps_eq _, keeps_eq _, keeps_eq _, keeps_eq _, keeps_eq _, keeps_eq _, keeps_eq _, keeps_eq _, keeps_eq _, keeps_eq _, keeps_eq _, keeps_eq _, keeps_eq _, keeps_eq _, keeps_eq _, keeps_eq _, keeps_eq _, keeps_eq _, keeps_eq _, keeps_eq _, keeps_eq _, keeps_eq _, keeps_eq _, keeps_eq _, keeps_eq _, keeps_eq _, trivial⟩) (by kernel_rfl) rfl rfl rfl rfl ⟨
    .inr ⟨gk0 rfl, fun A w' γ hb hF hs => g_eq (op_move (.tmp 7) (.inl rfl) ((hs.2 7 rfl).trans rfl))⟩,
    .inr ⟨gk0 rfl, fun A w' γ hb hF hs => g_eq (op_move (.tmp 13) (.inl rfl) ((hs.1 0 rfl 13 rfl).trans (hF 0 rfl)))⟩,
    .inr ⟨gkT 1 true rfl rfl 14 rfl (fun _ _ h => h), fun A w' γ hb hF hs => g_eq (op_move (.tmp 8) (.inl rfl) ((hs.2 8 rfl).trans rfl))⟩,
    .inr ⟨gkT 1 true rfl rfl 14 rfl (fun _ _ h => h), fun A w' γ hb hF hs => g_eq (op_load 38 (.tmp 4) rfl ((hs.2 4 rfl).trans rfl) (K.out.2.1.below hb K.out.2.1.lt) Tryd.underlying38 (i2))⟩,
    .inr ⟨gkT 1 true rfl rfl 14 rfl (fun _ _ h => h), fun A w' γ hb hF hs => g_eq (op_load 38 (.tmp 3) rfl ((hs.2 3 rfl).trans rfl) (K.out.1.below hb K.out.1.lt) Tryd.underlying38 (i1))⟩,
    .inr ⟨gkT 1 true rfl rfl 14 rfl (fun _ _ h => h), fun A w' γ hb hF hs => g_eq (op_call 39 #[.agg A2, .agg A1] (exec_call _ 39 #[.agg A2, .agg A1] rfl rfl (margs2 ((hs.1 3 rfl 16 rfl).trans (hF 3 rfl)) ((hs.1 4 rfl 17 rfl).trans (hF 4 rfl))) Tryd.func39 rfl rfl) (k21 w'))⟩,
    .inr ⟨gkT 1 true rfl rfl 14 rfl (fun _ _ h => h), fun A w' γ hb hF hs => g_eq (op_neg 3 (.tmp 18) .i64 ((-c1)) (c1) rfl ((hs.1 5 rfl 18 rfl).trans (hF 5 rfl)) (hneg))⟩,
    .inr ⟨gkT 1 true rfl rfl 14 rfl (fun _ _ h => h), fun A w' γ hb hF hs => g_eq (op_eq_int 3 _ (.tmp 15) (.tmp 19) .i64 (c1) ((c1)) true rfl ((hs.1 2 rfl 15 rfl).trans (hF 2 rfl)) ((hs.1 6 rfl 19 rfl).trans (hF 6 rfl)) (by simp))⟩,
    .inr ⟨gk0 rfl, fun A w' γ hb hF hs => g_eq (op_pick (.tmp 14) (.tmp 20) (.const (.bool false)) true rfl ((hs.1 1 rfl 14 rfl).trans (hF 1 rfl)) ((hs.1 7 rfl 20 rfl).trans (hF 7 rfl)))⟩,
    .inr ⟨gk0 rfl, fun A w' γ hb hF hs => g_eq (op_move (.tmp 21) (.inl rfl) ((hs.1 8 rfl 21 rfl).trans (hF 8 rfl)))⟩,
    .inr ⟨gkT 9 true rfl rfl 22 rfl (fun _ _ h => h), fun A w' γ hb hF hs => g_eq (op_move (.tmp 8) (.inl rfl) ((hs.2 8 rfl).trans rfl))⟩,
    .inr ⟨gkT 9 true rfl rfl 22 rfl (fun _ _ h => h), fun A w' γ hb hF hs => g_eq (op_eq_int 3 _ (.tmp 23) (.const (.int .i64 0)) .i64 (c1) (0) false rfl ((hs.1 10 rfl 23 rfl).trans (hF 10 rfl)) rfl (hx0))⟩,
    .inr ⟨gkT 9 true rfl rfl 22 rfl (fun _ _ h => h), fun A w' γ hb hF hs => g_eq (op_load 38 (.tmp 3) rfl ((hs.2 3 rfl).trans rfl) (K.out.1.below hb K.out.1.lt) Tryd.underlying38 (i1))⟩,
    .inr ⟨gkT 9 true rfl rfl 22 rfl (fun _ _ h => h), fun A w' γ hb hF hs => g_eq (op_load 38 (.tmp 4) rfl ((hs.2 4 rfl).trans rfl) (K.out.2.1.below hb K.out.2.1.lt) Tryd.underlying38 (i2))⟩,
    .inr ⟨gkT 9 true rfl rfl 22 rfl (fun _ _ h => h), fun A w' γ hb hF hs => g_eq (op_eq_agg 38 _ (.tmp 25) (.tmp 26) (A1) (A2) false rfl ((hs.1 12 rfl 25 rfl).trans (hF 12 rfl)) ((hs.1 13 rfl 26 rfl).trans (hF 13 rfl)) (by kernel_rfl) (q12 _))⟩,
    .inr ⟨gkT 9 true rfl rfl 22 rfl (fun _ _ h => h), fun A w' γ hb hF hs => g_eq (op_eq_bool 4 _ (.tmp 24) (.tmp 27) (false) (false) true rfl ((hs.1 11 rfl 24 rfl).trans (hF 11 rfl)) ((hs.1 14 rfl 27 rfl).trans (hF 14 rfl)) Tryd.underlying4 (by simp))⟩,
    .inr ⟨gk0 rfl, fun A w' γ hb hF hs => g_eq (op_pick (.tmp 22) (.tmp 28) (.const (.bool false)) true rfl ((hs.1 9 rfl 22 rfl).trans (hF 9 rfl)) ((hs.1 15 rfl 28 rfl).trans (hF 15 rfl)))⟩,
    .inr ⟨gk0 rfl, fun A w' γ hb hF hs => g_eq (op_move (.tmp 29) (.inl rfl) ((hs.1 16 rfl 29 rfl).trans (hF 16 rfl)))⟩,
    .inr ⟨gkT 17 true rfl rfl 30 rfl (fun _ _ h => h), fun A w' γ hb hF hs => g_eq (op_move (.tmp 8) (.inl rfl) ((hs.2 8 rfl).trans rfl))⟩,
    .inr ⟨gkT 17 true rfl rfl 30 rfl (fun _ _ h => h), fun A w' γ hb hF hs => g_eq (op_gtr 3 _ (.tmp 31) (.const (.int .i64 0)) .i64 (c1) (0) false rfl ((hs.1 18 rfl 31 rfl).trans (hF 18 rfl)) rfl (hx))⟩,
    .inr ⟨gkT 17 true rfl rfl 30 rfl (fun _ _ h => h), fun A w' γ hb hF hs => g_eq (op_move (.tmp 32) (.inl rfl) ((hs.1 19 rfl 32 rfl).trans (hF 19 rfl)))⟩,
    .inr ⟨gkT 20 false rfl rfl 33 rfl (fun _ _ h => h), fun A w' γ hb hF hs => g_eq (op_load 38 (.tmp 4) rfl ((hs.2 4 rfl).trans rfl) (K.out.2.1.below hb K.out.2.1.lt) Tryd.underlying38 (i2))⟩,
    .inr ⟨gkT 20 false rfl rfl 33 rfl (fun _ _ h => h), fun A w' γ hb hF hs => g_eq (op_load 38 (.tmp 5) rfl ((hs.2 5 rfl).trans rfl) (K.out.2.2.1.below hb K.out.2.2.1.lt) Tryd.underlying38 (i3))⟩,
    .inr ⟨gkT 20 false rfl rfl 33 rfl (fun _ _ h => h), fun A w' γ hb hF hs => g_eq (op_call 39 #[.agg A2, .agg A3] (exec_call _ 39 #[.agg A2, .agg A3] rfl rfl (margs2 ((hs.1 21 rfl 34 rfl).trans (hF 21 rfl)) ((hs.1 22 rfl 35 rfl).trans (hF 22 rfl))) Tryd.func39 rfl rfl) (k23 w'))⟩,
    .inr ⟨gkT 20 false rfl rfl 33 rfl (fun _ _ h => h), fun A w' γ hb hF hs => g_eq (op_gtr 3 _ (.tmp 36) (.const (.int .i64 0)) .i64 (c2) (0) false rfl ((hs.1 23 rfl 36 rfl).trans (hF 23 rfl)) rfl (hy))⟩,
    .inr ⟨gkT 17 true rfl rfl 30 rfl (fun _ _ h => h), fun A w' γ hb hF hs => g_eq (op_pick (.tmp 33) (.const (.bool true)) (.tmp 37) false rfl ((hs.1 20 rfl 33 rfl).trans (hF 20 rfl)) ((hs.1 24 rfl 37 rfl).trans (hF 24 rfl)))⟩,
    .inr ⟨gkT 17 true rfl rfl 30 rfl (fun _ _ h => h), fun A w' γ hb hF hs => g_eq (op_move (.tmp 38) (.inl rfl) ((hs.1 25 rfl 38 rfl).trans (hF 25 rfl)))⟩,
    .inr ⟨gkT 26 false rfl rfl 39 rfl (fun _ _ h => h), fun A w' γ hb hF hs => g_eq (op_load 38 (.tmp 3) rfl ((hs.2 3 rfl).trans rfl) (K.out.1.below hb K.out.1.lt) Tryd.underlying38 (i1))⟩,
    .inr ⟨gkT 26 false rfl rfl 39 rfl (fun _ _ h => h), fun A w' γ hb hF hs => g_eq (op_load 38 (.tmp 5) rfl ((hs.2 5 rfl).trans rfl) (K.out.2.2.1.below hb K.out.2.2.1.lt) Tryd.underlying38 (i3))⟩,
    .inr ⟨gkT 26 false rfl rfl 39 rfl (fun _ _ h => h), fun A w' γ hb hF hs => g_eq (op_call 39 #[.agg A1, .agg A3] (exec_call _ 39 #[.agg A1, .agg A3] rfl rfl (margs2 ((hs.1 27 rfl 40 rfl).trans (hF 27 rfl)) ((hs.1 28 rfl 41 rfl).trans (hF 28 rfl))) Tryd.func39 rfl rfl) (k13 w'))⟩,
    .inr ⟨gkT 26 false rfl rfl 39 rfl (fun _ _ h => h), fun A w' γ hb hF hs => g_eq (op_leq 3 _ (.tmp 42) (.const (.int .i64 0)) .i64 (c3) (0) true rfl ((hs.1 29 rfl 42 rfl).trans (hF 29 rfl)) rfl (h13))⟩,
    .inr ⟨gkT 17 true rfl rfl 30 rfl (fun _ _ h => h), fun A w' γ hb hF hs => g_eq (op_pick (.tmp 39) (.const (.bool true)) (.tmp 43) false rfl ((hs.1 26 rfl 39 rfl).trans (hF 26 rfl)) ((hs.1 30 rfl 43 rfl).trans (hF 30 rfl)))⟩,
    .inr ⟨gk0 rfl, fun A w' γ hb hF hs => g_eq (op_pick (.tmp 30) (.tmp 44) (.const (.bool false)) true rfl ((hs.1 17 rfl 30 rfl).trans (hF 17 rfl)) ((hs.1 31 rfl 44 rfl).trans (hF 31 rfl)))⟩,
    .inr ⟨gk0 rfl, fun A w' γ hb hF hs => g_eq (op_move (.tmp 45) (.inl rfl) ((hs.1 32 rfl 45 rfl).trans (hF 32 rfl)))⟩,
    .inr ⟨gkT 33 true rfl rfl 46 rfl (fun _ _ h => h), fun A w' γ hb hF hs => g_eq (op_load 38 (.tmp 3) rfl ((hs.2 3 rfl).trans rfl) (K.out.1.below hb K.out.1.lt) Tryd.underlying38 (i1))⟩,
    .inr ⟨gkT 33 true rfl rfl 46 rfl (fun _ _ h => h), fun A w' γ hb hF hs => g_eq (op_load 38 (.tmp 4) rfl ((hs.2 4 rfl).trans rfl) (K.out.2.1.below hb K.out.2.1.lt) Tryd.underlying38 (i2))⟩,
    .inr ⟨gkT 33 true rfl rfl 46 rfl (fun _ _ h => h), fun A w' γ hb hF hs => g_eq (op_neq_agg 38 _ (.tmp 47) (.tmp 48) (A1) (A2) false rfl ((hs.1 34 rfl 47 rfl).trans (hF 34 rfl)) ((hs.1 35 rfl 48 rfl).trans (hF 35 rfl)) (by kernel_rfl) (q12 _))⟩,
    .inr ⟨gkT 33 true rfl rfl 46 rfl (fun _ _ h => h), fun A w' γ hb hF hs => g_eq (op_move (.tmp 49) (.inl rfl) ((hs.1 36 rfl 49 rfl).trans (hF 36 rfl)))⟩,
    .inl ⟨gkF 37 false rfl rfl 50 rfl (fun _ _ h => h), fun _ => rfl⟩,
    .inl ⟨gkF 37 false rfl rfl 50 rfl (fun _ _ h => h), fun _ => rfl⟩,
    .inl ⟨gkF 37 false rfl rfl 50 rfl (fun _ _ h => h), fun _ => rfl⟩,
    .inl ⟨gkF 37 false rfl rfl 50 rfl (fun _ _ h => h), fun _ => rfl⟩,
    .inl ⟨gkF 37 false rfl rfl 50 rfl (fun _ _ h => h), fun _ => rfl⟩,
    .inl ⟨gkF 37 false rfl rfl 50 rfl (fun _ _ h => h), fun _ => rfl⟩,
    .inl ⟨gkF 37 false rfl rfl 50 rfl (fun _ _ h => h), fun _ => rfl⟩,
    .inr ⟨gkT 33 true rfl rfl 46 rfl (fun _ _ h => h), fun A w' γ hb hF hs => g_eq (op_pick (.tmp 50) (.const (.bool true)) (.tmp 57) true rfl ((hs.1 37 rfl 50 rfl).trans (hF 37 rfl)) rfl)⟩,
    .inr ⟨gk0 rfl, fun A w' γ hb hF hs => g_eq (op_pick (.tmp 46) (.tmp 58) (.const (.bool false)) true rfl ((hs.1 33 rfl 46 rfl).trans (hF 33 rfl)) ((hs.1 45 rfl 58 rfl).trans (hF 45 rfl)))⟩,
    .inr ⟨gk0 rfl, fun A w' γ hb hF hs => g_eq (op_move (.tmp 59) (.inl rfl) ((hs.1 46 rfl 59 rfl).trans (hF 46 rfl)))⟩,
    .inr ⟨gkT 47 true rfl rfl 60 rfl (fun _ _ h => h), fun A w' γ hb hF hs => g_eq (op_load 38 (.tmp 3) rfl ((hs.2 3 rfl).trans rfl) (K.out.1.below hb K.out.1.lt) Tryd.underlying38 (i1))⟩,
    .inr ⟨gkT 47 true rfl rfl 60 rfl (fun _ _ h => h), fun A w' γ hb hF hs => g_eq (op_call 41 #[.agg A1] (exec_call _ 41 #[.agg A1] rfl rfl (margs1 ((hs.1 48 rfl 61 rfl).trans (hF 48 rfl))) Tryd.func41 rfl rfl) (t1 w'))⟩,
    .inr ⟨gkT 47 true rfl rfl 60 rfl (fun _ _ h => h), fun A w' γ hb hF hs => g_eq (op_load 38 (.tmp 4) rfl ((hs.2 4 rfl).trans rfl) (K.out.2.1.below hb K.out.2.1.lt) Tryd.underlying38 (i2))⟩,
    .inr ⟨gkT 47 true rfl rfl 60 rfl (fun _ _ h => h), fun A w' γ hb hF hs => g_eq (op_call 41 #[.agg A2] (exec_call _ 41 #[.agg A2] rfl rfl (margs1 ((hs.1 50 rfl 63 rfl).trans (hF 50 rfl))) Tryd.func41 rfl rfl) (t2 w'))⟩,
    .inr ⟨gkT 47 true rfl rfl 60 rfl (fun _ _ h => h), fun A w' γ hb hF hs => g_eq (op_eq_str 9 _ (.tmp 62) (.tmp 64) (S1) (S2) false rfl ((hs.1 49 rfl 62 rfl).trans (hF 49 rfl)) ((hs.1 51 rfl 64 rfl).trans (hF 51 rfl)) (hS))⟩,
    .inr ⟨gkT 47 true rfl rfl 60 rfl (fun _ _ h => h), fun A w' γ hb hF hs => g_eq (op_load 38 (.tmp 3) rfl ((hs.2 3 rfl).trans rfl) (K.out.1.below hb K.out.1.lt) Tryd.underlying38 (i1))⟩,
    .inr ⟨gkT 47 true rfl rfl 60 rfl (fun _ _ h => h), fun A w' γ hb hF hs => g_eq (op_load 38 (.tmp 4) rfl ((hs.2 4 rfl).trans rfl) (K.out.2.1.below hb K.out.2.1.lt) Tryd.underlying38 (i2))⟩,
    .inr ⟨gkT 47 true rfl rfl 60 rfl (fun _ _ h => h), fun A w' γ hb hF hs => g_eq (op_eq_agg 38 _ (.tmp 66) (.tmp 67) (A1) (A2) false rfl ((hs.1 53 rfl 66 rfl).trans (hF 53 rfl)) ((hs.1 54 rfl 67 rfl).trans (hF 54 rfl)) (by kernel_rfl) (q12 _))⟩,
    .inr ⟨gkT 47 true rfl rfl 60 rfl (fun _ _ h => h), fun A w' γ hb hF hs => g_eq (op_eq_bool 4 _ (.tmp 65) (.tmp 68) (false) (false) true rfl ((hs.1 52 rfl 65 rfl).trans (hF 52 rfl)) ((hs.1 55 rfl 68 rfl).trans (hF 55 rfl)) Tryd.underlying4 (by simp))⟩,
    .inr ⟨gk0 rfl, fun A w' γ hb hF hs => g_eq (op_pick (.tmp 60) (.tmp 69) (.const (.bool false)) true rfl ((hs.1 47 rfl 60 rfl).trans (hF 47 rfl)) ((hs.1 56 rfl 69 rfl).trans (hF 56 rfl)))⟩,
    .inr ⟨gk0 rfl, fun A w' γ hb hF hs => g_eq (op_move (.tmp 70) (.inr rfl) ((hs.1 57 rfl 70 rfl).trans (hF 57 rfl)))⟩,
    trivial⟩ ?_
  intro γ w' hb hF
  have bz := bt K.out.2.2.2 hb
  have ez : γ 58 = .bool true := hF 58 (by decide)
  simp only [Fr, if_true, Act.put, List.setIfInBounds_toArray, List.set_cons_zero, List.set_cons_succ]
  rw [ez]
  clear ez hF hneg hx0 hx hS
  go_wp2
  go_ret
  exact ⟨rfl, bz⟩
set_option maxRecDepth 100000 in
set_option maxHeartbeats 4000000 in
theorem Order_Re (w : World) (hL : Laid w) (A1 A2 A3 C1 : Array Value) (i1 : (Tryd.prog.info? 38).map (·.size) = some A1.size) (i2 : (Tryd.prog.info? 38).map (·.size) = some A2.size) (i3 : (Tryd.prog.info? 38).map (·.size) = some A3.size) (c1 c2 c3 : Int) (S1 S2 : ByteArray)
    (k12 : ∀ w, Calls Tryd.prog 39 #[.agg A1, .agg A2] w fun e w' => e = .returned (.int .i64 c1) ∧ Below w.heap.size w w') (k21 : ∀ w, Calls Tryd.prog 39 #[.agg A2, .agg A1] w fun e w' => e = .returned (.int .i64 (-c1)) ∧ Below w.heap.size w w')
    (k23 : ∀ w, Calls Tryd.prog 39 #[.agg A2, .agg A3] w fun e w' => e = .returned (.int .i64 c2) ∧ Below w.heap.size w w') (k13 : ∀ w, Calls Tryd.prog 39 #[.agg A1, .agg A3] w fun e w' => e = .returned (.int .i64 c3) ∧ Below w.heap.size w w')
    (p12 : ∀ w, Laid w → Calls Tryd.prog 40 #[.agg A1, .agg A2] w fun e w' => e = .returned (.agg C1) ∧ Below w.heap.size w w')
    (t1 : ∀ w, Calls Tryd.prog 41 #[.agg A1] w fun e w' => e = .returned (.string S1) ∧ Below w.heap.size w w') (t2 : ∀ w, Calls Tryd.prog 41 #[.agg A2] w fun e w' => e = .returned (.string S2) ∧ Below w.heap.size w w')
    (q12 : ∀ w, (Op.equalIn 10000 38 (.agg A1) (.agg A2)).run Tryd.prog w = .ok true w) (hneg : IntKind.i64.wrap (0 - -c1) = c1) (hx0 : (c1 == 0) = true) (hx : decide ((0 : Int) < c1) = false) (hy : decide ((0 : Int) < c2) = false) (h13 : decide (c3 ≤ (0 : Int)) = true) (p21 : ∀ w, Laid w → Calls Tryd.prog 40 #[.agg A2, .agg A1] w fun e w' => e = .returned (.agg C1) ∧ Below w.heap.size w w') (qC : ∀ w, (Op.equalIn 10000 38 (.agg C1) (.agg C1)).run Tryd.prog w = .ok true w) (hS : (S1.toList == S2.toList) = true) :
    Calls Tryd.prog 9 #[.agg A1, .agg A2, .agg A3] w fun e w' => e = .returned (.bool true) ∧ Below w.heap.size w w' := by
  have HL := Lib.hid hL; clear hL
  have bb : Below w.heap.size w (((w.alloc (.cells A1 38)).alloc (.cells A2 38)).alloc (.cells A3 38)) := ba (ba (ba (Below.refl _ _) _) _) _
  have B1 : Blk (((w.alloc (.cells A1 38)).alloc (.cells A2 38)).alloc (.cells A3 38)) w.heap.size 38 A1 := ((Blk.newAt w _ A1 rfl).alloc _).alloc _
  have B2 : Blk (((w.alloc (.cells A1 38)).alloc (.cells A2 38)).alloc (.cells A3 38)) (w.heap.size + 1) 38 A2 := (Blk.second w _ _ _).alloc _
  have B3 : Blk (((w.alloc (.cells A1 38)).alloc (.cells A2 38)).alloc (.cells A3 38)) (w.heap.size + 2) 38 A3 := Blk.newAt _ _ _ (by simp)
  have G := Lib.hid (And.intro B1 (And.intro B2 (And.intro B3 bb))); clear bb B1 B2 B3
  have HN := Lib.hid hneg; have HX := Lib.hid (And.intro hx0 hx); clear hneg hx0 hx
  have hneg := HN; have HS := Lib.hid hS; clear hS
  go_enter Tryd.func9, Tryd.ntmps9
  go_wp2_with fail
  refine (Awake03 _).mono ?_
  rintro e w1 ⟨rfl, hb1⟩
  have K1 := Lib.hid (And.intro (G.out.1.calls hb1) (And.intro (G.out.2.1.calls hb1) (And.intro (G.out.2.2.1.calls hb1) (bt G.out.2.2.2 hb1)))); clear hb1 G
  go_wp2_with (first | with_reducible refine wl_row K1.out.1 _ _ rfl rfl rfl _ _ Tryd.underlying38 i1 ?_ | with_reducible refine wl_row K1.out.2.1 _ _ rfl rfl rfl _ _ Tryd.underlying38 i2 ?_)
  refine (k12 w1).mono ?_
  rintro e w2 ⟨rfl, hb1⟩
  have K := Lib.hid (And.intro (K1.out.1.calls hb1) (And.intro (K1.out.2.1.calls hb1) (And.intro (K1.out.2.2.1.calls hb1) (bt K1.out.2.2.2 hb1)))); clear hb1 K1
  go_wp2_with fail
  have hneg := HN.out
  have hx0 := HX.out.1
  have hx := HX.out.2
  have hS := HS.out
  try simp only [List.append_eq, List.cons_append, List.nil_append]
  refine wp_region_g [some 13, some 14, some 15, some 16, some 17, some 18, some 19, some 20, some 21, some 22, some 23, some 24, some 25, some 26, some 27, some 28, some 29, some 30, some 31, some 32, some 33, some 34, some 35, some 36, some 37, some 38, some 39, some 40, some 41, some 42, some 43, some 44, some 45, some 46, some 47, some 48, some 49, some 50, some 51, some 52, some 53, some 54, some 55, some 56, some 57, some 58, some 59, some 60, some 61, some 62, some 63, some 64, some 65, some 66, some 67, some 68, some 69, some 70, some 6] (FL [
      EqV (.bool true),
      EqV (.bool true),
      EqV (.int .i64 c1),
      EqV (.agg A2),
      EqV (.agg A1),
      EqV (.int .i64 (-c1)),
      EqV (.int .i64 (c1)),
      EqV (.bool true),
      EqV (.bool true),
      EqV (.bool true),
      EqV (.int .i64 c1),
      EqV (.bool true),
      EqV (.agg A1),
      EqV (.agg A2),
      EqV (.bool true),
      EqV (.bool true),
      EqV (.bool true),
      EqV (.bool true),
      EqV (.int .i64 c1),
      EqV (.bool false),
      EqV (.bool false),
      EqV (.agg A2),
      EqV (.agg A3),
      EqV (.int .i64 c2),
      EqV (.bool false),
      EqV (.bool false),
      EqV (.bool false),
      EqV (.agg A1),
      EqV (.agg A3),
      EqV (.int .i64 c3),
      EqV (.bool true),
      EqV (.bool true),
      EqV (.bool true),
      EqV (.bool true),
      EqV (.agg A1),
      EqV (.agg A2),
      EqV (.bool false),
      EqV (.bool false),
      EqV (.agg A1),
      EqV (.agg A2),
      EqV (.agg C1),
      EqV (.agg A2),
      EqV (.agg A1),
      EqV (.agg C1),
      EqV (.bool true),
      EqV (.bool true),
      EqV (.bool true),
      EqV (.bool true),
      EqV (.agg A1),
      EqV (.string S1),
      EqV (.agg A2),
      EqV (.string S2),
      EqV (.bool true),
      EqV (.agg A1),
      EqV (.agg A2),
      EqV (.bool true),
      EqV (.bool true),
      EqV (.bool true),
      EqV (.bool true)
    ]) (FL_keeps ⟨keeps_eq _, keeps_eq _, keeps_eq _, keeps_eq _, keeps_eq _, keeps_eq _, keeps_eq _, keeps_eq _, keeps_eq _, keeps_eq _, keeps_eq _, keeps_eq _, keeps_eq _, keeps_eq _, keeps_eq _, keeps_eq _, keeps_eq _, keeps_eq _, keeps_eq _, keeps_eq _, keeps_eq _, keeps_eq _, keeps_eq _, keeps_eq _, keeps_eq _, keeps_eq _, keeps_eq _, keeps_eq _, keeps_eq _, keeps_eq _, keeps_eq _, keeps_eq _, keeps_eq _, keeps_eq _, keeps_eq _, keeps_eq _, keeps_eq _, keeps_eq _, keeps_eq _, keeps_eq _, keeps_eq _, keeps_eq _, keeps_eq _, keeps_eq _, keeps_eq _, keeps_eq _, keeps_eq _, keeps_eq _, keeps_eq _, keeps_eq _, keeps_eq _, keeps_eq _, keeps_eq _, keeps_eq _, keeps_eq _, keeps_eq _, keeps_eq _, keeps_eq _, keeps_eq _, trivial⟩) (by kernel_rfl) rfl rfl rfl rfl ⟨
    .inr ⟨gk0 rfl, fun A w' γ hb hF hs => g_eq (op_move (.tmp 7) (.inl rfl) ((hs.2 7 rfl).trans rfl))⟩,
    .inr ⟨gk0 rfl, fun A w' γ hb hF hs => g_eq (op_move (.tmp 13) (.inl rfl) ((hs.1 0 rfl 13 rfl).trans (hF 0 rfl)))⟩,
    .inr ⟨gkT 1 true rfl rfl 14 rfl (fun _ _ h => h), fun A w' γ hb hF hs => g_eq (op_move (.tmp 8) (.inl rfl) ((hs.2 8 rfl).trans rfl))⟩,
    .inr ⟨gkT 1 true rfl rfl 14 rfl (fun _ _ h => h), fun A w' γ hb hF hs => g_eq (op_load 38 (.tmp 4) rfl ((hs.2 4 rfl).trans rfl) (K.out.2.1.below hb K.out.2.1.lt) Tryd.underlying38 (i2))⟩,
    .inr ⟨gkT 1 true rfl rfl 14 rfl (fun _ _ h => h), fun A w' γ hb hF hs => g_eq (op_load 38 (.tmp 3) rfl ((hs.2 3 rfl).trans rfl) (K.out.1.below hb K.out.1.lt) Tryd.underlying38 (i1))⟩,
    .inr ⟨gkT 1 true rfl rfl 14 rfl (fun _ _ h => h), fun A w' γ hb hF hs => g_eq (op_call 39 #[.agg A2, .agg A1] (exec_call _ 39 #[.agg A2, .agg A1] rfl rfl (margs2 ((hs.1 3 rfl 16 rfl).trans (hF 3 rfl)) ((hs.1 4 rfl 17 rfl).trans (hF 4 rfl))) Tryd.func39 rfl rfl) (k21 w'))⟩,
    .inr ⟨gkT 1 true rfl rfl 14 rfl (fun _ _ h => h), fun A w' γ hb hF hs => g_eq (op_neg 3 (.tmp 18) .i64 ((-c1)) (c1) rfl ((hs.1 5 rfl 18 rfl).trans (hF 5 rfl)) (hneg))⟩,
    .inr ⟨gkT 1 true rfl rfl 14 rfl (fun _ _ h => h), fun A w' γ hb hF hs => g_eq (op_eq_int 3 _ (.tmp 15) (.tmp 19) .i64 (c1) ((c1)) true rfl ((hs.1 2 rfl 15 rfl).trans (hF 2 rfl)) ((hs.1 6 rfl 19 rfl).trans (hF 6 rfl)) (by simp))⟩,
    .inr ⟨gk0 rfl, fun A w' γ hb hF hs => g_eq (op_pick (.tmp 14) (.tmp 20) (.const (.bool false)) true rfl ((hs.1 1 rfl 14 rfl).trans (hF 1 rfl)) ((hs.1 7 rfl 20 rfl).trans (hF 7 rfl)))⟩,
    .inr ⟨gk0 rfl, fun A w' γ hb hF hs => g_eq (op_move (.tmp 21) (.inl rfl) ((hs.1 8 rfl 21 rfl).trans (hF 8 rfl)))⟩,
    .inr ⟨gkT 9 true rfl rfl 22 rfl (fun _ _ h => h), fun A w' γ hb hF hs => g_eq (op_move (.tmp 8) (.inl rfl) ((hs.2 8 rfl).trans rfl))⟩,
    .inr ⟨gkT 9 true rfl rfl 22 rfl (fun _ _ h => h), fun A w' γ hb hF hs => g_eq (op_eq_int 3 _ (.tmp 23) (.const (.int .i64 0)) .i64 (c1) (0) true rfl ((hs.1 10 rfl 23 rfl).trans (hF 10 rfl)) rfl (hx0))⟩,
    .inr ⟨gkT 9 true rfl rfl 22 rfl (fun _ _ h => h), fun A w' γ hb hF hs => g_eq (op_load 38 (.tmp 3) rfl ((hs.2 3 rfl).trans rfl) (K.out.1.below hb K.out.1.lt) Tryd.underlying38 (i1))⟩,
    .inr ⟨gkT 9 true rfl rfl 22 rfl (fun _ _ h => h), fun A w' γ hb hF hs => g_eq (op_load 38 (.tmp 4) rfl ((hs.2 4 rfl).trans rfl) (K.out.2.1.below hb K.out.2.1.lt) Tryd.underlying38 (i2))⟩,
    .inr ⟨gkT 9 true rfl rfl 22 rfl (fun _ _ h => h), fun A w' γ hb hF hs => g_eq (op_eq_agg 38 _ (.tmp 25) (.tmp 26) (A1) (A2) true rfl ((hs.1 12 rfl 25 rfl).trans (hF 12 rfl)) ((hs.1 13 rfl 26 rfl).trans (hF 13 rfl)) (by kernel_rfl) (q12 _))⟩,
    .inr ⟨gkT 9 true rfl rfl 22 rfl (fun _ _ h => h), fun A w' γ hb hF hs => g_eq (op_eq_bool 4 _ (.tmp 24) (.tmp 27) (true) (true) true rfl ((hs.1 11 rfl 24 rfl).trans (hF 11 rfl)) ((hs.1 14 rfl 27 rfl).trans (hF 14 rfl)) Tryd.underlying4 (by simp))⟩,
    .inr ⟨gk0 rfl, fun A w' γ hb hF hs => g_eq (op_pick (.tmp 22) (.tmp 28) (.const (.bool false)) true rfl ((hs.1 9 rfl 22 rfl).trans (hF 9 rfl)) ((hs.1 15 rfl 28 rfl).trans (hF 15 rfl)))⟩,
    .inr ⟨gk0 rfl, fun A w' γ hb hF hs => g_eq (op_move (.tmp 29) (.inl rfl) ((hs.1 16 rfl 29 rfl).trans (hF 16 rfl)))⟩,
    .inr ⟨gkT 17 true rfl rfl 30 rfl (fun _ _ h => h), fun A w' γ hb hF hs => g_eq (op_move (.tmp 8) (.inl rfl) ((hs.2 8 rfl).trans rfl))⟩,
    .inr ⟨gkT 17 true rfl rfl 30 rfl (fun _ _ h => h), fun A w' γ hb hF hs => g_eq (op_gtr 3 _ (.tmp 31) (.const (.int .i64 0)) .i64 (c1) (0) false rfl ((hs.1 18 rfl 31 rfl).trans (hF 18 rfl)) rfl (hx))⟩,
    .inr ⟨gkT 17 true rfl rfl 30 rfl (fun _ _ h => h), fun A w' γ hb hF hs => g_eq (op_move (.tmp 32) (.inl rfl) ((hs.1 19 rfl 32 rfl).trans (hF 19 rfl)))⟩,
    .inr ⟨gkT 20 false rfl rfl 33 rfl (fun _ _ h => h), fun A w' γ hb hF hs => g_eq (op_load 38 (.tmp 4) rfl ((hs.2 4 rfl).trans rfl) (K.out.2.1.below hb K.out.2.1.lt) Tryd.underlying38 (i2))⟩,
    .inr ⟨gkT 20 false rfl rfl 33 rfl (fun _ _ h => h), fun A w' γ hb hF hs => g_eq (op_load 38 (.tmp 5) rfl ((hs.2 5 rfl).trans rfl) (K.out.2.2.1.below hb K.out.2.2.1.lt) Tryd.underlying38 (i3))⟩,
    .inr ⟨gkT 20 false rfl rfl 33 rfl (fun _ _ h => h), fun A w' γ hb hF hs => g_eq (op_call 39 #[.agg A2, .agg A3] (exec_call _ 39 #[.agg A2, .agg A3] rfl rfl (margs2 ((hs.1 21 rfl 34 rfl).trans (hF 21 rfl)) ((hs.1 22 rfl 35 rfl).trans (hF 22 rfl))) Tryd.func39 rfl rfl) (k23 w'))⟩,
    .inr ⟨gkT 20 false rfl rfl 33 rfl (fun _ _ h => h), fun A w' γ hb hF hs => g_eq (op_gtr 3 _ (.tmp 36) (.const (.int .i64 0)) .i64 (c2) (0) false rfl ((hs.1 23 rfl 36 rfl).trans (hF 23 rfl)) rfl (hy))⟩,
    .inr ⟨gkT 17 true rfl rfl 30 rfl (fun _ _ h => h), fun A w' γ hb hF hs => g_eq (op_pick (.tmp 33) (.const (.bool true)) (.tmp 37) false rfl ((hs.1 20 rfl 33 rfl).trans (hF 20 rfl)) ((hs.1 24 rfl 37 rfl).trans (hF 24 rfl)))⟩,
    .inr ⟨gkT 17 true rfl rfl 30 rfl (fun _ _ h => h), fun A w' γ hb hF hs => g_eq (op_move (.tmp 38) (.inl rfl) ((hs.1 25 rfl 38 rfl).trans (hF 25 rfl)))⟩,
    .inr ⟨gkT 26 false rfl rfl 39 rfl (fun _ _ h => h), fun A w' γ hb hF hs => g_eq (op_load 38 (.tmp 3) rfl ((hs.2 3 rfl).trans rfl) (K.out.1.below hb K.out.1.lt) Tryd.underlying38 (i1))⟩,
    .inr ⟨gkT 26 false rfl rfl 39 rfl (fun _ _ h => h), fun A w' γ hb hF hs => g_eq (op_load 38 (.tmp 5) rfl ((hs.2 5 rfl).trans rfl) (K.out.2.2.1.below hb K.out.2.2.1.lt) Tryd.underlying38 (i3))⟩,
    .inr ⟨gkT 26 false rfl rfl 39 rfl (fun _ _ h => h), fun A w' γ hb hF hs => g_eq (op_call 39 #[.agg A1, .agg A3] (exec_call _ 39 #[.agg A1, .agg A3] rfl rfl (margs2 ((hs.1 27 rfl 40 rfl).trans (hF 27 rfl)) ((hs.1 28 rfl 41 rfl).trans (hF 28 rfl))) Tryd.func39 rfl rfl) (k13 w'))⟩,
    .inr ⟨gkT 26 false rfl rfl 39 rfl (fun _ _ h => h), fun A w' γ hb hF hs => g_eq (op_leq 3 _ (.tmp 42) (.const (.int .i64 0)) .i64 (c3) (0) true rfl ((hs.1 29 rfl 42 rfl).trans (hF 29 rfl)) rfl (h13))⟩,
    .inr ⟨gkT 17 true rfl rfl 30 rfl (fun _ _ h => h), fun A w' γ hb hF hs => g_eq (op_pick (.tmp 39) (.const (.bool true)) (.tmp 43) false rfl ((hs.1 26 rfl 39 rfl).trans (hF 26 rfl)) ((hs.1 30 rfl 43 rfl).trans (hF 30 rfl)))⟩,
    .inr ⟨gk0 rfl, fun A w' γ hb hF hs => g_eq (op_pick (.tmp 30) (.tmp 44) (.const (.bool false)) true rfl ((hs.1 17 rfl 30 rfl).trans (hF 17 rfl)) ((hs.1 31 rfl 44 rfl).trans (hF 31 rfl)))⟩,
    .inr ⟨gk0 rfl, fun A w' γ hb hF hs => g_eq (op_move (.tmp 45) (.inl rfl) ((hs.1 32 rfl 45 rfl).trans (hF 32 rfl)))⟩,
    .inr ⟨gkT 33 true rfl rfl 46 rfl (fun _ _ h => h), fun A w' γ hb hF hs => g_eq (op_load 38 (.tmp 3) rfl ((hs.2 3 rfl).trans rfl) (K.out.1.below hb K.out.1.lt) Tryd.underlying38 (i1))⟩,
    .inr ⟨gkT 33 true rfl rfl 46 rfl (fun _ _ h => h), fun A w' γ hb hF hs => g_eq (op_load 38 (.tmp 4) rfl ((hs.2 4 rfl).trans rfl) (K.out.2.1.below hb K.out.2.1.lt) Tryd.underlying38 (i2))⟩,
    .inr ⟨gkT 33 true rfl rfl 46 rfl (fun _ _ h => h), fun A w' γ hb hF hs => g_eq (op_neq_agg 38 _ (.tmp 47) (.tmp 48) (A1) (A2) true rfl ((hs.1 34 rfl 47 rfl).trans (hF 34 rfl)) ((hs.1 35 rfl 48 rfl).trans (hF 35 rfl)) (by kernel_rfl) (q12 _))⟩,
    .inr ⟨gkT 33 true rfl rfl 46 rfl (fun _ _ h => h), fun A w' γ hb hF hs => g_eq (op_move (.tmp 49) (.inl rfl) ((hs.1 36 rfl 49 rfl).trans (hF 36 rfl)))⟩,
    .inr ⟨gkT 37 false rfl rfl 50 rfl (fun _ _ h => h), fun A w' γ hb hF hs => g_eq (op_load 38 (.tmp 3) rfl ((hs.2 3 rfl).trans rfl) (K.out.1.below hb K.out.1.lt) Tryd.underlying38 (i1))⟩,
    .inr ⟨gkT 37 false rfl rfl 50 rfl (fun _ _ h => h), fun A w' γ hb hF hs => g_eq (op_load 38 (.tmp 4) rfl ((hs.2 4 rfl).trans rfl) (K.out.2.1.below hb K.out.2.1.lt) Tryd.underlying38 (i2))⟩,
    .inr ⟨gkT 37 false rfl rfl 50 rfl (fun _ _ h => h), fun A w' γ hb hF hs => g_eq (op_call 40 #[.agg A1, .agg A2] (exec_call _ 40 #[.agg A1, .agg A2] rfl rfl (margs2 ((hs.1 38 rfl 51 rfl).trans (hF 38 rfl)) ((hs.1 39 rfl 52 rfl).trans (hF 39 rfl))) Tryd.func40 rfl rfl) (p12 w' (HL.out.below (bt K.out.2.2.2 hb) (Nat.le_refl _))))⟩,
    .inr ⟨gkT 37 false rfl rfl 50 rfl (fun _ _ h => h), fun A w' γ hb hF hs => g_eq (op_load 38 (.tmp 4) rfl ((hs.2 4 rfl).trans rfl) (K.out.2.1.below hb K.out.2.1.lt) Tryd.underlying38 (i2))⟩,
    .inr ⟨gkT 37 false rfl rfl 50 rfl (fun _ _ h => h), fun A w' γ hb hF hs => g_eq (op_load 38 (.tmp 3) rfl ((hs.2 3 rfl).trans rfl) (K.out.1.below hb K.out.1.lt) Tryd.underlying38 (i1))⟩,
    .inr ⟨gkT 37 false rfl rfl 50 rfl (fun _ _ h => h), fun A w' γ hb hF hs => g_eq (op_call 40 #[.agg A2, .agg A1] (exec_call _ 40 #[.agg A2, .agg A1] rfl rfl (margs2 ((hs.1 41 rfl 54 rfl).trans (hF 41 rfl)) ((hs.1 42 rfl 55 rfl).trans (hF 42 rfl))) Tryd.func40 rfl rfl) (p21 w' (HL.out.below (bt K.out.2.2.2 hb) (Nat.le_refl _))))⟩,
    .inr ⟨gkT 37 false rfl rfl 50 rfl (fun _ _ h => h), fun A w' γ hb hF hs => g_eq (op_eq_agg 38 _ (.tmp 53) (.tmp 56) (C1) (C1) true rfl ((hs.1 40 rfl 53 rfl).trans (hF 40 rfl)) ((hs.1 43 rfl 56 rfl).trans (hF 43 rfl)) (by kernel_rfl) (qC _))⟩,
    .inr ⟨gkT 33 true rfl rfl 46 rfl (fun _ _ h => h), fun A w' γ hb hF hs => g_eq (op_pick (.tmp 50) (.const (.bool true)) (.tmp 57) false rfl ((hs.1 37 rfl 50 rfl).trans (hF 37 rfl)) ((hs.1 44 rfl 57 rfl).trans (hF 44 rfl)))⟩,
    .inr ⟨gk0 rfl, fun A w' γ hb hF hs => g_eq (op_pick (.tmp 46) (.tmp 58) (.const (.bool false)) true rfl ((hs.1 33 rfl 46 rfl).trans (hF 33 rfl)) ((hs.1 45 rfl 58 rfl).trans (hF 45 rfl)))⟩,
    .inr ⟨gk0 rfl, fun A w' γ hb hF hs => g_eq (op_move (.tmp 59) (.inl rfl) ((hs.1 46 rfl 59 rfl).trans (hF 46 rfl)))⟩,
    .inr ⟨gkT 47 true rfl rfl 60 rfl (fun _ _ h => h), fun A w' γ hb hF hs => g_eq (op_load 38 (.tmp 3) rfl ((hs.2 3 rfl).trans rfl) (K.out.1.below hb K.out.1.lt) Tryd.underlying38 (i1))⟩,
    .inr ⟨gkT 47 true rfl rfl 60 rfl (fun _ _ h => h), fun A w' γ hb hF hs => g_eq (op_call 41 #[.agg A1] (exec_call _ 41 #[.agg A1] rfl rfl (margs1 ((hs.1 48 rfl 61 rfl).trans (hF 48 rfl))) Tryd.func41 rfl rfl) (t1 w'))⟩,
    .inr ⟨gkT 47 true rfl rfl 60 rfl (fun _ _ h => h), fun A w' γ hb hF hs => g_eq (op_load 38 (.tmp 4) rfl ((hs.2 4 rfl).trans rfl) (K.out.2.1.below hb K.out.2.1.lt) Tryd.underlying38 (i2))⟩,
    .inr ⟨gkT 47 true rfl rfl 60 rfl (fun _ _ h => h), fun A w' γ hb hF hs => g_eq (op_call 41 #[.agg A2] (exec_call _ 41 #[.agg A2] rfl rfl (margs1 ((hs.1 50 rfl 63 rfl).trans (hF 50 rfl))) Tryd.func41 rfl rfl) (t2 w'))⟩,
    .inr ⟨gkT 47 true rfl rfl 60 rfl (fun _ _ h => h), fun A w' γ hb hF hs => g_eq (op_eq_str 9 _ (.tmp 62) (.tmp 64) (S1) (S2) true rfl ((hs.1 49 rfl 62 rfl).trans (hF 49 rfl)) ((hs.1 51 rfl 64 rfl).trans (hF 51 rfl)) (hS))⟩,
    .inr ⟨gkT 47 true rfl rfl 60 rfl (fun _ _ h => h), fun A w' γ hb hF hs => g_eq (op_load 38 (.tmp 3) rfl ((hs.2 3 rfl).trans rfl) (K.out.1.below hb K.out.1.lt) Tryd.underlying38 (i1))⟩,
    .inr ⟨gkT 47 true rfl rfl 60 rfl (fun _ _ h => h), fun A w' γ hb hF hs => g_eq (op_load 38 (.tmp 4) rfl ((hs.2 4 rfl).trans rfl) (K.out.2.1.below hb K.out.2.1.lt) Tryd.underlying38 (i2))⟩,
    .inr ⟨gkT 47 true rfl rfl 60 rfl (fun _ _ h => h), fun A w' γ hb hF hs => g_eq (op_eq_agg 38 _ (.tmp 66) (.tmp 67) (A1) (A2) true rfl ((hs.1 53 rfl 66 rfl).trans (hF 53 rfl)) ((hs.1 54 rfl 67 rfl).trans (hF 54 rfl)) (by kernel_rfl) (q12 _))⟩,
    .inr ⟨gkT 47 true rfl rfl 60 rfl (fun _ _ h => h), fun A w' γ hb hF hs => g_eq (op_eq_bool 4 _ (.tmp 65) (.tmp 68) (true) (true) true rfl ((hs.1 52 rfl 65 rfl).trans (hF 52 rfl)) ((hs.1 55 rfl 68 rfl).trans (hF 55 rfl)) Tryd.underlying4 (by simp))⟩,
    .inr ⟨gk0 rfl, fun A w' γ hb hF hs => g_eq (op_pick (.tmp 60) (.tmp 69) (.const (.bool false)) true rfl ((hs.1 47 rfl 60 rfl).trans (hF 47 rfl)) ((hs.1 56 rfl 69 rfl).trans (hF 56 rfl)))⟩,
    .inr ⟨gk0 rfl, fun A w' γ hb hF hs => g_eq (op_move (.tmp 70) (.inr rfl) ((hs.1 57 rfl 70 rfl).trans (hF 57 rfl)))⟩,
    trivial⟩ ?_
  intro γ w' hb hF
  have bz := bt K.out.2.2.2 hb
  have ez : γ 58 = .bool true := hF 58 (by decide)
  simp only [Fr, if_true, Act.put, List.setIfInBounds_toArray, List.set_cons_zero, List.set_cons_succ]
  rw [ez]
  clear ez hF hneg hx0 hx hS
  go_wp2
  go_ret
  exact ⟨rfl, bz⟩
set_option maxHeartbeats 1000000 in
theorem HOrder_walk (w : World) (hL : Laid w) (a : List UInt8) (ha : a.length = 32) (b : List UInt8) (hb : b.length = 32) (c : List UInt8) (hc : c.length = 32) :
    Calls Tryd.prog 9 #[.agg (u8cells a), .agg (u8cells b), .agg (u8cells c)] w fun e w' => e = .returned (.bool true) ∧ Below w.heap.size w w' := by
  obtain ⟨c1, h1⟩ := cmp_ex (leN a 32) (leN b 32) (leN_T a 32 (Nat.le_refl _)) (leN_T b 32 (Nat.le_refl _))
  obtain ⟨c2, h2⟩ := cmp_ex (leN b 32) (leN c 32) (leN_T b 32 (Nat.le_refl _)) (leN_T c 32 (Nat.le_refl _))
  obtain ⟨c3, h3⟩ := cmp_ex (leN a 32) (leN c 32) (leN_T a 32 (Nat.le_refl _)) (leN_T c 32 (Nat.le_refl _))
  obtain ⟨z1, z2, z3, z4⟩ := cmp_three h1 h2 h3
  have k12 := fun w => HCmp_any a b ha hb c1 h1 w
  have k21 := fun w => HCmp_any b a hb ha (-c1) (cmp_swap h1) w
  have k23 := fun w => HCmp_any b c hb hc c2 h2 w
  have k13 := fun w => HCmp_any a c ha hc c3 h3 w
  have p12 := fun w hL => Pair_any a b ha hb w hL
  have t1 := fun w => Text_any a ha w
  have t2 := fun w => Text_any b hb w
  have F := Lib.hid (And.intro h1 (And.intro h2 h3)); clear h1 h2 h3
  have hneg : IntKind.i64.wrap (0 - -c1) = c1 := by simp [IntKind.wrap, IntKind.signed, IntKind.bits]; omega
  have hS : ((bstr (hexT a)).toList == (bstr (hexT b)).toList) = decide (a = b) := by
    rw [bstr_toList, bstr_toList, Bool.eq_iff_iff]
    simp
    exact ⟨fun h => hexT_inj a b ha hb h, fun h => by rw [h]⟩
  have hx0 : (c1 == 0) = decide (a = b) := by
    rw [Bool.eq_iff_iff]
    simp
    constructor
    · intro h; exact leN_inj a b ha hb (z1.1 h)
    · intro h; subst h; exact z1.2 rfl
  have q12 := fun w => eqH a b (decide (a = b)) ha hb rfl w
  by_cases e : a = b
  · subst e
    simp only [decide_true] at hS hx0 q12
    have c10 : c1 = 0 := by simpa using hx0
    have qC := fun w => eqH (sumOf (sumOf (a ++ a))) (sumOf (sumOf (a ++ a))) true (sumOf_length _) (sumOf_length _) (by simp) w
    by_cases y : 0 < c2
    · exact Order_Qe w hL _ _ _ _ (isH a ha) (isH a ha) (isH c hc) c1 c2 c3 _ _ k12 k21 k23 k13 p12 t1 t2 q12 hneg hx0 (by rw [c10]; rfl) (by simpa using y) p12 qC hS
    · exact Order_Re w hL _ _ _ _ (isH a ha) (isH a ha) (isH c hc) c1 c2 c3 _ _ k12 k21 k23 k13 p12 t1 t2 q12 hneg hx0 (by rw [c10]; rfl) (by simpa using y) (by simpa using z2 (by omega) y) p12 qC hS
  · simp only [e, decide_false] at hS hx0 q12
    by_cases x : 0 < c1
    · exact Order_P w hL _ _ _ _ (isH a ha) (isH b hb) (isH c hc) c1 c2 c3 _ _ k12 k21 k23 k13 p12 t1 t2 q12 hneg hx0 (by simpa using x) hS
    · by_cases y : 0 < c2
      · exact Order_Q w hL _ _ _ _ (isH a ha) (isH b hb) (isH c hc) c1 c2 c3 _ _ k12 k21 k23 k13 p12 t1 t2 q12 hneg hx0 (by simpa using x) (by simpa using y) hS
      · exact Order_R w hL _ _ _ _ (isH a ha) (isH b hb) (isH c hc) c1 c2 c3 _ _ k12 k21 k23 k13 p12 t1 t2 q12 hneg hx0 (by simpa using x) (by simpa using y) (by simpa using z2 x y) hS
set_option maxRecDepth 100000 in
set_option maxHeartbeats 1000000 in
theorem HNone_walk (w : World) (hL : Laid w) (a0 : Option Addr) (l0 : List UInt8) (n0 c0 : Nat) (hn0 : l0.length = n0) (hc0 : n0 ≤ c0) (hm0 : c0 ≤ 140737488355328) (ho0 : a0 = none → n0 = 0 ∧ c0 = 0) (hr0 : RdS w a0 l0)
    (a1 : Option Addr) (l1 : List UInt8) (n1 c1 : Nat) (hn1 : l1.length = n1) (hc1 : n1 ≤ c1) (hm1 : c1 ≤ 140737488355328) (ho1 : a1 = none → n1 = 0 ∧ c1 = 0) (hr1 : RdS w a1 l1) :
    Calls Tryd.prog 8 #[.slice a0 n0 c0, .slice a1 n1 c1] w fun e w' => e = .returned (.bool true) ∧ Below w.heap.size w w' := by
  by_cases b0 : 200 < n0
  · have b0' : (200 : Int) < (n0 : Int) := by omega
    clear hr0 hr1 hL hn0 hn1
    go_enter Tryd.func8, Tryd.ntmps8
    go_wp2_with fail
    refine (Awake03 w).mono ?_
    rintro e w1 ⟨rfl, hb1⟩
    go_wp2
    go_ret
    exact ⟨rfl, hb1⟩
  have b0' : ¬ (200 : Int) < (n0 : Int) := by omega
  by_cases b1 : 200 < n1
  · have b1' : (200 : Int) < (n1 : Int) := by omega
    clear hr0 hr1 hL hn0 hn1
    go_enter Tryd.func8, Tryd.ntmps8
    go_wp2_with fail
    refine (Awake03 w).mono ?_
    rintro e w1 ⟨rfl, hb1⟩
    go_wp2
    go_ret
    exact ⟨rfl, hb1⟩
  have b1' : ¬ (200 : Int) < (n1 : Int) := by omega
  have m0 : n0 ≤ 140737488355328 ∧ c0 ≤ 9223372036854775807 := by omega
  have m1 : n1 ≤ 140737488355328 ∧ c1 ≤ 9223372036854775807 := by omega
  obtain ⟨b, hb⟩ : ∃ b, witB l0 l1 = b := ⟨_, rfl⟩
  have hb' : witB l1 l0 = b := by
    rw [← hb]
    unfold witB
    congr 1
    · congr 1
      simp [eq_comm]
    · simp [eq_comm]
  have h00 : witB l0 l0 = false := by unfold witB; simp
  have W0 := fun w r L => Witness_any a0 l0 n0 c0 hn0 hc0 m0 ho0 a0 l0 n0 c0 hn0 hc0 m0 ho0 w r r L false h00
  have W1 := fun w r s L => Witness_any a0 l0 n0 c0 hn0 hc0 m0 ho0 a1 l1 n1 c1 hn1 hc1 m1 ho1 w r s L b hb
  have W2 := fun w r s L => Witness_any a1 l1 n1 c1 hn1 hc1 m1 ho1 a0 l0 n0 c0 hn0 hc0 m0 ho0 w s r L b hb'
  have K := Lib.hid (And.intro W0 (And.intro W1 (And.intro W2 (And.intro hr0 (And.intro hr1 hL))))); clear W0 W1 W2 hr0 hr1 hL hn0 hn1 hb hb' h00
  go_enter Tryd.func8, Tryd.ntmps8
  go_wp2_with fail
  refine (Awake03 w).mono ?_
  rintro e w1 ⟨rfl, hb1⟩
  have D1 := Lib.hid hb1; clear hb1
  go_wp2_with fail
  refine (K.out.1 w1 (K.out.2.2.2.1.below D1.out (Nat.le_refl _)) (K.out.2.2.2.2.2.below D1.out (Nat.le_refl _))).mono ?_
  rintro e w2 ⟨rfl, hb1⟩
  have D2 := Lib.hid (bt D1.out hb1); clear hb1
  go_wp2_with fail
  refine (K.out.2.1 w2 (K.out.2.2.2.1.below D2.out (Nat.le_refl _)) (K.out.2.2.2.2.1.below D2.out (Nat.le_refl _)) (K.out.2.2.2.2.2.below D2.out (Nat.le_refl _))).mono ?_
  rintro e w3 ⟨rfl, hb1⟩
  have D3 := Lib.hid (bt D2.out hb1); clear hb1
  go_wp2_with fail
  refine (K.out.2.2.1 w3 (K.out.2.2.2.1.below D3.out (Nat.le_refl _)) (K.out.2.2.2.2.1.below D3.out (Nat.le_refl _)) (K.out.2.2.2.2.2.below D3.out (Nat.le_refl _))).mono ?_
  rintro e w4 ⟨rfl, hb1⟩
  have D4 := Lib.hid (bt D3.out hb1); clear hb1
  have qb := fun w => run_eq_bool (P := Tryd.prog) Tryd.underlying4 b b w
  go_wp2
  go_ret
  exact ⟨rfl, D4.out⟩
end Go.Proofs.YtfebknplkbeblaaDoor
