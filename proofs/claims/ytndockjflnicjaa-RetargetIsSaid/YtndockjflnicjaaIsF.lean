/- florinref13: the document's Next and Chain. -/
import Derived.Test.YtndockjflnicjaaIsE
import Derived.Test.YtndockjflnicjaaChC
namespace Go.Proofs.Ytndockjflnicjaa
open Go.RowKit
set_option linter.unusedVariables false
set_option maxRecDepth 100000 in
set_option maxHeartbeats 2000000 in
theorem RNext_bad (lim bi ti fi : Nat) (iv sp fu ix op h : Int) (a : Option Addr) (n c : Nat) (hs : Array Value) (h65 : hs[65]? = some (.int .u32 ti)) (h66 : hs[66]? = some (.int .u32 bi)) (hS : Hid (∀ w, Calls Try.prog 17 #[.agg (pcells lim iv sp fu ix op a n c)] w fun e w' => e = .returned (.bool false) ∧ Below w.heap.size w w')) (w : World) :
    Calls Try.prog 18 #[.agg (pcells lim iv sp fu ix op a n c), .int .i64 h, .agg hs, .int .u32 fi] w fun e w' => e = .returned (.int .u32 lim) ∧ Below w.heap.size w w' := by
  have H66 := Lib.hid (And.intro h65 h66); clear h65 h66
  go_enter Try.func18, Try.ntmps18
  go_wp2_with fail
  refine (hS.out _).mono ?_
  rintro q w1 ⟨rfl, hb1⟩
  have q_p := ((Blk.newAt w 25 (pcells lim iv sp fu ix op a n c) rfl).alloc (.cells hs 29)).calls hb1
  have q_h := (Blk.newAt (w.alloc (.cells (pcells lim iv sp fu ix op a n c) 25)) 29 hs (by simp : w.heap.size + 1 = _)).calls hb1
  have bb := bt (ba (ba (Below.refl w.heap.size w) _) _) hb1
  clear hb1 hS
  have p0 := blk_get q_p 0 _ rfl
  have B := Lib.hid (And.intro q_p (And.intro q_h bb)); clear q_p q_h bb
  go_wp2
  go_ret
  exact ⟨rfl, B.out.2.2⟩
set_option maxRecDepth 100000 in
set_option maxHeartbeats 2000000 in
theorem RNext_low (lim bi ti fi : Nat) (iv sp fu ix op h : Int) (a : Option Addr) (n c : Nat) (hs : Array Value) (h65 : hs[65]? = some (.int .u32 ti)) (h66 : hs[66]? = some (.int .u32 bi)) (hS : Hid (∀ w, Calls Try.prog 17 #[.agg (pcells lim iv sp fu ix op a n c)] w fun e w' => e = .returned (.bool true) ∧ Below w.heap.size w w')) (hh : decide (h ≤ 0) = true) (w : World) :
    Calls Try.prog 18 #[.agg (pcells lim iv sp fu ix op a n c), .int .i64 h, .agg hs, .int .u32 fi] w fun e w' => e = .returned (.int .u32 bi) ∧ Below w.heap.size w w' := by
  have H66 := Lib.hid (And.intro h65 h66); clear h65 h66
  go_enter Try.func18, Try.ntmps18
  go_wp2_with fail
  refine (hS.out _).mono ?_
  rintro q w1 ⟨rfl, hb1⟩
  have q_p := ((Blk.newAt w 25 (pcells lim iv sp fu ix op a n c) rfl).alloc (.cells hs 29)).calls hb1
  have q_h := (Blk.newAt (w.alloc (.cells (pcells lim iv sp fu ix op a n c) 25)) 29 hs (by simp : w.heap.size + 1 = _)).calls hb1
  have bb := bt (ba (ba (Below.refl w.heap.size w) _) _) hb1
  clear hb1 hS
  have p0 := blk_get q_p 0 _ rfl
  have p66 := blk_get q_h 66 _ H66.out.2
  have B := Lib.hid (And.intro q_p (And.intro q_h bb)); clear q_p q_h bb
  go_wp2
  go_ret
  exact ⟨rfl, B.out.2.2⟩
set_option maxRecDepth 100000 in
set_option maxHeartbeats 2000000 in
theorem RNext_hold (lim bi ti fi : Nat) (iv sp fu ix op h : Int) (a : Option Addr) (n c : Nat) (hs : Array Value) (h65 : hs[65]? = some (.int .u32 ti)) (h66 : hs[66]? = some (.int .u32 bi)) (hS : Hid (∀ w, Calls Try.prog 17 #[.agg (pcells lim iv sp fu ix op a n c)] w fun e w' => e = .returned (.bool true) ∧ Below w.heap.size w w')) (m : Int) (hh : decide (h ≤ 0) = false) (hi : ¬ iv = 0) (hm : Int.tmod h iv = m) (hm0 : (m != 0) = true) (w : World) :
    Calls Try.prog 18 #[.agg (pcells lim iv sp fu ix op a n c), .int .i64 h, .agg hs, .int .u32 fi] w fun e w' => e = .returned (.int .u32 bi) ∧ Below w.heap.size w w' := by
  have H66 := Lib.hid (And.intro h65 h66); clear h65 h66
  go_enter Try.func18, Try.ntmps18
  go_wp2_with fail
  refine (hS.out _).mono ?_
  rintro q w1 ⟨rfl, hb1⟩
  have q_p := ((Blk.newAt w 25 (pcells lim iv sp fu ix op a n c) rfl).alloc (.cells hs 29)).calls hb1
  have q_h := (Blk.newAt (w.alloc (.cells (pcells lim iv sp fu ix op a n c) 25)) 29 hs (by simp : w.heap.size + 1 = _)).calls hb1
  have bb := bt (ba (ba (Below.refl w.heap.size w) _) _) hb1
  clear hb1 hS
  have p1 := blk_get q_p 1 _ rfl
  have p66 := blk_get q_h 66 _ H66.out.2
  have B := Lib.hid (And.intro q_p (And.intro q_h bb)); clear q_p q_h bb
  go_wp2
  go_ret
  exact ⟨rfl, B.out.2.2⟩
set_option maxRecDepth 100000 in
set_option maxHeartbeats 2000000 in
theorem RNext_turn (lim bi ti fi : Nat) (iv sp fu ix op h : Int) (a : Option Addr) (n c : Nat) (hs : Array Value) (h65 : hs[65]? = some (.int .u32 ti)) (h66 : hs[66]? = some (.int .u32 bi)) (hS : Hid (∀ w, Calls Try.prog 17 #[.agg (pcells lim iv sp fu ix op a n c)] w fun e w' => e = .returned (.bool true) ∧ Below w.heap.size w w')) (k d x : Nat) (y : Int) (hh : decide (h ≤ 0) = false) (hi : ¬ iv = 0) (hm : Int.tmod h iv = 0) (e1 : IntKind.i64.wrap (ti : Int) = (ti : Int)) (e2 : IntKind.i64.wrap (fi : Int) = (fi : Int)) (e3 : IntKind.i64.wrap ((ti : Int) - (fi : Int)) = y) (e4 : IntKind.u64.wrap (k : Int) = (k : Int)) (e5 : IntKind.u64.wrap sp = (d : Int))
    (hC : Hid (∀ w, Calls Try.prog 21 #[.int .i64 y, .int .i64 sp] w fun e w' => e = .returned (.int .i64 k) ∧ Below w.heap.size w w')) (hSc : Hid (∀ w, Calls Try.prog 34 #[.int .u32 bi, .int .u64 k, .int .u64 d, .int .u32 lim] w fun e w' => e = .returned (.int .u32 x) ∧ Below w.heap.size w w')) (w : World) :
    Calls Try.prog 18 #[.agg (pcells lim iv sp fu ix op a n c), .int .i64 h, .agg hs, .int .u32 fi] w fun e w' => e = .returned (.int .u32 x) ∧ Below w.heap.size w w' := by
  have H66 := Lib.hid (And.intro h65 h66); clear h65 h66
  go_enter Try.func18, Try.ntmps18
  go_wp2_with fail
  refine (hS.out _).mono ?_
  rintro q w1 ⟨rfl, hb1⟩
  have q_p := ((Blk.newAt w 25 (pcells lim iv sp fu ix op a n c) rfl).alloc (.cells hs 29)).calls hb1
  have q_h := (Blk.newAt (w.alloc (.cells (pcells lim iv sp fu ix op a n c) 25)) 29 hs (by simp : w.heap.size + 1 = _)).calls hb1
  have bb := bt (ba (ba (Below.refl w.heap.size w) _) _) hb1
  clear hb1 hS
  have p1 := blk_get q_p 1 _ rfl
  have p2 := blk_get q_p 2 _ rfl
  have p65 := blk_get q_h 65 _ H66.out.1
  have B := Lib.hid (And.intro q_p (And.intro q_h bb)); clear q_p q_h bb
  go_wp2_with fail
  refine (hC.out _).mono ?_
  rintro q w2 ⟨rfl, hb1⟩
  have q_p := B.out.1.calls hb1
  have q_h := B.out.2.1.calls hb1
  have bb := bt B.out.2.2 hb1
  clear hb1 p1 p2 p65 hh hi hm
  have p0 := blk_get q_p 0 _ rfl
  have p2 := blk_get q_p 2 _ rfl
  have p66 := blk_get q_h 66 _ H66.out.2
  clear q_p q_h
  go_wp2_with fail
  refine (hSc.out _).mono ?_
  rintro q w3 ⟨rfl, hb1⟩
  replace bb := bt bb hb1
  clear hb1
  go_wp2
  go_ret
  exact ⟨rfl, bb⟩
theorem RNext_any (lim bi ti fi : Nat) (iv sp fu ix op h : Int) (a : Option Addr) (n c : Nat) (hs : Array Value) (h65 : hs[65]? = some (.int .u32 ti)) (h66 : hs[66]? = some (.int .u32 bi)) (hl : lim < 4294967296) (hbi : bi < 4294967296) (hti : ti < 4294967296) (hfi : fi < 4294967296) (x : Nat) (hx : nextR lim iv sp fu ix op n h ti bi fi = x) (w : World) :
    Calls Try.prog 18 #[.agg (pcells lim iv sp fu ix op a n c), .int .i64 h, .agg hs, .int .u32 fi] w fun e w' => e = .returned (.int .u32 x) ∧ Below w.heap.size w w' := by
  unfold nextR at hx
  have hS := fun r hr w => RSane_any lim iv sp fu ix op a n c hl r hr w
  by_cases hs0 : saneR lim iv sp fu ix op n = false
  · rw [if_pos hs0] at hx
    subst hx
    exact RNext_bad lim bi ti fi iv sp fu ix op h a n c hs h65 h66 (Lib.hid (hS false hs0)) w
  · rw [if_neg hs0] at hx
    have hs1 : saneR lim iv sp fu ix op n = true := by simpa using hs0
    obtain ⟨f1, f2, f3, f4⟩ := sane_facts lim iv sp fu ix op n hs1
    by_cases hh : h ≤ 0
    · rw [if_pos (.inl hh)] at hx
      subst hx
      exact RNext_low lim bi ti fi iv sp fu ix op h a n c hs h65 h66 (Lib.hid (hS true hs1)) (decide_eq_true hh) w
    · by_cases hm : Int.tmod h iv = 0
      · rw [if_neg (by intro k; rcases k with k | k; exact hh k; exact k hm)] at hx
        obtain ⟨g1, g2, g3⟩ := clamp_facts ((ti : Int) - (fi : Int)) sp f2
        obtain ⟨K, hK⟩ : ∃ K, K = clampR ((ti : Int) - (fi : Int)) sp := ⟨_, rfl⟩
        have hC := fun w => RClamp_any ((ti : Int) - (fi : Int)) sp w
        rw [← hK] at hx hC g2 g3
        clear g1
        obtain ⟨k, rfl⟩ : ∃ k : Nat, K = k := ⟨K.toNat, by omega⟩
        obtain ⟨d, rfl⟩ : ∃ d : Nat, sp = d := ⟨sp.toNat, by omega⟩
        refine RNext_turn lim bi ti fi iv d fu ix op h a n c hs h65 h66 (Lib.hid (hS true hs1)) k d x ((ti : Int) - (fi : Int)) (decide_eq_false hh) (by omega) hm ?_ ?_ ?_ ?_ ?_ (Lib.hid hC) (Lib.hid fun w => ?_) w
        · simp [IntKind.wrap, IntKind.signed, IntKind.bits]; omega
        · simp [IntKind.wrap, IntKind.signed, IntKind.bits]; omega
        · simp [IntKind.wrap, IntKind.signed, IntKind.bits]; omega
        · rw [IntKind.wrap_u64]; omega
        · rw [IntKind.wrap_u64]; omega
        · exact RScale_any bi k d lim x hbi (by unfold W64; omega) (by unfold W64; omega) hl (by simpa using hx) w
      · rw [if_pos (.inr hm)] at hx
        subst hx
        exact RNext_hold lim bi ti fi iv sp fu ix op h a n c hs h65 h66 (Lib.hid (hS true hs1)) _ (decide_eq_false hh) (by omega) rfl (by simpa using hm) w
set_option maxRecDepth 100000 in
set_option maxHeartbeats 1000000 in
theorem RChain_zero (lim c : Nat) (iv sp fu ix op : Int) (av ca : Option Addr) (cn cc : Nat) (w : World) :
    Calls Try.prog 20 #[.agg (pcells lim iv sp fu ix op ca cn cc), .slice av 0 c] w fun e w' => e = .returned (.int .u32 lim) ∧ Below w.heap.size w w' := by
  go_enter Try.func20, Try.ntmps20
  go_wp2
  go_ret
  exact ⟨rfl, ba (Below.refl _ _) _⟩
set_option maxRecDepth 100000 in
set_option maxHeartbeats 4000000 in
theorem RefChain_core (lim x tf k1 f b o o1 o2 n c : Nat) (iv sp fu ix op : Int) (ca : Option Addr) (cn cc : Nat) (rf rl : List Value) (hn0 : ((n : Int) == 0) = false) (w : World) (iP : (Try.prog.info? 25).map (·.size) = some (pcells lim iv sp fu ix op ca cn cc).size) (iL : (Try.prog.info? 29).map (·.size) = some rl.length)
    (HR : Hid (w.rangeAt b o1 rf ∧ w.rangeAt b o2 rl ∧ b < w.heap.size)) (HF : Hid (rf[65]? = some (.int .u32 tf)))
    (HE : Hid (IntKind.i64.wrap ((n : Int) - 1) = (k1 : Int) ∧ (∀ w, (Instr.indexAt 47 (.slice (some ⟨b, o, none⟩) n c) (.int .i64 k1)).run Try.prog w = .ok (.pointer (some ⟨b, o2, none⟩)) w) ∧ (∀ w, (Instr.indexAt 47 (.slice (some ⟨b, o, none⟩) n c) (.int .i64 f)).run Try.prog w = .ok (.pointer (some ⟨b, o1, none⟩)) w)))
    (HFi : Hid (∀ w, Calls Try.prog 22 #[.int .i64 n, .int .i64 iv] w fun e w' => e = .returned (.int .i64 f) ∧ Below w.heap.size w w')) (HN : Hid (∀ w, Calls Try.prog 18 #[.agg (pcells lim iv sp fu ix op ca cn cc), .int .i64 n, .agg rl.toArray, .int .u32 tf] w fun e w' => e = .returned (.int .u32 x) ∧ Below w.heap.size w w')) :
    Calls Try.prog 20 #[.agg (pcells lim iv sp fu ix op ca cn cc), .slice (some ⟨b, o, none⟩) n c] w fun e w' => e = .returned (.int .u32 x) ∧ Below w.heap.size w w' := by
  go_enter Try.func20, Try.ntmps20
  go_wp2_with fail
  have q_p := Blk.newAt w 25 (pcells lim iv sp fu ix op ca cn cc) rfl
  have bb := ba (Below.refl w.heap.size w) (.cells (pcells lim iv sp fu ix op ca cn cc) 25)
  change Code.wp _ _ _ _ (w.alloc (.cells (pcells lim iv sp fu ix op ca cn cc) 25))
  generalize w.alloc (.cells (pcells lim iv sp fu ix op ca cn cc) 25) = w2 at *
  have l_p := q_p.lt
  refine wp_region_g [some 10, some 11, some 12, some 13, some 14, some 15, some 16, some 17, some 18, some 19, some 20, some 21, some 22, some 23, some 24, some 25, some 26, some 27, some 28, some 4] (FL [
      EqV (.agg (pcells lim iv sp fu ix op ca cn cc)),
      EqV (.slice (some ⟨b, o, none⟩) n c),
      EqV (.int .i64 n),
      EqV (.slice (some ⟨b, o, none⟩) n c),
      EqV (.slice (some ⟨b, o, none⟩) n c),
      EqV (.int .i64 n),
      EqV (.int .i64 ((k1 : Int))),
      EqV (.pointer (some ⟨b, o2, none⟩)),
      EqV (.agg rl.toArray),
      EqV (.slice (some ⟨b, o, none⟩) n c),
      EqV (.slice (some ⟨b, o, none⟩) n c),
      EqV (.int .i64 n),
      EqV (.pointer (some ⟨w.heap.size, 1, none⟩)),
      EqV (.int .i64 iv),
      EqV (.int .i64 f),
      EqV (.pointer (some ⟨b, o1, none⟩)),
      EqV (.pointer (some ⟨b, o1 + 65, none⟩)),
      EqV (.int .u32 tf),
      EqV (.int .u32 x),
      EqV (.int .u32 x)
    ]) (FL_keeps ⟨keeps_eq _, keeps_eq _, keeps_eq _, keeps_eq _, keeps_eq _, keeps_eq _, keeps_eq _, keeps_eq _, keeps_eq _, keeps_eq _, keeps_eq _, keeps_eq _, keeps_eq _, keeps_eq _, keeps_eq _, keeps_eq _, keeps_eq _, keeps_eq _, keeps_eq _, keeps_eq _, trivial⟩) (by kernel_rfl) rfl rfl rfl rfl ⟨
    .inr ⟨gk0 rfl, fun A w' γ hb hF hs => g_eq (op_load_st 25 (.tmp 2) rfl ((hs.2 2 rfl).trans rfl) (q_p.below hb l_p) Try.underlying25 (iP))⟩,
    .inr ⟨gk0 rfl, fun A w' γ hb hF hs => g_eq (op_move (.tmp 1) (.inl rfl) ((hs.2 1 rfl).trans rfl))⟩,
    .inr ⟨gk0 rfl, fun A w' γ hb hF hs => g_eq (op_len (.tmp 11) 47 _ (some ⟨b, o, none⟩) n c rfl ((hs.1 1 rfl 11 rfl).trans (hF 1 rfl)) Try.underlying47)⟩,
    .inr ⟨gk0 rfl, fun A w' γ hb hF hs => g_eq (op_move (.tmp 1) (.inl rfl) ((hs.2 1 rfl).trans rfl))⟩,
    .inr ⟨gk0 rfl, fun A w' γ hb hF hs => g_eq (op_move (.tmp 1) (.inl rfl) ((hs.2 1 rfl).trans rfl))⟩,
    .inr ⟨gk0 rfl, fun A w' γ hb hF hs => g_eq (op_len (.tmp 14) 47 _ (some ⟨b, o, none⟩) n c rfl ((hs.1 4 rfl 14 rfl).trans (hF 4 rfl)) Try.underlying47)⟩,
    .inr ⟨gk0 rfl, fun A w' γ hb hF hs => g_eq (op_sub 3 _ (.tmp 15) (.const (.int .i64 1)) .i64 (n) (1) ((k1 : Int)) rfl ((hs.1 5 rfl 15 rfl).trans (hF 5 rfl)) rfl (HE.out.1))⟩,
    .inr ⟨gk0 rfl, fun A w' γ hb hF hs => g_eq (op_idxa 47 (.tmp 13) (.tmp 16) rfl ((hs.1 3 rfl 13 rfl).trans (hF 3 rfl)) ((hs.1 6 rfl 16 rfl).trans (hF 6 rfl)) (HE.out.2.1 _))⟩,
    .inr ⟨gk0 rfl, fun A w' γ hb hF hs => g_eq (op_mid 29 (.tmp 17) rfl b o2 ((hs.1 7 rfl 17 rfl).trans (hF 7 rfl)) rl _ (rangeAt_below HR.out.2.1 (bb.trans (hb.mono bb.size)) HR.out.2.2) Try.underlying29 rfl (iL))⟩,
    .inr ⟨gk0 rfl, fun A w' γ hb hF hs => g_eq (op_move (.tmp 1) (.inl rfl) ((hs.2 1 rfl).trans rfl))⟩,
    .inr ⟨gk0 rfl, fun A w' γ hb hF hs => g_eq (op_move (.tmp 1) (.inl rfl) ((hs.2 1 rfl).trans rfl))⟩,
    .inr ⟨gk0 rfl, fun A w' γ hb hF hs => g_eq (op_len (.tmp 20) 47 _ (some ⟨b, o, none⟩) n c rfl ((hs.1 10 rfl 20 rfl).trans (hF 10 rfl)) Try.underlying47)⟩,
    .inr ⟨gk0 rfl, fun A w' γ hb hF hs => g_eq (op_fld 25 (.tmp 2) 1 1 rfl w.heap.size ((hs.2 2 rfl).trans rfl) fun _ _ => by kernel_rfl)⟩,
    .inr ⟨gk0 rfl, fun A w' γ hb hF hs => g_eq (op_cel 3 (.tmp 22) rfl _ ((hs.1 12 rfl 22 rfl).trans (hF 12 rfl)) _ (blk_get (q_p.below hb l_p) 1 _ rfl) _ Try.underlying3 rfl)⟩,
    .inr ⟨gk0 rfl, fun A w' γ hb hF hs => g_eq (op_call 22 #[.int .i64 n, .int .i64 iv] (exec_call _ 22 #[.int .i64 n, .int .i64 iv] rfl rfl (oargs2 ((hs.1 11 rfl 21 rfl).trans (hF 11 rfl)) ((hs.1 13 rfl 23 rfl).trans (hF 13 rfl))) Try.func22 rfl rfl) (HFi.out _))⟩,
    .inr ⟨gk0 rfl, fun A w' γ hb hF hs => g_eq (op_idxa 47 (.tmp 19) (.tmp 24) rfl ((hs.1 9 rfl 19 rfl).trans (hF 9 rfl)) ((hs.1 14 rfl 24 rfl).trans (hF 14 rfl)) (HE.out.2.2 _))⟩,
    .inr ⟨gk0 rfl, fun A w' γ hb hF hs => g_eq (op_mfld 29 (.tmp 25) 3 65 rfl b o1 ((hs.1 15 rfl 25 rfl).trans (hF 15 rfl)) (fun _ _ _ => mfld3 _ _ _))⟩,
    .inr ⟨gk0 rfl, fun A w' γ hb hF hs => g_eq (op_cel 22 (.tmp 26) rfl _ ((hs.1 16 rfl 26 rfl).trans (hF 16 rfl)) _ (rangeAt_below HR.out.1 (bb.trans (hb.mono bb.size)) HR.out.2.2 65 _ HF.out) _ Try.underlying22 rfl)⟩,
    .inr ⟨gk0 rfl, fun A w' γ hb hF hs => g_eq (op_call 18 #[.agg (pcells lim iv sp fu ix op ca cn cc), .int .i64 n, .agg rl.toArray, .int .u32 tf] (exec_call _ 18 #[.agg (pcells lim iv sp fu ix op ca cn cc), .int .i64 n, .agg rl.toArray, .int .u32 tf] rfl rfl (oargs4 ((hs.1 0 rfl 10 rfl).trans (hF 0 rfl)) ((hs.1 2 rfl 12 rfl).trans (hF 2 rfl)) ((hs.1 8 rfl 18 rfl).trans (hF 8 rfl)) ((hs.1 17 rfl 27 rfl).trans (hF 17 rfl))) Try.func18 rfl rfl) (HN.out _))⟩,
    .inr ⟨gk0 rfl, fun A w' γ hb hF hs => g_eq (op_move (.tmp 28) (.inr rfl) ((hs.1 18 rfl 28 rfl).trans (hF 18 rfl)))⟩,
    trivial⟩ ?_
  intro γ w' hb hF
  have bz := bb.trans (hb.mono bb.size)
  have ez : γ 19 = .int .u32 x := hF 19 (by decide)
  simp only [Fr, if_true, Act.put, List.setIfInBounds_toArray, List.set_cons_zero, List.set_cons_succ]
  rw [ez]
  clear ez hF
  go_wp2
  go_ret
  exact ⟨rfl, bz⟩
end Go.Proofs.Ytndockjflnicjaa
