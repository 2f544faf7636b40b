/- retarget.Next. -/
import Derived.Test.YtndockjflnicjaaRetC
import Derived.Test.YtndockjflnicjaaScale
namespace Go.Proofs.Ytndockjflnicjaa
open Go.RowKit
set_option linter.unusedVariables false
set_option maxRecDepth 100000 in
set_option maxHeartbeats 2000000 in
theorem Next_bad (lim bi ti fi : Nat) (iv sp fu ix op h : Int) (a : Option Addr) (n c : Nat) (hs : Array Value) (h65 : hs[65]? = some (.int .u32 ti)) (h66 : hs[66]? = some (.int .u32 bi)) (hS : Hid (∀ w, Calls Try.prog 11 #[.agg (pcells lim iv sp fu ix op a n c)] w fun e w' => e = .returned (.bool false) ∧ Below w.heap.size w w')) (w : World) :
    Calls Try.prog 9 #[.agg (pcells lim iv sp fu ix op a n c), .int .i64 h, .agg hs, .int .u32 fi] w fun e w' => e = .returned (.int .u32 lim) ∧ Below w.heap.size w w' := by
  have H66 := Lib.hid (And.intro h65 h66); clear h65 h66
  go_enter Try.func9, Try.ntmps9
  go_wp2_with fail
  refine (hS.out _).mono ?_
  rintro q w1 ⟨rfl, hb1⟩
  have q_p := ((Blk.newAt w 25 (pcells lim iv sp fu ix op a n c) rfl).alloc (.cells hs 29)).calls hb1
  have q_h := (Blk.newAt (w.alloc (.cells (pcells lim iv sp fu ix op a n c) 25)) 29 hs (by simp : w.heap.size + 1 = _)).calls hb1
  have bb := bt (ba (ba (Below.refl w.heap.size w) _) _) hb1
  clear hb1 hS
  have p0 := blk_get q_p 0 _ rfl
  have B := Lib.hid (And.intro q_p (And.intro q_h bb)); clear q_p q_h bb
  go_wp2
  go_ret
  exact ⟨rfl, B.out.2.2⟩
set_option maxRecDepth 100000 in
set_option maxHeartbeats 2000000 in
theorem Next_low (lim bi ti fi : Nat) (iv sp fu ix op h : Int) (a : Option Addr) (n c : Nat) (hs : Array Value) (h65 : hs[65]? = some (.int .u32 ti)) (h66 : hs[66]? = some (.int .u32 bi)) (hS : Hid (∀ w, Calls Try.prog 11 #[.agg (pcells lim iv sp fu ix op a n c)] w fun e w' => e = .returned (.bool true) ∧ Below w.heap.size w w')) (hh : decide (h ≤ 0) = true) (w : World) :
    Calls Try.prog 9 #[.agg (pcells lim iv sp fu ix op a n c), .int .i64 h, .agg hs, .int .u32 fi] w fun e w' => e = .returned (.int .u32 bi) ∧ Below w.heap.size w w' := by
  have H66 := Lib.hid (And.intro h65 h66); clear h65 h66
  go_enter Try.func9, Try.ntmps9
  go_wp2_with fail
  refine (hS.out _).mono ?_
  rintro q w1 ⟨rfl, hb1⟩
  have q_p := ((Blk.newAt w 25 (pcells lim iv sp fu ix op a n c) rfl).alloc (.cells hs 29)).calls hb1
  have q_h := (Blk.newAt (w.alloc (.cells (pcells lim iv sp fu ix op a n c) 25)) 29 hs (by simp : w.heap.size + 1 = _)).calls hb1
  have bb := bt (ba (ba (Below.refl w.heap.size w) _) _) hb1
  clear hb1 hS
  have p0 := blk_get q_p 0 _ rfl
  have p66 := blk_get q_h 66 _ H66.out.2
  have B := Lib.hid (And.intro q_p (And.intro q_h bb)); clear q_p q_h bb
  go_wp2
  go_ret
  exact ⟨rfl, B.out.2.2⟩
set_option maxRecDepth 100000 in
set_option maxHeartbeats 2000000 in
theorem Next_hold (lim bi ti fi : Nat) (iv sp fu ix op h : Int) (a : Option Addr) (n c : Nat) (hs : Array Value) (h65 : hs[65]? = some (.int .u32 ti)) (h66 : hs[66]? = some (.int .u32 bi)) (hS : Hid (∀ w, Calls Try.prog 11 #[.agg (pcells lim iv sp fu ix op a n c)] w fun e w' => e = .returned (.bool true) ∧ Below w.heap.size w w')) (m : Int) (hh : decide (h ≤ 0) = false) (hi : ¬ iv = 0) (hm : Int.tmod h iv = m) (hm0 : (m != 0) = true) (w : World) :
    Calls Try.prog 9 #[.agg (pcells lim iv sp fu ix op a n c), .int .i64 h, .agg hs, .int .u32 fi] w fun e w' => e = .returned (.int .u32 bi) ∧ Below w.heap.size w w' := by
  have H66 := Lib.hid (And.intro h65 h66); clear h65 h66
  go_enter Try.func9, Try.ntmps9
  go_wp2_with fail
  refine (hS.out _).mono ?_
  rintro q w1 ⟨rfl, hb1⟩
  have q_p := ((Blk.newAt w 25 (pcells lim iv sp fu ix op a n c) rfl).alloc (.cells hs 29)).calls hb1
  have q_h := (Blk.newAt (w.alloc (.cells (pcells lim iv sp fu ix op a n c) 25)) 29 hs (by simp : w.heap.size + 1 = _)).calls hb1
  have bb := bt (ba (ba (Below.refl w.heap.size w) _) _) hb1
  clear hb1 hS
  have p1 := blk_get q_p 1 _ rfl
  have p66 := blk_get q_h 66 _ H66.out.2
  have B := Lib.hid (And.intro q_p (And.intro q_h bb)); clear q_p q_h bb
  go_wp2
  go_ret
  exact ⟨rfl, B.out.2.2⟩
set_option maxRecDepth 100000 in
set_option maxHeartbeats 2000000 in
theorem Next_turn (lim bi ti fi : Nat) (iv sp fu ix op h : Int) (a : Option Addr) (n c : Nat) (hs : Array Value) (h65 : hs[65]? = some (.int .u32 ti)) (h66 : hs[66]? = some (.int .u32 bi)) (hS : Hid (∀ w, Calls Try.prog 11 #[.agg (pcells lim iv sp fu ix op a n c)] w fun e w' => e = .returned (.bool true) ∧ Below w.heap.size w w')) (k d x : Nat) (y : Int) (hh : decide (h ≤ 0) = false) (hi : ¬ iv = 0) (hm : Int.tmod h iv = 0) (e1 : IntKind.i64.wrap (ti : Int) = (ti : Int)) (e2 : IntKind.i64.wrap (fi : Int) = (fi : Int)) (e3 : IntKind.i64.wrap ((ti : Int) - (fi : Int)) = y) (e4 : IntKind.u64.wrap (k : Int) = (k : Int)) (e5 : IntKind.u64.wrap sp = (d : Int))
    (hC : Hid (∀ w, Calls Try.prog 13 #[.int .i64 y, .int .i64 sp] w fun e w' => e = .returned (.int .i64 k) ∧ Below w.heap.size w w')) (hSc : Hid (∀ w, Calls Try.prog 23 #[.int .u32 bi, .int .u64 k, .int .u64 d, .int .u32 lim] w fun e w' => e = .returned (.int .u32 x) ∧ Below w.heap.size w w')) (w : World) :
    Calls Try.prog 9 #[.agg (pcells lim iv sp fu ix op a n c), .int .i64 h, .agg hs, .int .u32 fi] w fun e w' => e = .returned (.int .u32 x) ∧ Below w.heap.size w w' := by
  have H66 := Lib.hid (And.intro h65 h66); clear h65 h66
  go_enter Try.func9, Try.ntmps9
  go_wp2_with fail
  refine (hS.out _).mono ?_
  rintro q w1 ⟨rfl, hb1⟩
  have q_p := ((Blk.newAt w 25 (pcells lim iv sp fu ix op a n c) rfl).alloc (.cells hs 29)).calls hb1
  have q_h := (Blk.newAt (w.alloc (.cells (pcells lim iv sp fu ix op a n c) 25)) 29 hs (by simp : w.heap.size + 1 = _)).calls hb1
  have bb := bt (ba (ba (Below.refl w.heap.size w) _) _) hb1
  clear hb1 hS
  have p1 := blk_get q_p 1 _ rfl
  have p2 := blk_get q_p 2 _ rfl
  have p65 := blk_get q_h 65 _ H66.out.1
  have B := Lib.hid (And.intro q_p (And.intro q_h bb)); clear q_p q_h bb
  go_wp2_with fail
  refine (hC.out _).mono ?_
  rintro q w2 ⟨rfl, hb1⟩
  have q_p := B.out.1.calls hb1
  have q_h := B.out.2.1.calls hb1
  have bb := bt B.out.2.2 hb1
  clear hb1 p1 p2 p65 hh hi hm
  have p0 := blk_get q_p 0 _ rfl
  have p2 := blk_get q_p 2 _ rfl
  have p66 := blk_get q_h 66 _ H66.out.2
  clear q_p q_h
  go_wp2_with fail
  refine (hSc.out _).mono ?_
  rintro q w3 ⟨rfl, hb1⟩
  replace bb := bt bb hb1
  clear hb1
  go_wp2
  go_ret
  exact ⟨rfl, bb⟩
/-- The bits of a header. -/
def nextR (lim : Nat) (iv sp fu ix op : Int) (n : Nat) (h : Int) (ti bi fi : Nat) : Nat := if saneR lim iv sp fu ix op n = false then lim else if h ≤ 0 ∨ Int.tmod h iv ≠ 0 then bi else scaleR bi (clampR ((ti : Int) - (fi : Int)) sp).toNat sp.toNat lim
theorem betw_same (x lo hi : Int) (h : (x == betw x lo hi) = true) (hl : lo ≤ hi) : lo ≤ x ∧ x ≤ hi := by
  have h1 : x = betw x lo hi := by simpa using h
  have h2 := betw_le x lo hi hl
  omega
theorem sane_facts (lim : Nat) (iv sp fu ix op : Int) (n : Nat) (h : saneR lim iv sp fu ix op n = true) : (1 ≤ iv ∧ iv ≤ 1048576) ∧ (4 ≤ sp ∧ sp ≤ 1099511627776) ∧ (expR lim).2 = 0 ∧ n ≤ 100 := by
  unfold saneR at h
  simp only [List.all_cons, List.all_nil, Bool.and_true, Bool.and_eq_true, id] at h
  obtain ⟨h1, h2, h3, h4, h5, h6, h7⟩ := h
  refine ⟨betw_same iv _ _ h1 (by decide), betw_same sp _ _ h2 (by decide), by simpa using h3, ?_⟩
  have := of_decide_eq_true h7
  omega
theorem clamp_facts (y sp : Int) (h : 4 ≤ sp ∧ sp ≤ 1099511627776) : clampR y sp = betw y (sp / 4) (4 * sp) ∧ sp / 4 ≤ clampR y sp ∧ clampR y sp ≤ 4 * sp := by
  have e : betw sp 4 1099511627776 = sp := by unfold betw; split <;> split <;> omega
  have e2 : Int.tdiv sp 4 = sp / 4 := by obtain ⟨N, rfl⟩ : ∃ N : Nat, sp = N := ⟨sp.toNat, by omega⟩; rfl
  unfold clampR
  rw [e, e2]
  have := betw_le y (sp / 4) (4 * sp) (by omega)
  exact ⟨rfl, this.1, this.2⟩
theorem Next_any (lim bi ti fi : Nat) (iv sp fu ix op h : Int) (a : Option Addr) (n c : Nat) (hs : Array Value) (h65 : hs[65]? = some (.int .u32 ti)) (h66 : hs[66]? = some (.int .u32 bi)) (hl : lim < 4294967296) (hbi : bi < 4294967296) (hti : ti < 4294967296) (hfi : fi < 4294967296) (x : Nat) (hx : nextR lim iv sp fu ix op n h ti bi fi = x) (w : World) :
    Calls Try.prog 9 #[.agg (pcells lim iv sp fu ix op a n c), .int .i64 h, .agg hs, .int .u32 fi] w fun e w' => e = .returned (.int .u32 x) ∧ Below w.heap.size w w' := by
  unfold nextR at hx
  have hS := fun r hr w => Sane_any lim iv sp fu ix op a n c hl r hr w
  by_cases hs0 : saneR lim iv sp fu ix op n = false
  · rw [if_pos hs0] at hx
    subst hx
    exact Next_bad lim bi ti fi iv sp fu ix op h a n c hs h65 h66 (Lib.hid (hS false hs0)) w
  · rw [if_neg hs0] at hx
    have hs1 : saneR lim iv sp fu ix op n = true := by simpa using hs0
    obtain ⟨f1, f2, f3, f4⟩ := sane_facts lim iv sp fu ix op n hs1
    by_cases hh : h ≤ 0
    · rw [if_pos (.inl hh)] at hx
      subst hx
      exact Next_low lim bi ti fi iv sp fu ix op h a n c hs h65 h66 (Lib.hid (hS true hs1)) (decide_eq_true hh) w
    · by_cases hm : Int.tmod h iv = 0
      · rw [if_neg (by intro k; rcases k with k | k; exact hh k; exact k hm)] at hx
        obtain ⟨g1, g2, g3⟩ := clamp_facts ((ti : Int) - (fi : Int)) sp f2
        obtain ⟨K, hK⟩ : ∃ K, K = clampR ((ti : Int) - (fi : Int)) sp := ⟨_, rfl⟩
        have hC := fun w => Clamp_any ((ti : Int) - (fi : Int)) sp w
        rw [← hK] at hx hC g2 g3
        clear g1
        obtain ⟨k, rfl⟩ : ∃ k : Nat, K = k := ⟨K.toNat, by omega⟩
        obtain ⟨d, rfl⟩ : ∃ d : Nat, sp = d := ⟨sp.toNat, by omega⟩
        refine Next_turn lim bi ti fi iv d fu ix op h a n c hs h65 h66 (Lib.hid (hS true hs1)) k d x ((ti : Int) - (fi : Int)) (decide_eq_false hh) (by omega) hm ?_ ?_ ?_ ?_ ?_ (Lib.hid hC) (Lib.hid fun w => ?_) w
        · simp [IntKind.wrap, IntKind.signed, IntKind.bits]; omega
        · simp [IntKind.wrap, IntKind.signed, IntKind.bits]; omega
        · simp [IntKind.wrap, IntKind.signed, IntKind.bits]; omega
        · rw [IntKind.wrap_u64]; omega
        · rw [IntKind.wrap_u64]; omega
        · exact Scale_any bi k d lim x hbi (by unfold W64; omega) (by unfold W64; omega) hl (by simpa using hx) w
      · rw [if_pos (.inr hm)] at hx
        subst hx
        exact Next_hold lim bi ti fi iv sp fu ix op h a n c hs h65 h66 (Lib.hid (hS true hs1)) _ (decide_eq_false hh) (by omega) rfl (by simpa using hm) w
end Go.Proofs.Ytndockjflnicjaa
