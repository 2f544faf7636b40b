/- florinref13: the document's Clamp, First and Sane; florinref05: its Scale, for all arguments. -/
import Derived.Test.YtndockjflnicjaaIsD
import Derived.Test.YtndockjflnicjaaArgsP
import Derived.Test.YtndockjflnicjaaGuardB
namespace Go.Proofs.Ytndockjflnicjaa
open Go.RowKit
set_option linter.unusedVariables false
theorem scale_parts (t k d x y a b1 c c2 q : Nat) (lost l2 ov : Bool) (hd0 : 0 < d) (hd : d < W64) (hk : k < W64) (h1 : DivIs t d x y true) (h2 : ProdIs x k a lost) (h3 : ProdIs y k b1 l2) (h4 : DivIs b1 d c c2 true) (h5 : SumIs a c q ov) :
    ((lost = true ∨ ov = true) ↔ T ≤ t * k / d) ∧ (lost = false → ov = false → q = t * k / d) := by
  rcases h1.2.2 with ⟨h, _⟩ | ⟨_, hx, hy, _⟩
  · omega
  rcases h4.2.2 with ⟨h, _⟩ | ⟨_, hc, _, _⟩
  · omega
  have hyd : y < d := by rw [hy]; exact Nat.mod_lt _ hd0
  have hyk : y * k < T := by
    have e1 : y * k ≤ W64 * W64 := Nat.mul_le_mul (by omega) (by omega)
    have e2 : W64 * W64 < T := by decide +kernel
    omega
  have hb1 : b1 = y * k := by rw [h3.2.2.2.1]; exact Nat.mod_eq_of_lt hyk
  have ho : t * k / d = x * k + c := by
    have hm := Nat.div_add_mod t d
    rw [← hx, ← hy] at hm
    rw [hc, hb1, ← hm, Nat.add_mul, Nat.mul_assoc, Nat.mul_add_div hd0]
  rw [ho]
  obtain ⟨_, _, p3, p4, p5⟩ := h2
  obtain ⟨_, _, s3, s4⟩ := h5
  generalize x * k = X at *
  clear h1 h3 h4 hx hy hyd hyk hb1 ho hc
  by_cases hl : T ≤ X
  · rw [decide_eq_true hl] at p5
    subst p5
    exact ⟨⟨fun _ => by omega, fun _ => .inl rfl⟩, fun h => by cases h⟩
  · rw [decide_eq_false hl] at p5
    subst p5
    have pa : a = X := by rw [p4]; exact Nat.mod_eq_of_lt (by omega)
    subst pa
    cases ov
    · simp at s4
      exact ⟨⟨fun h => (by rcases h with h | h <;> cases h), fun h => by omega⟩, fun _ _ => by omega⟩
    · simp at s4
      exact ⟨⟨fun _ => by omega, fun _ => .inr rfl⟩, fun _ h => by cases h⟩
theorem RScale_any (b k d l x : Nat) (hb : b < 4294967296) (hk : k < W64) (hd : d < W64) (hl : l < 4294967296) (hx : scaleR b k d l = x) (w : World) :
    Calls Try.prog 34 #[.int .u32 b, .int .u64 k, .int .u64 d, .int .u32 l] w fun e w' => e = .returned (.int .u32 x) ∧ Below w.heap.size w w' := by
  obtain ⟨t, e, h⟩ : ∃ t e, expR b = (t, e) := ⟨_, _, rfl⟩
  obtain ⟨u, g, h'⟩ : ∃ u g, expR l = (u, g) := ⟨_, _, rfl⟩
  have ht : t < T := by have := expR_lt b; rw [h] at this; exact this
  have hu : u < T := by have := expR_lt l; rw [h'] at this; exact this
  unfold scaleR scaleT at hx
  rw [h, h'] at hx
  dsimp only at hx
  have hdT : d < T := Nat.lt_trans hd (by decide +kernel)
  obtain ⟨x1, y1, b0, hdiv⟩ := div_ex t d ht hdT
  have hx1T : x1 < T := by
    rcases hdiv.2.2 with ⟨_, h, _⟩ | ⟨_, h, _⟩
    · omega
    · rw [h]; exact Nat.lt_of_le_of_lt (Nat.div_le_self _ _) ht
  have hy1T : y1 < T := by
    rcases hdiv.2.2 with ⟨_, _, h, _⟩ | ⟨h0, _, h, _⟩
    · omega
    · rw [h]; exact Nat.lt_trans (Nat.mod_lt _ h0) hdT
  obtain ⟨a, lost, hp⟩ := prod_ex x1 k hx1T hk
  obtain ⟨b1, l2, hp2⟩ := prod_ex y1 k hy1T hk
  obtain ⟨c, c2, b2, hdiv2⟩ := div_ex b1 d hp2.2.2.1 hdT
  have hcT : c < T := by
    rcases hdiv2.2.2 with ⟨_, h, _⟩ | ⟨_, h, _⟩
    · omega
    · rw [h]; exact Nat.lt_of_le_of_lt (Nat.div_le_self _ _) hp2.2.2.1
  obtain ⟨q, ov, hs⟩ := sum_ex a c hp.2.2.1 hcT
  obtain ⟨cc, hcc⟩ := cmp_ex q u hs.2.2.1 hu
  have hdv : ¬ d = 0 → b0 = true ∧ b2 = true := fun h0 => by
    constructor
    · rcases hdiv.2.2 with ⟨h, _⟩ | ⟨_, _, _, h⟩
      · exact absurd h h0
      · exact h
    · rcases hdiv2.2.2 with ⟨h, _⟩ | ⟨_, _, _, h⟩
      · exact absurd h h0
      · exact h
  refine RScale_core b k d l t u x1 y1 a b1 c c2 q x e g cc lost l2 ov (decide (q = 0)) ⟨hb, h, hl, h'⟩ (Lib.hid hd) (Lib.hid fun h0 => ?_) ⟨hcc, fun w => eqRZ q _ hs.2.2.1 rfl w⟩ ⟨?_, ?_⟩ w
  · obtain ⟨rfl, rfl⟩ := hdv h0
    exact ⟨hdiv, hp, hp2, hdiv2, hs⟩
  · intro hh
    rw [if_pos (by rcases hh with hh | hh | hh | hh; exact .inl hh; exact .inr (.inr (.inr hh)); exact .inr (.inl hh); exact .inr (.inr (.inl hh)))] at hx
    exact hx.symm
  · intro he0 hg0 h1 h2
    have hlive : ¬ (e ≠ 0 ∨ g ≠ 0) := fun h => by rcases h with h | h; exact h he0; exact h hg0
    obtain ⟨rfl, rfl⟩ := hdv h2
    obtain ⟨g1, g2⟩ := scale_parts t k d x1 y1 a b1 c c2 q lost l2 ov (by omega) hd hk hdiv hp hp2 hdiv2 hs
    have fcc := (cmp_facts hcc).2.1
    by_cases hbad : e ≠ 0 ∨ k = 0 ∨ d = 0 ∨ g ≠ 0
    · exfalso
      exact hlive (by rcases hbad with hh | hh | hh | hh; exact .inl hh; exact absurd hh h1; exact absurd hh h2; exact .inr hh)
    · rw [if_neg hbad] at hx
      constructor
      · intro hh
        have hT : T ≤ t * k / d ∨ t * k / d = 0 ∨ u < t * k / d := by
          by_cases hlo : lost = true ∨ ov = true
          · exact .inl (g1.1 hlo)
          · have eo := g2 (by cases lost; rfl; exact absurd (.inl rfl) hlo) (by cases ov; rfl; exact absurd (.inr rfl) hlo)
            rw [← eo]
            rcases hh with hh | hh | hh | hh
            · exact absurd (.inl hh) hlo
            · exact absurd (.inr hh) hlo
            · exact .inr (.inl (of_decide_eq_true hh))
            · exact .inr (.inr (fcc.1 hh))
        rw [if_pos hT] at hx
        exact fun w => RShrink_any u x hu hx w
      · intro h3 h4 h5 h6
        have eo := g2 h3 h4
        rw [← eo] at hx
        rw [if_neg (by intro hh; rcases hh with hh | hh | hh; (have := hs.2.2.1; omega); exact of_decide_eq_false h5 hh; (have := fcc.2 hh; omega))] at hx
        exact fun w => RShrink_any q x hs.2.2.1 hx w
set_option maxRecDepth 100000 in
set_option maxHeartbeats 400000 in
theorem RClamp_any (a s : Int) (w : World) : Calls Try.prog 21 #[.int .i64 a, .int .i64 s] w fun e w' => e = .returned (.int .i64 (clampR a s)) ∧ Below w.heap.size w w' := by
  obtain ⟨m, e1⟩ : ∃ m, min s 1099511627776 = m := ⟨_, rfl⟩
  obtain ⟨N, e2⟩ : ∃ N : Nat, max 4 m = (N : Int) := ⟨(max 4 m).toNat, by omega⟩
  have hN : 4 ≤ N ∧ N ≤ 1099511627776 := by omega
  have e3 : Int.tdiv (N : Int) 4 = (N : Int) / 4 := rfl
  have e4 : IntKind.i64.wrap ((N : Int) / 4) = (N : Int) / 4 := by simp [IntKind.wrap, IntKind.signed, IntKind.bits]; omega
  have e5 : IntKind.i64.wrap (4 * (N : Int)) = 4 * (N : Int) := by simp [IntKind.wrap, IntKind.signed, IntKind.bits]; omega
  have hr : max ((N : Int) / 4) (min a (4 * (N : Int))) = clampR a s := by
    have hb : betw s 4 1099511627776 = N := by unfold betw; split <;> split <;> omega
    unfold clampR
    rw [hb, e3]
    unfold betw
    split <;> split <;> omega
  obtain ⟨q, e6⟩ : ∃ q, (N : Int) / 4 = q := ⟨_, rfl⟩
  obtain ⟨r, e7⟩ : ∃ r, 4 * (N : Int) = r := ⟨_, rfl⟩
  rw [e6] at e4 hr e3
  rw [e7] at e5 hr
  obtain ⟨p, e8⟩ : ∃ p, min a r = p := ⟨_, rfl⟩
  rw [e8] at hr
  clear hN
  go_enter Try.func21, Try.ntmps21
  go_wp2
  go_ret
  exact ⟨rfl, Below.refl _ _⟩
set_option maxRecDepth 100000 in
set_option maxHeartbeats 400000 in
theorem RFirst_any (h i : Int) (hw : (Lit.int .i64 h).wf = true) (w : World) : Calls Try.prog 22 #[.int .i64 h, .int .i64 i] w fun e w' => e = .returned (.int .i64 (firstR h i)) ∧ Below w.heap.size w w' := by
  simp [Lit.wf, IntKind.min, IntKind.max, IntKind.signed, IntKind.bits] at hw
  obtain ⟨H, e1⟩ : ∃ H, max 0 h = H := ⟨_, rfl⟩
  obtain ⟨m, e2⟩ : ∃ m, min i 1048576 = m := ⟨_, rfl⟩
  obtain ⟨s, e3⟩ : ∃ s, max 1 m = s := ⟨_, rfl⟩
  have e4 : IntKind.i64.wrap (H - s) = H - s := by simp [IntKind.wrap, IntKind.signed, IntKind.bits]; omega
  have hr : max 0 (H - s) = firstR h i := by
    have hb : betw i 1 1048576 = s := by unfold betw; split <;> split <;> omega
    unfold firstR
    rw [hb]
    split <;> omega
  obtain ⟨d, e5⟩ : ∃ d, H - s = d := ⟨_, rfl⟩
  have e6 : RowKit.wrap64 (H - s) = d := by rw [← e5]; unfold RowKit.wrap64; omega
  rw [e5] at e4 hr
  clear hw
  go_enter Try.func22, Try.ntmps22
  go_wp2
  go_ret
  exact ⟨rfl, Below.refl _ _⟩
set_option maxRecDepth 100000 in
set_option maxHeartbeats 4000000 in
theorem RSane_core (lim t n c : Nat) (e iv sp fu ix op : Int) (ca : Option Addr) (b0 b1 b2 b3 b4 c1 c2 c3 c4 d0 d1 d2 d3 d4 d5 d6 f1 f2 f3 f4 f5 f6 : Bool) (hE : Hid (lim < 4294967296 ∧ expR lim = (t, e)))
    (HA : Hid (decide (iv < 1) = b0 ∧ decide (1048576 < iv) = b1 ∧ (b0 || b1) = c1 ∧ decide (sp < 4) = b2 ∧ (c1 || b2) = c2 ∧ decide (1099511627776 < sp) = b3 ∧ (c2 || b3) = c3 ∧ (e != 0) = b4 ∧ (c3 || b4) = c4))
    (HB : Hid (decide (0 ≤ fu) = d0 ∧ decide (fu ≤ 4294967296) = d1 ∧ (d0 && d1) = f1 ∧ decide (0 ≤ ix) = d2 ∧ (f1 && d2) = f2 ∧ decide (ix ≤ 1048576) = d3 ∧ (f2 && d3) = f3 ∧ decide (0 ≤ op) = d4 ∧ (f3 && d4) = f4 ∧ decide (op ≤ 1048576) = d5 ∧ (f4 && d5) = f5 ∧ decide ((n : Int) ≤ 100) = d6 ∧ (f5 && d6) = f6)) (w : World) :
    Calls Try.prog 17 #[.agg (pcells lim iv sp fu ix op ca n c)] w fun q w' => q = .returned (.bool (!c4 && f6)) ∧ Below w.heap.size w w' := by
  go_enter Try.func17, Try.ntmps17
  go_wp2_with fail
  refine (RExpand_any lim t e hE.out.1 hE.out.2 _).mono ?_
  rintro q w1 ⟨rfl, hb1⟩
  have q_p := (Blk.newAt w 25 (pcells lim iv sp fu ix op ca n c) rfl).calls hb1
  have bb := bt (ba (Below.refl w.heap.size w) _) hb1
  clear hb1
  go_upto_region 2 with fail
  replace q_p := q_p.alloc (.cells (ucells t) 63)
  replace bb := ba bb (.cells (ucells t) 63)
  have l_p := q_p.lt
  change Code.wp _ _ _ _ (w1.alloc (.cells (ucells t) 63))
  generalize w1.alloc (.cells (ucells t) 63) = w2 at *
  refine wp_region_q [some 11, some 12, some 13, some 14, some 15, some 16, some 17, some 18, some 19, some 20, some 21, some 22, some 23, some 24, some 25, some 26, some 27, some 28, some 29, some 30, some 31, some 32] (FL [
      EqV (.pointer (some ⟨w.heap.size, 1, none⟩)),
      EqV (.int .i64 iv),
      EqV (.bool b0),
      EqV (.bool b0),
      IfV (b0 == false) (.pointer (some ⟨w.heap.size, 1, none⟩)),
      IfV (b0 == false) (.int .i64 iv),
      IfV (b0 == false) (.bool b1),
      EqV (.bool c1),
      EqV (.bool c1),
      IfV (c1 == false) (.pointer (some ⟨w.heap.size, 2, none⟩)),
      IfV (c1 == false) (.int .i64 sp),
      IfV (c1 == false) (.bool b2),
      EqV (.bool c2),
      EqV (.bool c2),
      IfV (c2 == false) (.pointer (some ⟨w.heap.size, 2, none⟩)),
      IfV (c2 == false) (.int .i64 sp),
      IfV (c2 == false) (.bool b3),
      EqV (.bool c3),
      EqV (.bool c3),
      IfV (c3 == false) (.int .i64 e),
      IfV (c3 == false) (.bool b4),
      EqV (.bool c4)
    ]) (FL_keeps ⟨keeps_eq _, keeps_eq _, keeps_eq _, keeps_eq _, keeps_if _ _, keeps_if _ _, keeps_if _ _, keeps_eq _, keeps_eq _, keeps_if _ _, keeps_if _ _, keeps_if _ _, keeps_eq _, keeps_eq _, keeps_if _ _, keeps_if _ _, keeps_if _ _, keeps_eq _, keeps_eq _, keeps_if _ _, keeps_if _ _, keeps_eq _, trivial⟩) rfl rfl rfl rfl ⟨
    q_of (.inr ⟨gk0 rfl, fun A w' γ hb hF hs => g_eq (op_fld 25 (.tmp 1) 1 1 rfl w.heap.size ((hs.2 1 rfl).trans rfl) fun _ _ => by kernel_rfl)⟩),
    q_of (.inr ⟨gk0 rfl, fun A w' γ hb hF hs => g_eq (op_cel 3 (.tmp 11) rfl _ ((hs.1 0 rfl 11 rfl).trans (hF 0 rfl)) _ (blk_get (q_p.below hb l_p) 1 _ rfl) _ Try.underlying3 rfl)⟩),
    q_of (.inr ⟨gk0 rfl, fun A w' γ hb hF hs => g_eq (op_lss 3 _ (.tmp 12) (.const (.int .i64 1)) .i64 (iv) (1) b0 rfl ((hs.1 1 rfl 12 rfl).trans (hF 1 rfl)) rfl (HA.out.1))⟩),
    q_of (.inr ⟨gk0 rfl, fun A w' γ hb hF hs => g_eq (op_move (.tmp 13) (.inl rfl) ((hs.1 2 rfl 13 rfl).trans (hF 2 rfl)))⟩),
    q_if 3 false b0 rfl rfl 14 rfl (fun _ _ h => h) (fun h0 w hh => by rw [h0] at hh; cases hh) (fun hw A w' γ hb hF hs => g_if (g_eq (op_fld 25 (.tmp 1) 1 1 rfl w.heap.size ((hs.2 1 rfl).trans rfl) fun _ _ => by kernel_rfl))),
    q_if 3 false b0 rfl rfl 14 rfl (fun _ _ h => h) (fun h0 w hh => by rw [h0] at hh; cases hh) (fun hw A w' γ hb hF hs => g_if (g_eq (op_cel 3 (.tmp 15) rfl _ ((hs.1 4 rfl 15 rfl).trans (hF 4 rfl hw)) _ (blk_get (q_p.below hb l_p) 1 _ rfl) _ Try.underlying3 rfl))),
    q_if 3 false b0 rfl rfl 14 rfl (fun _ _ h => h) (fun h0 w hh => by rw [h0] at hh; cases hh) (fun hw A w' γ hb hF hs => g_if (g_eq (op_gtr 3 _ (.tmp 16) (.const (.int .i64 1048576)) .i64 (iv) (1048576) b1 rfl ((hs.1 5 rfl 16 rfl).trans (hF 5 rfl hw)) rfl (HA.out.2.1)))),
    q_of (.inr ⟨gk0 rfl, fun A w' γ hb hF hs => g_eq (op_pick_or (.tmp 14) (.tmp 17) (b0) (b1) (c1) rfl ((hs.1 3 rfl 14 rfl).trans (hF 3 rfl)) (fun hw => ((hs.1 6 rfl 17 rfl).trans (hF 6 rfl hw))) (HA.out.2.2.1))⟩),
    q_of (.inr ⟨gk0 rfl, fun A w' γ hb hF hs => g_eq (op_move (.tmp 18) (.inl rfl) ((hs.1 7 rfl 18 rfl).trans (hF 7 rfl)))⟩),
    q_if 8 false c1 rfl rfl 19 rfl (fun _ _ h => h) (fun h0 w hh => by rw [h0] at hh; cases hh) (fun hw A w' γ hb hF hs => g_if (g_eq (op_fld 25 (.tmp 1) 2 2 rfl w.heap.size ((hs.2 1 rfl).trans rfl) fun _ _ => by kernel_rfl))),
    q_if 8 false c1 rfl rfl 19 rfl (fun _ _ h => h) (fun h0 w hh => by rw [h0] at hh; cases hh) (fun hw A w' γ hb hF hs => g_if (g_eq (op_cel 3 (.tmp 20) rfl _ ((hs.1 9 rfl 20 rfl).trans (hF 9 rfl hw)) _ (blk_get (q_p.below hb l_p) 2 _ rfl) _ Try.underlying3 rfl))),
    q_if 8 false c1 rfl rfl 19 rfl (fun _ _ h => h) (fun h0 w hh => by rw [h0] at hh; cases hh) (fun hw A w' γ hb hF hs => g_if (g_eq (op_lss 3 _ (.tmp 21) (.const (.int .i64 4)) .i64 (sp) (4) b2 rfl ((hs.1 10 rfl 21 rfl).trans (hF 10 rfl hw)) rfl (HA.out.2.2.2.1)))),
    q_of (.inr ⟨gk0 rfl, fun A w' γ hb hF hs => g_eq (op_pick_or (.tmp 19) (.tmp 22) (c1) (b2) (c2) rfl ((hs.1 8 rfl 19 rfl).trans (hF 8 rfl)) (fun hw => ((hs.1 11 rfl 22 rfl).trans (hF 11 rfl hw))) (HA.out.2.2.2.2.1))⟩),
    q_of (.inr ⟨gk0 rfl, fun A w' γ hb hF hs => g_eq (op_move (.tmp 23) (.inl rfl) ((hs.1 12 rfl 23 rfl).trans (hF 12 rfl)))⟩),
    q_if 13 false c2 rfl rfl 24 rfl (fun _ _ h => h) (fun h0 w hh => by rw [h0] at hh; cases hh) (fun hw A w' γ hb hF hs => g_if (g_eq (op_fld 25 (.tmp 1) 2 2 rfl w.heap.size ((hs.2 1 rfl).trans rfl) fun _ _ => by kernel_rfl))),
    q_if 13 false c2 rfl rfl 24 rfl (fun _ _ h => h) (fun h0 w hh => by rw [h0] at hh; cases hh) (fun hw A w' γ hb hF hs => g_if (g_eq (op_cel 3 (.tmp 25) rfl _ ((hs.1 14 rfl 25 rfl).trans (hF 14 rfl hw)) _ (blk_get (q_p.below hb l_p) 2 _ rfl) _ Try.underlying3 rfl))),
    q_if 13 false c2 rfl rfl 24 rfl (fun _ _ h => h) (fun h0 w hh => by rw [h0] at hh; cases hh) (fun hw A w' γ hb hF hs => g_if (g_eq (op_gtr 3 _ (.tmp 26) (.const (.int .i64 1099511627776)) .i64 (sp) (1099511627776) b3 rfl ((hs.1 15 rfl 26 rfl).trans (hF 15 rfl hw)) rfl (HA.out.2.2.2.2.2.1)))),
    q_of (.inr ⟨gk0 rfl, fun A w' γ hb hF hs => g_eq (op_pick_or (.tmp 24) (.tmp 27) (c2) (b3) (c3) rfl ((hs.1 13 rfl 24 rfl).trans (hF 13 rfl)) (fun hw => ((hs.1 16 rfl 27 rfl).trans (hF 16 rfl hw))) (HA.out.2.2.2.2.2.2.1))⟩),
    q_of (.inr ⟨gk0 rfl, fun A w' γ hb hF hs => g_eq (op_move (.tmp 28) (.inl rfl) ((hs.1 17 rfl 28 rfl).trans (hF 17 rfl)))⟩),
    q_if 18 false c3 rfl rfl 29 rfl (fun _ _ h => h) (fun h0 w hh => by rw [h0] at hh; cases hh) (fun hw A w' γ hb hF hs => g_if (g_eq (op_move (.tmp 4) (.inl rfl) ((hs.2 4 rfl).trans rfl)))),
    q_if 18 false c3 rfl rfl 29 rfl (fun _ _ h => h) (fun h0 w hh => by rw [h0] at hh; cases hh) (fun hw A w' γ hb hF hs => g_if (g_eq (op_neq_int 35 _ (.tmp 30) (.const (.int .i64 0)) .i64 (e) (0) b4 rfl ((hs.1 19 rfl 30 rfl).trans (hF 19 rfl hw)) rfl (HA.out.2.2.2.2.2.2.2.1)))),
    q_of (.inr ⟨gk0 rfl, fun A w' γ hb hF hs => g_eq (op_pick_or (.tmp 29) (.tmp 31) (c3) (b4) (c4) rfl ((hs.1 18 rfl 29 rfl).trans (hF 18 rfl)) (fun hw => ((hs.1 20 rfl 31 rfl).trans (hF 20 rfl hw))) (HA.out.2.2.2.2.2.2.2.2))⟩),
    trivial⟩ ?_
  intro γ w3 hb3 hF
  replace q_p := q_p.below hb3 l_p
  replace bb := bt bb hb3
  replace l_p := q_p.lt
  have ez : γ 21 = .bool c4 := hF 21 (by decide)
  simp only [Fr, if_true, Act.put, List.setIfInBounds_toArray, List.set_cons_zero, List.set_cons_succ]
  rw [ez]
  clear ez hF hb3
  generalize γ = γ0
  cases c4
  · go_upto_region 4 with fail
    refine wp_region_q [some 33, some 34, some 35, some 36, some 37, some 38, some 39, some 40, some 41, some 42, some 43, some 44, some 45, some 46, some 47, some 48, some 49, some 50, some 51, some 52, some 53, some 54, some 55, some 56, some 57, some 58, some 59, some 60, some 61, some 62, some 63, some 64, some 65, some 66, some 2] (FL [
        EqV (.pointer (some ⟨w.heap.size, 3, none⟩)),
        EqV (.int .i64 fu),
        EqV (.bool d0),
        EqV (.bool d0),
        IfV (d0 == true) (.pointer (some ⟨w.heap.size, 3, none⟩)),
        IfV (d0 == true) (.int .i64 fu),
        IfV (d0 == true) (.bool d1),
        EqV (.bool f1),
        EqV (.bool f1),
        IfV (f1 == true) (.pointer (some ⟨w.heap.size, 4, none⟩)),
        IfV (f1 == true) (.int .i64 ix),
        IfV (f1 == true) (.bool d2),
        EqV (.bool f2),
        EqV (.bool f2),
        IfV (f2 == true) (.pointer (some ⟨w.heap.size, 4, none⟩)),
        IfV (f2 == true) (.int .i64 ix),
        IfV (f2 == true) (.bool d3),
        EqV (.bool f3),
        EqV (.bool f3),
        IfV (f3 == true) (.pointer (some ⟨w.heap.size, 5, none⟩)),
        IfV (f3 == true) (.int .i64 op),
        IfV (f3 == true) (.bool d4),
        EqV (.bool f4),
        EqV (.bool f4),
        IfV (f4 == true) (.pointer (some ⟨w.heap.size, 5, none⟩)),
        IfV (f4 == true) (.int .i64 op),
        IfV (f4 == true) (.bool d5),
        EqV (.bool f5),
        EqV (.bool f5),
        IfV (f5 == true) (.pointer (some ⟨w.heap.size, 6, none⟩)),
        IfV (f5 == true) (.slice ca n c),
        IfV (f5 == true) (.int .i64 n),
        IfV (f5 == true) (.bool d6),
        EqV (.bool f6),
        EqV (.bool f6)
      ]) (FL_keeps ⟨keeps_eq _, keeps_eq _, keeps_eq _, keeps_eq _, keeps_if _ _, keeps_if _ _, keeps_if _ _, keeps_eq _, keeps_eq _, keeps_if _ _, keeps_if _ _, keeps_if _ _, keeps_eq _, keeps_eq _, keeps_if _ _, keeps_if _ _, keeps_if _ _, keeps_eq _, keeps_eq _, keeps_if _ _, keeps_if _ _, keeps_if _ _, keeps_eq _, keeps_eq _, keeps_if _ _, keeps_if _ _, keeps_if _ _, keeps_eq _, keeps_eq _, keeps_if _ _, keeps_if _ _, keeps_if _ _, keeps_if _ _, keeps_eq _, keeps_eq _, trivial⟩) rfl rfl rfl rfl ⟨
      q_of (.inr ⟨gk0 rfl, fun A w' γ hb hF hs => g_eq (op_fld 25 (.tmp 1) 3 3 rfl w.heap.size ((hs.2 1 rfl).trans rfl) fun _ _ => by kernel_rfl)⟩),
      q_of (.inr ⟨gk0 rfl, fun A w' γ hb hF hs => g_eq (op_cel 3 (.tmp 33) rfl _ ((hs.1 0 rfl 33 rfl).trans (hF 0 rfl)) _ (blk_get (q_p.below hb l_p) 3 _ rfl) _ Try.underlying3 rfl)⟩),
      q_of (.inr ⟨gk0 rfl, fun A w' γ hb hF hs => g_eq (op_geq 3 _ (.tmp 34) (.const (.int .i64 0)) .i64 (fu) (0) d0 rfl ((hs.1 1 rfl 34 rfl).trans (hF 1 rfl)) rfl (HB.out.1))⟩),
      q_of (.inr ⟨gk0 rfl, fun A w' γ hb hF hs => g_eq (op_move (.tmp 35) (.inl rfl) ((hs.1 2 rfl 35 rfl).trans (hF 2 rfl)))⟩),
      q_if 3 true d0 rfl rfl 36 rfl (fun _ _ h => h) (fun h0 w hh => by rw [h0] at hh; cases hh) (fun hw A w' γ hb hF hs => g_if (g_eq (op_fld 25 (.tmp 1) 3 3 rfl w.heap.size ((hs.2 1 rfl).trans rfl) fun _ _ => by kernel_rfl))),
      q_if 3 true d0 rfl rfl 36 rfl (fun _ _ h => h) (fun h0 w hh => by rw [h0] at hh; cases hh) (fun hw A w' γ hb hF hs => g_if (g_eq (op_cel 3 (.tmp 37) rfl _ ((hs.1 4 rfl 37 rfl).trans (hF 4 rfl hw)) _ (blk_get (q_p.below hb l_p) 3 _ rfl) _ Try.underlying3 rfl))),
      q_if 3 true d0 rfl rfl 36 rfl (fun _ _ h => h) (fun h0 w hh => by rw [h0] at hh; cases hh) (fun hw A w' γ hb hF hs => g_if (g_eq (op_leq 3 _ (.tmp 38) (.const (.int .i64 4294967296)) .i64 (fu) (4294967296) d1 rfl ((hs.1 5 rfl 38 rfl).trans (hF 5 rfl hw)) rfl (HB.out.2.1)))),
      q_of (.inr ⟨gk0 rfl, fun A w' γ hb hF hs => g_eq (op_pick_and (.tmp 36) (.tmp 39) (d0) (d1) (f1) rfl ((hs.1 3 rfl 36 rfl).trans (hF 3 rfl)) (fun hw => ((hs.1 6 rfl 39 rfl).trans (hF 6 rfl hw))) (HB.out.2.2.1))⟩),
      q_of (.inr ⟨gk0 rfl, fun A w' γ hb hF hs => g_eq (op_move (.tmp 40) (.inl rfl) ((hs.1 7 rfl 40 rfl).trans (hF 7 rfl)))⟩),
      q_if 8 true f1 rfl rfl 41 rfl (fun _ _ h => h) (fun h0 w hh => by rw [h0] at hh; cases hh) (fun hw A w' γ hb hF hs => g_if (g_eq (op_fld 25 (.tmp 1) 4 4 rfl w.heap.size ((hs.2 1 rfl).trans rfl) fun _ _ => by kernel_rfl))),
      q_if 8 true f1 rfl rfl 41 rfl (fun _ _ h => h) (fun h0 w hh => by rw [h0] at hh; cases hh) (fun hw A w' γ hb hF hs => g_if (g_eq (op_cel 3 (.tmp 42) rfl _ ((hs.1 9 rfl 42 rfl).trans (hF 9 rfl hw)) _ (blk_get (q_p.below hb l_p) 4 _ rfl) _ Try.underlying3 rfl))),
      q_if 8 true f1 rfl rfl 41 rfl (fun _ _ h => h) (fun h0 w hh => by rw [h0] at hh; cases hh) (fun hw A w' γ hb hF hs => g_if (g_eq (op_geq 3 _ (.tmp 43) (.const (.int .i64 0)) .i64 (ix) (0) d2 rfl ((hs.1 10 rfl 43 rfl).trans (hF 10 rfl hw)) rfl (HB.out.2.2.2.1)))),
      q_of (.inr ⟨gk0 rfl, fun A w' γ hb hF hs => g_eq (op_pick_and (.tmp 41) (.tmp 44) (f1) (d2) (f2) rfl ((hs.1 8 rfl 41 rfl).trans (hF 8 rfl)) (fun hw => ((hs.1 11 rfl 44 rfl).trans (hF 11 rfl hw))) (HB.out.2.2.2.2.1))⟩),
      q_of (.inr ⟨gk0 rfl, fun A w' γ hb hF hs => g_eq (op_move (.tmp 45) (.inl rfl) ((hs.1 12 rfl 45 rfl).trans (hF 12 rfl)))⟩),
      q_if 13 true f2 rfl rfl 46 rfl (fun _ _ h => h) (fun h0 w hh => by rw [h0] at hh; cases hh) (fun hw A w' γ hb hF hs => g_if (g_eq (op_fld 25 (.tmp 1) 4 4 rfl w.heap.size ((hs.2 1 rfl).trans rfl) fun _ _ => by kernel_rfl))),
      q_if 13 true f2 rfl rfl 46 rfl (fun _ _ h => h) (fun h0 w hh => by rw [h0] at hh; cases hh) (fun hw A w' γ hb hF hs => g_if (g_eq (op_cel 3 (.tmp 47) rfl _ ((hs.1 14 rfl 47 rfl).trans (hF 14 rfl hw)) _ (blk_get (q_p.below hb l_p) 4 _ rfl) _ Try.underlying3 rfl))),
      q_if 13 true f2 rfl rfl 46 rfl (fun _ _ h => h) (fun h0 w hh => by rw [h0] at hh; cases hh) (fun hw A w' γ hb hF hs => g_if (g_eq (op_leq 3 _ (.tmp 48) (.const (.int .i64 1048576)) .i64 (ix) (1048576) d3 rfl ((hs.1 15 rfl 48 rfl).trans (hF 15 rfl hw)) rfl (HB.out.2.2.2.2.2.1)))),
      q_of (.inr ⟨gk0 rfl, fun A w' γ hb hF hs => g_eq (op_pick_and (.tmp 46) (.tmp 49) (f2) (d3) (f3) rfl ((hs.1 13 rfl 46 rfl).trans (hF 13 rfl)) (fun hw => ((hs.1 16 rfl 49 rfl).trans (hF 16 rfl hw))) (HB.out.2.2.2.2.2.2.1))⟩),
      q_of (.inr ⟨gk0 rfl, fun A w' γ hb hF hs => g_eq (op_move (.tmp 50) (.inl rfl) ((hs.1 17 rfl 50 rfl).trans (hF 17 rfl)))⟩),
      q_if 18 true f3 rfl rfl 51 rfl (fun _ _ h => h) (fun h0 w hh => by rw [h0] at hh; cases hh) (fun hw A w' γ hb hF hs => g_if (g_eq (op_fld 25 (.tmp 1) 5 5 rfl w.heap.size ((hs.2 1 rfl).trans rfl) fun _ _ => by kernel_rfl))),
      q_if 18 true f3 rfl rfl 51 rfl (fun _ _ h => h) (fun h0 w hh => by rw [h0] at hh; cases hh) (fun hw A w' γ hb hF hs => g_if (g_eq (op_cel 3 (.tmp 52) rfl _ ((hs.1 19 rfl 52 rfl).trans (hF 19 rfl hw)) _ (blk_get (q_p.below hb l_p) 5 _ rfl) _ Try.underlying3 rfl))),
      q_if 18 true f3 rfl rfl 51 rfl (fun _ _ h => h) (fun h0 w hh => by rw [h0] at hh; cases hh) (fun hw A w' γ hb hF hs => g_if (g_eq (op_geq 3 _ (.tmp 53) (.const (.int .i64 0)) .i64 (op) (0) d4 rfl ((hs.1 20 rfl 53 rfl).trans (hF 20 rfl hw)) rfl (HB.out.2.2.2.2.2.2.2.1)))),
      q_of (.inr ⟨gk0 rfl, fun A w' γ hb hF hs => g_eq (op_pick_and (.tmp 51) (.tmp 54) (f3) (d4) (f4) rfl ((hs.1 18 rfl 51 rfl).trans (hF 18 rfl)) (fun hw => ((hs.1 21 rfl 54 rfl).trans (hF 21 rfl hw))) (HB.out.2.2.2.2.2.2.2.2.1))⟩),
      q_of (.inr ⟨gk0 rfl, fun A w' γ hb hF hs => g_eq (op_move (.tmp 55) (.inl rfl) ((hs.1 22 rfl 55 rfl).trans (hF 22 rfl)))⟩),
      q_if 23 true f4 rfl rfl 56 rfl (fun _ _ h => h) (fun h0 w hh => by rw [h0] at hh; cases hh) (fun hw A w' γ hb hF hs => g_if (g_eq (op_fld 25 (.tmp 1) 5 5 rfl w.heap.size ((hs.2 1 rfl).trans rfl) fun _ _ => by kernel_rfl))),
      q_if 23 true f4 rfl rfl 56 rfl (fun _ _ h => h) (fun h0 w hh => by rw [h0] at hh; cases hh) (fun hw A w' γ hb hF hs => g_if (g_eq (op_cel 3 (.tmp 57) rfl _ ((hs.1 24 rfl 57 rfl).trans (hF 24 rfl hw)) _ (blk_get (q_p.below hb l_p) 5 _ rfl) _ Try.underlying3 rfl))),
      q_if 23 true f4 rfl rfl 56 rfl (fun _ _ h => h) (fun h0 w hh => by rw [h0] at hh; cases hh) (fun hw A w' γ hb hF hs => g_if (g_eq (op_leq 3 _ (.tmp 58) (.const (.int .i64 1048576)) .i64 (op) (1048576) d5 rfl ((hs.1 25 rfl 58 rfl).trans (hF 25 rfl hw)) rfl (HB.out.2.2.2.2.2.2.2.2.2.1)))),
      q_of (.inr ⟨gk0 rfl, fun A w' γ hb hF hs => g_eq (op_pick_and (.tmp 56) (.tmp 59) (f4) (d5) (f5) rfl ((hs.1 23 rfl 56 rfl).trans (hF 23 rfl)) (fun hw => ((hs.1 26 rfl 59 rfl).trans (hF 26 rfl hw))) (HB.out.2.2.2.2.2.2.2.2.2.2.1))⟩),
      q_of (.inr ⟨gk0 rfl, fun A w' γ hb hF hs => g_eq (op_move (.tmp 60) (.inl rfl) ((hs.1 27 rfl 60 rfl).trans (hF 27 rfl)))⟩),
      q_if 28 true f5 rfl rfl 61 rfl (fun _ _ h => h) (fun h0 w hh => by rw [h0] at hh; cases hh) (fun hw A w' γ hb hF hs => g_if (g_eq (op_fld 25 (.tmp 1) 6 6 rfl w.heap.size ((hs.2 1 rfl).trans rfl) fun _ _ => by kernel_rfl))),
      q_if 28 true f5 rfl rfl 61 rfl (fun _ _ h => h) (fun h0 w hh => by rw [h0] at hh; cases hh) (fun hw A w' γ hb hF hs => g_if (g_eq (op_cel 23 (.tmp 62) rfl _ ((hs.1 29 rfl 62 rfl).trans (hF 29 rfl hw)) _ (blk_get (q_p.below hb l_p) 6 _ rfl) _ Try.underlying23 rfl))),
      q_if 28 true f5 rfl rfl 61 rfl (fun _ _ h => h) (fun h0 w hh => by rw [h0] at hh; cases hh) (fun hw A w' γ hb hF hs => g_if (g_eq (op_len (.tmp 63) 23 _ ca n c rfl ((hs.1 30 rfl 63 rfl).trans (hF 30 rfl hw)) Try.underlying23))),
      q_if 28 true f5 rfl rfl 61 rfl (fun _ _ h => h) (fun h0 w hh => by rw [h0] at hh; cases hh) (fun hw A w' γ hb hF hs => g_if (g_eq (op_leq 3 _ (.tmp 64) (.const (.int .i64 100)) .i64 (n) (100) d6 rfl ((hs.1 31 rfl 64 rfl).trans (hF 31 rfl hw)) rfl (HB.out.2.2.2.2.2.2.2.2.2.2.2.1)))),
      q_of (.inr ⟨gk0 rfl, fun A w' γ hb hF hs => g_eq (op_pick_and (.tmp 61) (.tmp 65) (f5) (d6) (f6) rfl ((hs.1 28 rfl 61 rfl).trans (hF 28 rfl)) (fun hw => ((hs.1 32 rfl 65 rfl).trans (hF 32 rfl hw))) (HB.out.2.2.2.2.2.2.2.2.2.2.2.2))⟩),
      q_of (.inr ⟨gk0 rfl, fun A w' γ hb hF hs => g_eq (op_move (.tmp 66) (.inr rfl) ((hs.1 33 rfl 66 rfl).trans (hF 33 rfl)))⟩),
      trivial⟩ ?_
    intro γ w4 hb4 hF
    have bz := bt bb hb4
    have ez : γ 34 = .bool f6 := hF 34 (by decide)
    simp only [Fr, if_true, Act.put, List.setIfInBounds_toArray, List.set_cons_zero, List.set_cons_succ]
    rw [ez]
    clear ez hF
    go_wp2
    go_ret
    exact ⟨by simp, bz⟩
  · go_wp2
    go_ret
    exact ⟨by simp, bb⟩
theorem betw_dec (x lo hi : Int) (h : lo ≤ hi) : (x == betw x lo hi) = (decide (lo ≤ x) && decide (x ≤ hi)) := by
  unfold betw
  rw [Bool.eq_iff_iff]
  split <;> split <;> simp <;> omega
theorem RSane_any (lim : Nat) (iv sp fu ix op : Int) (ca : Option Addr) (n c : Nat) (hl : lim < 4294967296) (r : Bool) (hr : saneR lim iv sp fu ix op n = r) (w : World) :
    Calls Try.prog 17 #[.agg (pcells lim iv sp fu ix op ca n c)] w fun q w' => q = .returned (.bool r) ∧ Below w.heap.size w w' := by
  have h := RSane_core lim (expR lim).1 n c (expR lim).2 iv sp fu ix op ca _ _ _ _ _ _ _ _ _ _ _ _ _ _ _ _ _ _ _ _ _ _ ⟨hl, rfl⟩ ⟨rfl, rfl, rfl, rfl, rfl, rfl, rfl, rfl, rfl⟩ ⟨rfl, rfl, rfl, rfl, rfl, rfl, rfl, rfl, rfl, rfl, rfl, rfl, rfl⟩ w
  have e : (!(((((decide (iv < 1) || decide (1048576 < iv)) || decide (sp < 4)) || decide (1099511627776 < sp)) || ((expR lim).2 != 0))) && ((((((decide (0 ≤ fu) && decide (fu ≤ 4294967296)) && decide (0 ≤ ix)) && decide (ix ≤ 1048576)) && decide (0 ≤ op)) && decide (op ≤ 1048576)) && decide ((n : Int) ≤ 100))) = r := by
    rw [← hr]
    unfold saneR
    simp only [List.all_cons, List.all_nil, id, betw_dec iv 1 1048576 (by decide), betw_dec sp 4 1099511627776 (by decide), betw_dec fu 0 4294967296 (by decide), betw_dec ix 0 1048576 (by decide), betw_dec op 0 1048576 (by decide)]
    rw [Bool.eq_iff_iff]
    simp
    omega
  rw [e] at h
  exact h
end Go.Proofs.Ytndockjflnicjaa
