/- The document's Mul. -/
import Derived.Test.YtndockjflnicjaaRefD
import Derived.Test.YtndockjflnicjaaU256e
namespace Go.Proofs.Ytndockjflnicjaa
open Go.RowKit
set_option linter.unusedVariables false
theorem over_iff (m j : Nat) (hm : m < T) (hj : j ≤ 256) : lostV m j 256 = decide (T ≤ m * 2 ^ j) := by
  unfold lostV
  rw [← T_pow, Nat.mod_eq_of_lt hm]
  congr 1
  rw [eq_iff_iff]
  have hT : T = 2 ^ (256 - j) * 2 ^ j := by rw [← Nat.pow_add, T_pow]; congr 1; omega
  rw [hT]
  exact ⟨fun h => Nat.mul_le_mul_right _ h, fun h => Nat.le_of_mul_le_mul_right h (Nat.two_pow_pos j)⟩
theorem mul_step (S x r : Nat) (c : Bool) (h : SumIs (S % T) (x % T) r c) : r = (S + x) % T ∧ decide (T ≤ S + x) = (decide (T ≤ S) || decide (T ≤ x) || c) := by
  obtain ⟨_, _, hr, he⟩ := h
  have hT : 0 < T := by decide
  constructor
  · rw [Nat.add_mod, he]
    cases c
    · simp; rw [Nat.mod_eq_of_lt hr]
    · simp; rw [Nat.mod_eq_of_lt hr]
  · by_cases h1 : T ≤ S
    · rw [decide_eq_true h1, decide_eq_true (by omega)]; rfl
    · by_cases h2 : T ≤ x
      · rw [decide_eq_true h2, decide_eq_true (by omega)]; simp
      · rw [Nat.mod_eq_of_lt (by omega), Nat.mod_eq_of_lt (by omega)] at he
        rw [decide_eq_false h1, decide_eq_false h2]
        cases c
        · simp at he; rw [decide_eq_false (by omega)]; rfl
        · simp at he; rw [decide_eq_true (by omega)]; rfl
set_option maxRecDepth 100000 in
set_option maxHeartbeats 4000000 in
theorem RMul_any (m k r : Nat) (b : Bool) (w : World) (h : ProdIs m k r b) :
    Calls Try.prog 41 #[uval m, .int .u64 k] w fun e w' => e = .returned (.tuple #[uval r, .bool b]) ∧ Below w.heap.size w w' := by
  obtain ⟨hm, hk, hrT, hr, hb⟩ := h
  have q0 := uval_zero0
  have HC := Lib.hid (And.intro hm (And.intro hr (And.intro hb hk))); clear hm hr hb hrT
  have e0 : ucells 0 = ucells (m * (k % 2 ^ 0) % T) := by simp [Nat.mod_one]
  unfold uval
  go_enter Try.func41, Try.ntmps41
  go_wp2
  go_loopw [7, 8] (fun l i wr => ∃ j : Nat, j ≤ 64 ∧ i = .int .i64 j ∧ l = .bool (decide (T ≤ m * (k % 2 ^ j))) ∧ Blk wr w.heap.size 63 (ucells m) ∧ Blk wr (w.heap.size + 1) 63 (ucells 0) ∧ Blk wr (w.heap.size + 2) 63 (ucells (m * (k % 2 ^ j) % T)) ∧ Below w.heap.size w wr) (fun _ i _ => 64 - (intOf i).toNat)
  case atStart =>
    refine ⟨0, by omega, rfl, ?_, ((Blk.newAt _ _ _ rfl).alloc _).alloc _, (Blk.snd _ _ _ _).alloc _, ?_, ba (ba (ba (Below.refl _ _) _) _) _⟩
    · rw [Nat.pow_zero, Nat.mod_one, Nat.mul_zero]; rfl
    · rw [← e0]; exact Blk.newAt _ _ _ (by simp)
  case round =>
    obtain ⟨j, hj, rfl, rfl, h0, h1, h2, hbb⟩ := hrel
    clear e0
    by_cases hlt : j < 64
    · obtain ⟨x, hx⟩ : ∃ x, x = k / 2 ^ j % 2 := ⟨_, rfl⟩
      have hx2 : x < 2 := by omega
      have vb : bits .and .u64 ((k : Nat) / 2 ^ j : Int) 1 = (x : Int) := by rw [bit_u64 _ _ HC.out.2.2.2, hx]
      have ms := mod_succ k j
      rw [← hx] at ms
      have k0 : 0 ≤ (k : Int) := by omega
      have k1 : (k : Int) ≤ 18446744073709551615 := by have := HC.out.2.2.2; unfold W64 at this; omega
      have j2 : (j : Int) < 64 := by omega
      obtain ⟨S, hS⟩ : ∃ S, S = m * (k % 2 ^ j) := ⟨_, rfl⟩
      rw [← hS] at h2
      rw [← hS]
      by_cases hx1 : x = 1
      · subst hx1
        have hS' : m * (k % 2 ^ (j + 1)) = S + m * 2 ^ j := by rw [ms, Nat.one_mul, Nat.mul_add, hS]
        have hT : 0 < T := by decide
        obtain ⟨q, c, hsum⟩ := sum_ex (S % T) (m * 2 ^ j % T) (Nat.mod_lt _ hT) (Nat.mod_lt _ hT)
        obtain ⟨hq, hov⟩ := mul_step S (m * 2 ^ j) q c hsum
        have cSh := fun w => RShl_any m (j : Int) w HC.out.1 (by omega)
        rw [shlN_eq m (j : Int) HC.out.1, shlB_eq m (j : Int) HC.out.1, Int.toNat_natCast, over_iff m j HC.out.1 (by omega)] at cSh
        obtain ⟨X, hX⟩ : ∃ X, X = m * 2 ^ j % T := ⟨_, rfl⟩
        obtain ⟨s, hs⟩ : ∃ s, s = S % T := ⟨_, rfl⟩
        rw [← hX] at cSh hsum
        rw [← hs] at h2 hsum
        generalize hl0 : decide (T ≤ S) = l0 at *
        generalize hl1 : decide (T ≤ m * 2 ^ j) = l1 at *
        have c0 := cl4 h0
        have l2 := h2.lt
        have G := Lib.hid (And.intro h0 (And.intro h1 (And.intro h2 (And.intro hbb (And.intro cSh (And.intro hsum (And.intro hq (And.intro hov hS')))))))); clear h0 h1 h2 hbb cSh hsum hov hq hX hs hS hl0 hl1 hx ms
        go_wp2_with fail
        refine (G.out.2.2.2.2.1 _).mono ?_
        rintro e w2 ⟨rfl, hb2⟩
        simp only [uval]
        clear c0
        have B0 := G.out.1.calls hb2; have B1 := G.out.2.1.calls hb2; have B2 := G.out.2.2.1.calls hb2; have BB := bt G.out.2.2.2.1 hb2
        have c2 := cl4 B2
        have l2' := B2.lt
        have G2 := Lib.hid (And.intro B0 (And.intro B1 (And.intro B2 BB))); clear B0 B1 B2 BB hb2
        go_wp2_with fail
        refine (RAdd_any s X q c _ G.out.2.2.2.2.2.1).mono ?_
        rintro e w3 ⟨rfl, hb3⟩
        simp only [uval]
        clear c2
        have B0 := (G2.out.1.alloc _).calls hb3; have B1 := (G2.out.2.1.alloc _).calls hb3; have B2 := (G2.out.2.2.1.alloc _).calls hb3; have BB := bt (ba G2.out.2.2.2 _) hb3
        have c2 := clf B2
        have l3 := B2.lt
        have G3 := Lib.hid (And.intro B0 (And.intro B1 (And.intro B2 BB))); clear B0 B1 B2 BB hb3 G2
        cases l0 <;> cases l1 <;> cases c
        all_goals
          go_wp2
          go_roundw
          case rel =>
            obtain ⟨g0, g1, g2, g3⟩ := G3.out
            have hq := G.out.2.2.2.2.2.2.1
            have hov := G.out.2.2.2.2.2.2.2.1
            have hS' := G.out.2.2.2.2.2.2.2.2
            have D0 : Blk ((fillW w3 (w.heap.size + 2) q).alloc (.cells (ucells q) 63)) w.heap.size 63 (ucells m) := (g0.fillFar (by omega)).alloc _
            have D1 : Blk ((fillW w3 (w.heap.size + 2) q).alloc (.cells (ucells q) 63)) (w.heap.size + 1) 63 (ucells 0) := (g1.fillFar (by omega)).alloc _
            have D2 : Blk ((fillW w3 (w.heap.size + 2) q).alloc (.cells (ucells q) 63)) (w.heap.size + 2) 63 (ucells q) := (g2.fillAt).alloc _
            have DB : Below w.heap.size w ((fillW w3 (w.heap.size + 2) q).alloc (.cells (ucells q) 63)) := ba (fill_below g3 (by omega)) _
            refine ⟨j + 1, by omega, by go_num, ?_, D0, D1, ?_, DB⟩
            · rw [hS', hov]; rfl
            · rw [hS', ← hq]; exact D2
          case measure => simp [intOf]; omega
      · have hx0 : x = 0 := by omega
        have hb1 : ((x : Int) == 1) = false := by rw [hx0]; rfl
        have hS' : m * (k % 2 ^ (j + 1)) = S := by rw [ms, hx0, Nat.zero_mul, Nat.add_zero, hS]
        have G := Lib.hid (And.intro h0 (And.intro h1 (And.intro h2 (And.intro hbb hS')))); clear h0 h1 h2 hbb hS' hx ms hS hx0
        go_wp2
        go_roundw
        case rel => exact ⟨j + 1, by omega, by go_num, by rw [G.out.2.2.2.2], G.out.1, G.out.2.1, by rw [G.out.2.2.2.2]; exact G.out.2.2.1, G.out.2.2.2.1⟩
        case measure => simp [intOf]; omega
    · obtain rfl : j = 64 := by omega
      have hk64 : k % 2 ^ 64 = k := Nat.mod_eq_of_lt (by rw [← W64_pow]; exact HC.out.2.2.2)
      rw [hk64, ← HC.out.2.1] at h2
      rw [hk64, ← HC.out.2.2.1]
      obtain ⟨U, hU⟩ : ∃ U, U = ucells r := ⟨_, rfl⟩
      have sU : U.size = 4 := by rw [hU]; rfl
      have aU : U.all (·.oneCell') = true := by rw [hU]; exact u_one _
      have iU := isR4 U sU
      have zU : (ucells 0).size = U.size := by rw [sU]; rfl
      rw [← hU] at h2
      have D := Lib.hid (And.intro h1 (And.intro h2 (And.intro hbb hU))); clear h0 h1 h2 hbb hU sU hk64
      go_wp2_with (first | with_reducible refine wl_row D.out.2.1 _ _ rfl rfl rfl _ _ Try.underlying63 iU ?_ | with_reducible refine ws_row D.out.1 _ _ _ _ rfl rfl rfl rfl iU zU aU ?_)
      refine bodyPost_ret (v := .tuple #[.agg U, .bool b]) ?_ rfl ⟨by rw [D.out.2.2.2]; rfl, setRow_below D.out.2.2.1 (by omega) _⟩
      exact results_cs (p := 4) (s := 5) rfl _ _ _ _ _ rfl (D.out.1.row _) Try.underlying63 iU
end Go.Proofs.Ytndockjflnicjaa
