/- The document's Shl, Shr. -/
import Derived.Test.YtndockjflnicjaaRefC
namespace Go.Proofs.Ytndockjflnicjaa
open Go.RowKit
set_option linter.unusedVariables false
theorem dig_shl (m N j : Nat) : dig (m * 2 ^ N) j = if N ≤ j then dig m (j - N) else 0 := by
  unfold dig
  by_cases h : N ≤ j
  · rw [if_pos h]
    have e : 2 ^ j = 2 ^ N * 2 ^ (j - N) := by rw [← Nat.pow_add]; congr 1; omega
    rw [e, ← Nat.div_div_eq_div_mul, Nat.mul_div_cancel _ (Nat.two_pow_pos N)]
  · rw [if_neg h]
    have e0 : 2 ^ N = 2 ^ j * (2 * 2 ^ (N - j - 1)) := by rw [← Nat.pow_succ', ← Nat.pow_add]; congr 1; omega
    have e : m * 2 ^ N = 2 ^ j * (2 * (m * 2 ^ (N - j - 1))) := by
      rw [e0, Nat.mul_left_comm, Nat.mul_left_comm m 2]
    rw [e, Nat.mul_div_cancel_left _ (Nat.two_pow_pos j), Nat.mul_mod_right]
    rfl
theorem dig_shr (m N j : Nat) : dig (m / 2 ^ N) j = dig m (j + N) := by
  unfold dig
  rw [Nat.div_div_eq_div_mul, ← Nat.pow_add, Nat.add_comm]
theorem dig_high (m i : Nat) (hm : m < T) (h : 256 ≤ i) : dig m i = 0 := by
  unfold dig
  rw [Nat.div_eq_of_lt (Nat.lt_of_lt_of_le hm (by rw [T_pow]; exact Nat.pow_le_pow_right (by decide) h))]
  rfl
def shlD (m N k j : Nat) : Int := if N ≤ j ∧ j < k + N then dig m (j - N) else 0
theorem shlD_zero (m N : Nat) : bc (shlD m N 0) = bc fun _ => 0 := bc_ext fun j _ => by unfold shlD; rw [if_neg (by omega)]
theorem shlD_set (m N k : Nat) (h : k + N < 256) : (bc (shlD m N k)).setIfInBounds (k + N) (.int .i64 (dig m k)) = bc (shlD m N (k + 1)) := by
  rw [bc_set _ _ h]
  apply bc_ext
  intro j hj
  unfold shlD
  by_cases e : j = k + N
  · subst e
    rw [if_pos rfl, if_pos (by omega)]
    congr 1
    omega
  · rw [if_neg e]
    by_cases h1 : N ≤ j ∧ j < k + N
    · rw [if_pos h1, if_pos (by omega)]
    · rw [if_neg h1, if_neg (by omega)]
theorem shlD_stay (m N k : Nat) (h : ¬ k + N < 256) : bc (shlD m N k) = bc (shlD m N (k + 1)) := by
  apply bc_ext
  intro j hj
  unfold shlD
  by_cases h1 : N ≤ j ∧ j < k + N
  · rw [if_pos h1, if_pos (by omega)]
  · rw [if_neg h1, if_neg (by omega)]
theorem shlD_full (m N : Nat) : bc (shlD m N 256) = bc (dig (m * 2 ^ N % T)) := by
  apply bc_ext
  intro j hj
  rw [dig_mod _ _ hj, dig_shl]
  unfold shlD
  by_cases h : N ≤ j
  · rw [if_pos h, if_pos (by omega)]
  · rw [if_neg h, if_neg (by omega)]
def lostV (m N k : Nat) : Bool := decide (2 ^ (256 - N) ≤ m % 2 ^ k)
theorem lostV_zero (m N : Nat) : lostV m N 0 = false := by
  unfold lostV
  rw [Nat.pow_zero, Nat.mod_one]
  have := Nat.two_pow_pos (256 - N)
  simp
theorem lostV_low (m N k : Nat) (h : k + N < 256) : lostV m N (k + 1) = lostV m N k := by
  have h1 := Nat.mod_lt m (Nat.two_pow_pos (k + 1))
  have h2 : (2 : Nat) ^ (k + 1) ≤ 2 ^ (256 - N) := Nat.pow_le_pow_right (by decide) (by omega)
  have h3 := Nat.mod_lt m (Nat.two_pow_pos k)
  have h4 : (2 : Nat) ^ k ≤ 2 ^ (256 - N) := Nat.pow_le_pow_right (by decide) (by omega)
  unfold lostV
  rw [decide_eq_false (by omega), decide_eq_false (by omega)]
theorem lostV_high (m N k : Nat) (h : ¬ k + N < 256) : lostV m N (k + 1) = (lostV m N k || decide (m / 2 ^ k % 2 = 1)) := by
  have h2 : (2 : Nat) ^ (256 - N) ≤ 2 ^ k := Nat.pow_le_pow_right (by decide) (by omega)
  unfold lostV
  rw [mod_succ]
  rcases (show m / 2 ^ k % 2 = 0 ∨ m / 2 ^ k % 2 = 1 by omega) with a | a <;> rw [a] <;> simp
  omega
theorem shlN_eq (m : Nat) (n : Int) (hm : m < T) : shlN m n = m * 2 ^ n.toNat % T := by
  unfold shlN
  by_cases h : n ≤ 0
  · rw [if_pos h, show n.toNat = 0 by omega, Nat.pow_zero, Nat.mul_one, Nat.mod_eq_of_lt hm]
  · rw [if_neg h]
theorem shlB_eq (m : Nat) (n : Int) (hm : m < T) : shlB m n = lostV m n.toNat 256 := by
  unfold shlB lostV
  rw [← T_pow, Nat.mod_eq_of_lt hm]
  by_cases h : n ≤ 0
  · rw [if_pos h, show n.toNat = 0 by omega, Nat.sub_zero, ← T_pow]
    simp; omega
  · rw [if_neg h]
    by_cases h2 : 256 ≤ n
    · rw [if_pos h2, show 256 - n.toNat = 0 by omega, Nat.pow_zero]
      congr 1
      rw [eq_iff_iff]
      omega
    · rw [if_neg h2]
      have := bl_lt m (256 - n.toNat)
      congr 1
      rw [eq_iff_iff]
      omega
theorem shrN_eq (m : Nat) (n : Int) : shrN m n = m / 2 ^ n.toNat := by
  unfold shrN
  by_cases h : n ≤ 0
  · rw [if_pos h, show n.toNat = 0 by omega, Nat.pow_zero, Nat.div_one]
  · rw [if_neg h]
set_option maxRecDepth 100000 in
set_option maxHeartbeats 2000000 in
theorem RShl_any (m : Nat) (n : Int) (w : World) (hm : m < T) (hn63 : n ≤ 9223372036854775807) :
    Calls Try.prog 39 #[uval m, .int .i64 n] w fun e w' => e = .returned (.tuple #[uval (shlN m n), .bool (shlB m n)]) ∧ Below w.heap.size w w' := by
  obtain ⟨r, hr⟩ : ∃ r, r = shlN m n := ⟨_, rfl⟩
  obtain ⟨b, hb⟩ : ∃ b, b = shlB m n := ⟨_, rfl⟩
  obtain ⟨N, hN⟩ : ∃ N, N = n.toNat := ⟨_, rfl⟩
  have hmx : max n 0 = (N : Int) := by omega
  have hN63 : N ≤ 9223372036854775807 := by omega
  rw [← hr, ← hb]
  rw [shlN_eq m n hm, ← hN] at hr
  rw [shlB_eq m n hm, ← hN] at hb
  have hrT : r < T := by rw [hr]; exact Nat.mod_lt _ (by decide)
  obtain ⟨D0, hD0⟩ : ∃ D, D = bc (dig m) := ⟨_, rfl⟩
  have sD0 : D0.size = 256 := by rw [hD0]; exact bc_size _
  have aD0 : D0.all (·.oneCell') = true := by rw [hD0]; exact bc_one _
  have iD0 := isB D0 sD0
  have cD0 := fun w => digits_any m w
  rw [← hD0] at cD0
  obtain ⟨Z, hZ⟩ : ∃ Z, Z = bc fun _ => 0 := ⟨_, rfl⟩
  have HA := allocZ_of hZ
  have sZ0 : Z.size = D0.size := by rw [sD0, hZ]; exact bc_size _
  have P := Lib.hid (And.intro hZ (And.intro hD0 (And.intro cD0 trivial))); clear hZ hD0 cD0 sD0
  have cN := fun w => number_any r hrT w
  have HC := Lib.hid (And.intro cN (And.intro hr hb)); clear cN hr hb hN hrT hn63
  unfold uval
  go_enter Try.func39, Try.ntmps39
  go_wp2_with fail
  refine (P.out.2.2.1 _).mono ?_
  rintro e w1 ⟨rfl, hb1⟩
  have A1 : Blk w1 (w.heap.size) 63 (ucells m) := ((Blk.newAt _ _ _ rfl).alloc _).calls hb1
  have A2 : Blk w1 (w.heap.size + 1) 63 (ucells 0) := (Blk.snd _ _ _ _).calls hb1
  have AB : Below w.heap.size w w1 := bt (ba (ba (Below.refl _ _) _) _) hb1
  clear hb1
  have l3 := A2.lt
  have N1 : Blk _ w1.heap.size 81 Z := Blk.new w1 81 Z
  have X1 := N1.row D0
  have B1 := (A1.alloc (.cells Z 81)).rowFar (b := w1.heap.size) (by omega) D0
  have B2 := (A2.alloc (.cells Z 81)).rowFar (b := w1.heap.size) (by omega) D0
  have BB := setRow_below (g := w1.heap.size) (ba AB (.cells Z 81)) AB.size D0
  have B4 : Blk (((w1.alloc (.cells Z 81)).setRow w1.heap.size D0).alloc (.cells Z 81)) (w1.heap.size + 1) 81 Z := Blk.newAt _ _ _ (by simp [World.setRow])
  have J := Lib.hid (And.intro (X1.alloc (.cells Z 81)) (And.intro (B2.alloc (.cells Z 81)) (And.intro B4 (ba BB (.cells Z 81))))); clear A1 A2 AB X1 B1 B2 B4 BB
  go_wp2_with (first | with_reducible refine HA.out rfl rfl ?_ | with_reducible refine ws_row N1 _ _ _ _ rfl rfl rfl rfl iD0 sZ0 aD0 ?_)
  clear N1
  generalize World.alloc _ _ = w3 at *
  go_loopw [8, 9] (fun l i wr => ∃ k : Nat, k ≤ 256 ∧ i = .int .i64 k ∧ l = .bool (lostV m N k) ∧ Blk wr w1.heap.size 81 D0 ∧ Blk wr (w1.heap.size + 1) 81 (bc (shlD m N k)) ∧ Blk wr (w.heap.size + 1) 63 (ucells 0) ∧ Below w.heap.size w wr) (fun _ i _ => 256 - (intOf i).toNat)
  case atStart =>
    refine ⟨0, by omega, rfl, by rw [lostV_zero], J.out.1, ?_, J.out.2.1, J.out.2.2.2⟩
    rw [shlD_zero, ← P.out.1]
    exact J.out.2.2.1
  case round =>
    obtain ⟨k, hk, rfl, rfl, h0, h1, h2, hb⟩ := hrel
    by_cases hlt : k < 256
    · obtain ⟨x, hx⟩ : ∃ x, x = m / 2 ^ k % 2 := ⟨_, rfl⟩
      have hx2 : x < 2 := by omega
      have ex : D0[k]? = some (.int .i64 (x : Nat)) := by rw [P.out.2.1, hx]; exact bc_at _ k hlt
      have cx := blk_get h0 k _ ex
      have k2 : (k : Int) < 256 := by omega
      by_cases hin : k + N < 256
      · have n2 : (N : Int) < 256 := by omega
        have kn2 : (k : Int) + (N : Int) < 256 := by omega
        have cy := blk_get h1 (k + N) _ (bc_at _ (k + N) hin)
        have f1 := h1.frozen (k + N)
        have dx : ((x : Nat) : Int) = dig m k := by rw [hx]; rfl
        have hlo := lostV_low m N k hin
        generalize hl0 : lostV m N k = l0 at *
        have J := Lib.hid (And.intro h0 (And.intro h1 (And.intro h2 (And.intro hb (And.intro dx (And.intro hlo hl0)))))); clear h0 h1 h2 hb dx hlo hl0 hx ex
        go_wp2
        go_roundw
        case rel =>
          refine ⟨k + 1, by omega, by go_num, by rw [J.out.2.2.2.2.2.1], J.out.1.far (by omega) _, ?_, J.out.2.2.1.far (by omega) _, J.out.2.2.2.1.setCell (by simp; omega) _⟩
          rw [J.out.2.2.2.2.1]
          exact (J.out.2.1.set_ (k + N) _).to (shlD_set m N k hin)
        case measure => simp [intOf]; omega
      · have hhi := lostV_high m N k hin
        have hst := shlD_stay m N k hin
        rw [← hx] at hhi
        cases hl0 : lostV m N k with
        | true =>
          rw [hl0, Bool.true_or] at hhi
          have J := Lib.hid (And.intro h0 (And.intro h1 (And.intro h2 (And.intro hb (And.intro hhi hst))))); clear h0 h1 h2 hb hhi hst hl0 hx ex
          by_cases hN : N < 256
          · have n2 : (N : Int) < 256 := by omega
            have kn2 : ¬ (k : Int) + (N : Int) < 256 := by omega
            go_wp2
            go_roundw
            case rel => exact ⟨k + 1, by omega, by go_num, by rw [J.out.2.2.2.2.1], J.out.1, J.out.2.1.to J.out.2.2.2.2.2, J.out.2.2.1, J.out.2.2.2.1⟩
            case measure => simp [intOf]; omega
          · have n2 : ¬ (N : Int) < 256 := by omega
            go_wp2
            go_roundw
            case rel => exact ⟨k + 1, by omega, by go_num, by rw [J.out.2.2.2.2.1], J.out.1, J.out.2.1.to J.out.2.2.2.2.2, J.out.2.2.1, J.out.2.2.2.1⟩
            case measure => simp [intOf]; omega
        | false =>
          rw [hl0, Bool.false_or] at hhi
          have hbx : ((x : Int) == 1) = lostV m N (k + 1) := by rw [hhi, Bool.eq_iff_iff]; simp; omega
          generalize hl1 : lostV m N (k + 1) = l1 at *
          have J := Lib.hid (And.intro h0 (And.intro h1 (And.intro h2 (And.intro hb (And.intro hl1 hst))))); clear h0 h1 h2 hb hhi hst hl0 hx ex hl1
          by_cases hN : N < 256
          · have n2 : (N : Int) < 256 := by omega
            have kn2 : ¬ (k : Int) + (N : Int) < 256 := by omega
            go_wp2
            go_roundw
            case rel => exact ⟨k + 1, by omega, by go_num, by rw [J.out.2.2.2.2.1], J.out.1, J.out.2.1.to J.out.2.2.2.2.2, J.out.2.2.1, J.out.2.2.2.1⟩
            case measure => simp [intOf]; omega
          · have n2 : ¬ (N : Int) < 256 := by omega
            go_wp2
            go_roundw
            case rel => exact ⟨k + 1, by omega, by go_num, by rw [J.out.2.2.2.2.1], J.out.1, J.out.2.1.to J.out.2.2.2.2.2, J.out.2.2.1, J.out.2.2.2.1⟩
            case measure => simp [intOf]; omega
    · obtain rfl : k = 256 := by omega
      rw [shlD_full, ← HC.out.2.1] at h1
      rw [← HC.out.2.2]
      obtain ⟨G, hG⟩ : ∃ G, G = bc (dig r) := ⟨_, rfl⟩
      have cN := HC.out.1
      rw [← hG] at h1 cN
      have sG : G.size = 256 := by rw [hG]; exact bc_size _
      have iG := isB G sG
      obtain ⟨U, hU⟩ : ∃ U, U = ucells r := ⟨_, rfl⟩
      have sU : U.size = 4 := by rw [hU]; rfl
      have aU : U.all (·.oneCell') = true := by rw [hU]; exact u_one _
      have iU := isR4 U sU
      have zU : (ucells 0).size = U.size := by rw [sU]; rfl
      have uU : uval r = .agg U := by rw [hU]; rfl
      rw [uU] at cN
      have J := Lib.hid (And.intro h1 (And.intro h2 (And.intro hb (And.intro hU cN)))); clear h0 h1 h2 hb hU cN uU hG sG sU
      go_wp2_with (with_reducible refine wl_row J.out.1 _ _ rfl rfl rfl _ _ Try.underlying81 iG ?_)
      refine (J.out.2.2.2.2 _).mono ?_
      rintro e w5 ⟨rfl, hb5⟩
      have D := Lib.hid (And.intro (J.out.2.1.calls hb5) (bt J.out.2.2.1 hb5)); clear hb5
      have D2 := Lib.hid J.out.2.2.2.1
      go_wp2_with (with_reducible refine ws_row D.out.1 _ _ _ _ rfl rfl rfl rfl iU zU aU ?_)
      refine bodyPost_ret (v := .tuple #[.agg U, .bool b]) ?_ rfl ⟨by rw [D2.out]; rfl, setRow_below D.out.2 (by omega) _⟩
      exact results_cs (p := 4) (s := 5) rfl _ _ _ _ _ rfl (D.out.1.row _) Try.underlying63 iU
set_option maxRecDepth 100000 in
set_option maxHeartbeats 2000000 in
theorem RShr_any (m : Nat) (n : Int) (w : World) (hm : m < T) (hn63 : n ≤ 9223372036854775807) :
    Calls Try.prog 38 #[uval m, .int .i64 n] w fun e w' => e = .returned (uval (shrN m n)) ∧ Below w.heap.size w w' := by
  obtain ⟨r, hr⟩ : ∃ r, r = shrN m n := ⟨_, rfl⟩
  obtain ⟨N, hN⟩ : ∃ N, N = n.toNat := ⟨_, rfl⟩
  have hmx : max n 0 = (N : Int) := by omega
  have hN63 : N ≤ 9223372036854775807 := by omega
  rw [← hr]
  rw [shrN_eq m n, ← hN] at hr
  have hrT : r < T := by rw [hr]; exact Nat.lt_of_le_of_lt (Nat.div_le_self _ _) hm
  obtain ⟨D0, hD0⟩ : ∃ D, D = bc (dig m) := ⟨_, rfl⟩
  have sD0 : D0.size = 256 := by rw [hD0]; exact bc_size _
  have aD0 : D0.all (·.oneCell') = true := by rw [hD0]; exact bc_one _
  have iD0 := isB D0 sD0
  have cD0 := fun w => digits_any m w
  rw [← hD0] at cD0
  obtain ⟨Z, hZ⟩ : ∃ Z, Z = bc fun _ => 0 := ⟨_, rfl⟩
  have HA := allocZ_of hZ
  have sZ0 : Z.size = D0.size := by rw [sD0, hZ]; exact bc_size _
  have P := Lib.hid (And.intro hZ (And.intro hD0 (And.intro cD0 trivial))); clear hZ hD0 cD0 sD0
  have cN := fun w => number_any r hrT w
  have HC := Lib.hid (And.intro cN (And.intro hr hm)); clear cN hr hm hN hrT hn63
  unfold uval
  go_enter Try.func38, Try.ntmps38
  go_wp2_with fail
  refine (P.out.2.2.1 _).mono ?_
  rintro e w1 ⟨rfl, hb1⟩
  have A1 : Blk w1 (w.heap.size) 63 (ucells m) := ((Blk.newAt _ _ _ rfl).alloc _).calls hb1
  have A2 : Blk w1 (w.heap.size + 1) 63 (ucells 0) := (Blk.snd _ _ _ _).calls hb1
  have AB : Below w.heap.size w w1 := bt (ba (ba (Below.refl _ _) _) _) hb1
  clear hb1
  have l3 := A2.lt
  have N1 : Blk _ w1.heap.size 81 Z := Blk.new w1 81 Z
  have X1 := N1.row D0
  have B1 := (A1.alloc (.cells Z 81)).rowFar (b := w1.heap.size) (by omega) D0
  have B2 := (A2.alloc (.cells Z 81)).rowFar (b := w1.heap.size) (by omega) D0
  have BB := setRow_below (g := w1.heap.size) (ba AB (.cells Z 81)) AB.size D0
  have B4 : Blk (((w1.alloc (.cells Z 81)).setRow w1.heap.size D0).alloc (.cells Z 81)) (w1.heap.size + 1) 81 Z := Blk.newAt _ _ _ (by simp [World.setRow])
  have J := Lib.hid (And.intro (X1.alloc (.cells Z 81)) (And.intro (B2.alloc (.cells Z 81)) (And.intro B4 (ba BB (.cells Z 81))))); clear A1 A2 AB X1 B1 B2 B4 BB
  go_wp2_with (first | with_reducible refine HA.out rfl rfl ?_ | with_reducible refine ws_row N1 _ _ _ _ rfl rfl rfl rfl iD0 sZ0 aD0 ?_)
  clear N1
  generalize World.alloc _ _ = w3 at *
  go_loopw [7] (fun i wr => ∃ k : Nat, k ≤ 256 ∧ i = .int .i64 k ∧ Blk wr w1.heap.size 81 D0 ∧ Blk wr (w1.heap.size + 1) 81 (bc (mixD (dig r) (fun _ => 0) k)) ∧ Blk wr (w.heap.size + 1) 63 (ucells 0) ∧ Below w.heap.size w wr) (fun i _ => 256 - (intOf i).toNat)
  case atStart =>
    refine ⟨0, by omega, rfl, J.out.1, ?_, J.out.2.1, J.out.2.2.2⟩
    rw [mixD_zero, ← P.out.1]
    exact J.out.2.2.1
  case round =>
    obtain ⟨k, hk, rfl, h0, h1, h2, hb⟩ := hrel
    have dr : dig r k = dig m (k + N) := by rw [HC.out.2.1, dig_shr]
    by_cases hlt : k < 256 ∧ N < 256
    · obtain ⟨hlt, hN2⟩ := hlt
      have k2 : (k : Int) < 256 := by omega
      have n2 : (N : Int) < 256 := by omega
      by_cases hin : k + N < 256
      · obtain ⟨x, hx⟩ : ∃ x, x = m / 2 ^ (k + N) % 2 := ⟨_, rfl⟩
        have kn2 : (k : Int) + (N : Int) < 256 := by omega
        have ex : D0[k + N]? = some (.int .i64 (x : Nat)) := by rw [P.out.2.1, hx]; exact bc_at _ (k + N) hin
        have cx := blk_get h0 (k + N) _ ex
        have dx : ((x : Nat) : Int) = dig r k := by rw [dr, hx]; rfl
        have cy := blk_get h1 k _ (bc_at _ k hlt)
        have f1 := h1.frozen k
        have J := Lib.hid (And.intro h0 (And.intro h1 (And.intro h2 (And.intro hb dx)))); clear h0 h1 h2 hb dx dr hx ex
        go_wp2
        go_roundw
        case rel =>
          refine ⟨k + 1, by omega, by go_num, J.out.1.far (by omega) _, ?_, J.out.2.2.1.far (by omega) _, J.out.2.2.2.1.setCell (by simp; omega) _⟩
          rw [J.out.2.2.2.2]
          exact (J.out.2.1.set_ k _).to (mixD_set (dig r) (fun _ => 0) k hlt)
        case measure => simp [intOf]; omega
      · have kn2 : ¬ (k : Int) + (N : Int) < 256 := by omega
        have d0 : dig r k = 0 := by rw [dr]; exact dig_high m _ HC.out.2.2 (by omega)
        have J := Lib.hid (And.intro h0 (And.intro h1 (And.intro h2 (And.intro hb d0)))); clear h0 h1 h2 hb d0 dr
        go_wp2
        go_roundw
        case rel =>
          refine ⟨k + 1, by omega, by go_num, J.out.1, J.out.2.1.to ?_, J.out.2.2.1, J.out.2.2.2.1⟩
          rw [← mixD_set (dig r) (fun _ => 0) k hlt, J.out.2.2.2.2]
          rw [bc_set _ _ hlt]
          apply bc_ext
          intro j hj
          by_cases e : j = k
          · subst e; rw [if_pos rfl, mixD_at]
          · rw [if_neg e]
        case measure => simp [intOf]; omega
    · have hfull : bc (mixD (dig r) (fun _ => 0) k) = bc (dig r) := by
        by_cases h256 : k = 256
        · rw [h256, mixD_full]
        · apply bc_ext
          intro j hj
          unfold mixD
          split
          · rfl
          · rw [HC.out.2.1, dig_shr, dig_high m _ HC.out.2.2 (by omega)]
      rw [hfull] at h1
      have hlt' : ¬ (k : Int) < 256 ∨ ((k : Int) < 256 ∧ ¬ (N : Int) < 256) := by omega
      clear hfull dr hlt
      obtain ⟨G, hG⟩ : ∃ G, G = bc (dig r) := ⟨_, rfl⟩
      have cN := HC.out.1
      rw [← hG] at h1 cN
      have sG : G.size = 256 := by rw [hG]; exact bc_size _
      have iG := isB G sG
      obtain ⟨U, hU⟩ : ∃ U, U = ucells r := ⟨_, rfl⟩
      have sU : U.size = 4 := by rw [hU]; rfl
      have aU : U.all (·.oneCell') = true := by rw [hU]; exact u_one _
      have iU := isR4 U sU
      have zU : (ucells 0).size = U.size := by rw [sU]; rfl
      have uU : uval r = .agg U := by rw [hU]; rfl
      rw [uU] at cN
      have J := Lib.hid (And.intro h1 (And.intro h2 (And.intro hb (And.intro hU cN)))); clear h0 h1 h2 hb hU cN uU hG sG sU
      rcases hlt' with k2 | ⟨k2, n2⟩
      · go_wp2_with (with_reducible refine wl_row J.out.1 _ _ rfl rfl rfl _ _ Try.underlying81 iG ?_)
        refine (J.out.2.2.2.2 _).mono ?_
        rintro e w5 ⟨rfl, hb5⟩
        have D := Lib.hid (And.intro (J.out.2.1.calls hb5) (bt J.out.2.2.1 hb5)); clear hb5
        have D2 := Lib.hid J.out.2.2.2.1
        go_wp2_with (with_reducible refine ws_row D.out.1 _ _ _ _ rfl rfl rfl rfl iU zU aU ?_)
        refine bodyPost_ret (v := .agg U) ?_ rfl ⟨by rw [D2.out]; rfl, setRow_below D.out.2 (by omega) _⟩
        exact results_cell_row rfl _ _ _ _ _ (0, 0) _ rfl (D.out.1.row _) Try.underlying63 rfl iU
      · go_wp2_with (with_reducible refine wl_row J.out.1 _ _ rfl rfl rfl _ _ Try.underlying81 iG ?_)
        refine (J.out.2.2.2.2 _).mono ?_
        rintro e w5 ⟨rfl, hb5⟩
        have D := Lib.hid (And.intro (J.out.2.1.calls hb5) (bt J.out.2.2.1 hb5)); clear hb5
        have D2 := Lib.hid J.out.2.2.2.1
        go_wp2_with (with_reducible refine ws_row D.out.1 _ _ _ _ rfl rfl rfl rfl iU zU aU ?_)
        refine bodyPost_ret (v := .agg U) ?_ rfl ⟨by rw [D2.out]; rfl, setRow_below D.out.2 (by omega) _⟩
        exact results_cell_row rfl _ _ _ _ _ (0, 0) _ rfl (D.out.1.row _) Try.underlying63 rfl iU
end Go.Proofs.Ytndockjflnicjaa
