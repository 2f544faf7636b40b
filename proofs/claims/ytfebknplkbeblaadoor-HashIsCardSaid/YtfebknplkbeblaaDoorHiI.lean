/- The document's Shl, Shr. The document's Bytes, FromBytes. What sha2.Write comes to, of a state with no rest. -/
import Derived.Test.YtfebknplkbeblaaDoorHiH
import Derived.Test.YtfebknplkbeblaaDoorHiC
import Derived.Test.YtfebknplkbeblaaDoorHiD
import Derived.Test.YtfebknplkbeblaaDoorHiE
namespace Go.Proofs.YtfebknplkbeblaaDoor
open Go.RowKit
set_option linter.unusedVariables false
theorem dig_shl (m N j : Nat) : dig (m * 2 ^ N) j = if N ≤ j then dig m (j - N) else 0 := by
  unfold dig
  by_cases h : N ≤ j
  · rw [if_pos h]
    have e : 2 ^ j = 2 ^ N * 2 ^ (j - N) := by rw [← Nat.pow_add]; congr 1; omega
    rw [e, ← Nat.div_div_eq_div_mul, Nat.mul_div_cancel _ (Nat.two_pow_pos N)]
  · rw [if_neg h]
    have e0 : 2 ^ N = 2 ^ j * (2 * 2 ^ (N - j - 1)) := by rw [← Nat.pow_succ', ← Nat.pow_add]; congr 1; omega
    have e : m * 2 ^ N = 2 ^ j * (2 * (m * 2 ^ (N - j - 1))) := by
      rw [e0, Nat.mul_left_comm, Nat.mul_left_comm m 2]
    rw [e, Nat.mul_div_cancel_left _ (Nat.two_pow_pos j), Nat.mul_mod_right]
    rfl
theorem dig_shr (m N j : Nat) : dig (m / 2 ^ N) j = dig m (j + N) := by
  unfold dig
  rw [Nat.div_div_eq_div_mul, ← Nat.pow_add, Nat.add_comm]
theorem dig_high (m i : Nat) (hm : m < T) (h : 256 ≤ i) : dig m i = 0 := by
  unfold dig
  rw [Nat.div_eq_of_lt (Nat.lt_of_lt_of_le hm (by rw [T_pow]; exact Nat.pow_le_pow_right (by decide) h))]
  rfl
def shlD (m N k j : Nat) : Int := if N ≤ j ∧ j < k + N then dig m (j - N) else 0
theorem shlD_zero (m N : Nat) : bc (shlD m N 0) = bc fun _ => 0 := bc_ext fun j _ => by unfold shlD; rw [if_neg (by omega)]
theorem shlD_set (m N k : Nat) (h : k + N < 256) : (bc (shlD m N k)).setIfInBounds (k + N) (.int .i64 (dig m k)) = bc (shlD m N (k + 1)) := by
  rw [bc_set _ _ h]
  apply bc_ext
  intro j hj
  unfold shlD
  by_cases e : j = k + N
  · subst e
    rw [if_pos rfl, if_pos (by omega)]
    congr 1
    omega
  · rw [if_neg e]
    by_cases h1 : N ≤ j ∧ j < k + N
    · rw [if_pos h1, if_pos (by omega)]
    · rw [if_neg h1, if_neg (by omega)]
theorem shlD_stay (m N k : Nat) (h : ¬ k + N < 256) : bc (shlD m N k) = bc (shlD m N (k + 1)) := by
  apply bc_ext
  intro j hj
  unfold shlD
  by_cases h1 : N ≤ j ∧ j < k + N
  · rw [if_pos h1, if_pos (by omega)]
  · rw [if_neg h1, if_neg (by omega)]
theorem shlD_full (m N : Nat) : bc (shlD m N 256) = bc (dig (m * 2 ^ N % T)) := by
  apply bc_ext
  intro j hj
  rw [dig_mod _ _ hj, dig_shl]
  unfold shlD
  by_cases h : N ≤ j
  · rw [if_pos h, if_pos (by omega)]
  · rw [if_neg h, if_neg (by omega)]
def lostV (m N k : Nat) : Bool := decide (2 ^ (256 - N) ≤ m % 2 ^ k)
theorem lostV_zero (m N : Nat) : lostV m N 0 = false := by
  unfold lostV
  rw [Nat.pow_zero, Nat.mod_one]
  have := Nat.two_pow_pos (256 - N)
  simp
theorem lostV_low (m N k : Nat) (h : k + N < 256) : lostV m N (k + 1) = lostV m N k := by
  have h1 := Nat.mod_lt m (Nat.two_pow_pos (k + 1))
  have h2 : (2 : Nat) ^ (k + 1) ≤ 2 ^ (256 - N) := Nat.pow_le_pow_right (by decide) (by omega)
  have h3 := Nat.mod_lt m (Nat.two_pow_pos k)
  have h4 : (2 : Nat) ^ k ≤ 2 ^ (256 - N) := Nat.pow_le_pow_right (by decide) (by omega)
  unfold lostV
  rw [decide_eq_false (by omega), decide_eq_false (by omega)]
theorem lostV_high (m N k : Nat) (h : ¬ k + N < 256) : lostV m N (k + 1) = (lostV m N k || decide (m / 2 ^ k % 2 = 1)) := by
  have h2 : (2 : Nat) ^ (256 - N) ≤ 2 ^ k := Nat.pow_le_pow_right (by decide) (by omega)
  unfold lostV
  rw [mod_succ]
  rcases (show m / 2 ^ k % 2 = 0 ∨ m / 2 ^ k % 2 = 1 by omega) with a | a <;> rw [a] <;> simp
  omega
theorem shlN_eq (m : Nat) (n : Int) (hm : m < T) : shlN m n = m * 2 ^ n.toNat % T := by
  unfold shlN
  by_cases h : n ≤ 0
  · rw [if_pos h, show n.toNat = 0 by omega, Nat.pow_zero, Nat.mul_one, Nat.mod_eq_of_lt hm]
  · rw [if_neg h]
theorem shlB_eq (m : Nat) (n : Int) (hm : m < T) : shlB m n = lostV m n.toNat 256 := by
  unfold shlB lostV
  rw [← T_pow, Nat.mod_eq_of_lt hm]
  by_cases h : n ≤ 0
  · rw [if_pos h, show n.toNat = 0 by omega, Nat.sub_zero, ← T_pow]
    simp; omega
  · rw [if_neg h]
    by_cases h2 : 256 ≤ n
    · rw [if_pos h2, show 256 - n.toNat = 0 by omega, Nat.pow_zero]
      congr 1
      rw [eq_iff_iff]
      omega
    · rw [if_neg h2]
      have := bl_lt m (256 - n.toNat)
      congr 1
      rw [eq_iff_iff]
      omega
theorem shrN_eq (m : Nat) (n : Int) : shrN m n = m / 2 ^ n.toNat := by
  unfold shrN
  by_cases h : n ≤ 0
  · rw [if_pos h, show n.toNat = 0 by omega, Nat.pow_zero, Nat.div_one]
  · rw [if_neg h]
set_option maxRecDepth 100000 in
set_option maxHeartbeats 2000000 in
theorem RShl_any (m : Nat) (n : Int) (w : World) (hm : m < T) (hn63 : n ≤ 9223372036854775807) :
    Calls Tryd.prog 78 #[uval m, .int .i64 n] w fun e w' => e = .returned (.tuple #[uval (shlN m n), .bool (shlB m n)]) ∧ Below w.heap.size w w' := by
  obtain ⟨r, hr⟩ : ∃ r, r = shlN m n := ⟨_, rfl⟩
  obtain ⟨b, hb⟩ : ∃ b, b = shlB m n := ⟨_, rfl⟩
  obtain ⟨N, hN⟩ : ∃ N, N = n.toNat := ⟨_, rfl⟩
  have hmx : max n 0 = (N : Int) := by omega
  have hN63 : N ≤ 9223372036854775807 := by omega
  rw [← hr, ← hb]
  rw [shlN_eq m n hm, ← hN] at hr
  rw [shlB_eq m n hm, ← hN] at hb
  have hrT : r < T := by rw [hr]; exact Nat.mod_lt _ (by decide)
  obtain ⟨D0, hD0⟩ : ∃ D, D = bc (dig m) := ⟨_, rfl⟩
  have sD0 : D0.size = 256 := by rw [hD0]; exact bc_size _
  have aD0 : D0.all (·.oneCell') = true := by rw [hD0]; exact bc_one _
  have iD0 := isB D0 sD0
  have cD0 := fun w => digits_any m w
  rw [← hD0] at cD0
  obtain ⟨Z, hZ⟩ : ∃ Z, Z = bc fun _ => 0 := ⟨_, rfl⟩
  have HA := allocZ_of hZ
  have sZ0 : Z.size = D0.size := by rw [sD0, hZ]; exact bc_size _
  have P := Lib.hid (And.intro hZ (And.intro hD0 (And.intro cD0 trivial))); clear hZ hD0 cD0 sD0
  have cN := fun w => number_any r hrT w
  have HC := Lib.hid (And.intro cN (And.intro hr hb)); clear cN hr hb hN hrT hn63
  unfold uval
  go_enter Tryd.func78, Tryd.ntmps78
  go_wp2_with fail
  refine (P.out.2.2.1 _).mono ?_
  rintro e w1 ⟨rfl, hb1⟩
  have A1 : Blk w1 (w.heap.size) 58 (ucells m) := ((Blk.newAt _ _ _ rfl).alloc _).calls hb1
  have A2 : Blk w1 (w.heap.size + 1) 58 (ucells 0) := (Blk.snd _ _ _ _).calls hb1
  have AB : Below w.heap.size w w1 := bt (ba (ba (Below.refl _ _) _) _) hb1
  clear hb1
  have l3 := A2.lt
  have N1 : Blk _ w1.heap.size 101 Z := Blk.new w1 101 Z
  have X1 := N1.row D0
  have B1 := (A1.alloc (.cells Z 101)).rowFar (b := w1.heap.size) (by omega) D0
  have B2 := (A2.alloc (.cells Z 101)).rowFar (b := w1.heap.size) (by omega) D0
  have BB := setRow_below (g := w1.heap.size) (ba AB (.cells Z 101)) AB.size D0
  have B4 : Blk (((w1.alloc (.cells Z 101)).setRow w1.heap.size D0).alloc (.cells Z 101)) (w1.heap.size + 1) 101 Z := Blk.newAt _ _ _ (by simp [World.setRow])
  have J := Lib.hid (And.intro (X1.alloc (.cells Z 101)) (And.intro (B2.alloc (.cells Z 101)) (And.intro B4 (ba BB (.cells Z 101))))); clear A1 A2 AB X1 B1 B2 B4 BB
  go_wp2_with (first | with_reducible refine HA.out rfl rfl ?_ | with_reducible refine ws_row N1 _ _ _ _ rfl rfl rfl rfl iD0 sZ0 aD0 ?_)
  clear N1
  generalize World.alloc _ _ = w3 at *
  go_loopw [8, 9] (fun l i wr => ∃ k : Nat, k ≤ 256 ∧ i = .int .i64 k ∧ l = .bool (lostV m N k) ∧ Blk wr w1.heap.size 101 D0 ∧ Blk wr (w1.heap.size + 1) 101 (bc (shlD m N k)) ∧ Blk wr (w.heap.size + 1) 58 (ucells 0) ∧ Below w.heap.size w wr) (fun _ i _ => 256 - (intOf i).toNat)
  case atStart =>
    refine ⟨0, by omega, rfl, by rw [lostV_zero], J.out.1, ?_, J.out.2.1, J.out.2.2.2⟩
    rw [shlD_zero, ← P.out.1]
    exact J.out.2.2.1
  case round =>
    obtain ⟨k, hk, rfl, rfl, h0, h1, h2, hb⟩ := hrel
    by_cases hlt : k < 256
    · obtain ⟨x, hx⟩ : ∃ x, x = m / 2 ^ k % 2 := ⟨_, rfl⟩
      have hx2 : x < 2 := by omega
      have ex : D0[k]? = some (.int .i64 (x : Nat)) := by rw [P.out.2.1, hx]; exact bc_at _ k hlt
      have cx := blk_get h0 k _ ex
      have k2 : (k : Int) < 256 := by omega
      by_cases hin : k + N < 256
      · have n2 : (N : Int) < 256 := by omega
        have kn2 : (k : Int) + (N : Int) < 256 := by omega
        have cy := blk_get h1 (k + N) _ (bc_at _ (k + N) hin)
        have f1 := h1.frozen (k + N)
        have dx : ((x : Nat) : Int) = dig m k := by rw [hx]; rfl
        have hlo := lostV_low m N k hin
        generalize hl0 : lostV m N k = l0 at *
        have J := Lib.hid (And.intro h0 (And.intro h1 (And.intro h2 (And.intro hb (And.intro dx (And.intro hlo hl0)))))); clear h0 h1 h2 hb dx hlo hl0 hx ex
        go_wp2
        go_roundw
        case rel =>
          refine ⟨k + 1, by omega, by go_num, by rw [J.out.2.2.2.2.2.1], J.out.1.far (by omega) _, ?_, J.out.2.2.1.far (by omega) _, J.out.2.2.2.1.setCell (by simp; omega) _⟩
          rw [J.out.2.2.2.2.1]
          exact (J.out.2.1.set_ (k + N) _).to (shlD_set m N k hin)
        case measure => simp [intOf]; omega
      · have hhi := lostV_high m N k hin
        have hst := shlD_stay m N k hin
        rw [← hx] at hhi
        cases hl0 : lostV m N k with
        | true =>
          rw [hl0, Bool.true_or] at hhi
          have J := Lib.hid (And.intro h0 (And.intro h1 (And.intro h2 (And.intro hb (And.intro hhi hst))))); clear h0 h1 h2 hb hhi hst hl0 hx ex
          by_cases hN : N < 256
          · have n2 : (N : Int) < 256 := by omega
            have kn2 : ¬ (k : Int) + (N : Int) < 256 := by omega
            go_wp2
            go_roundw
            case rel => exact ⟨k + 1, by omega, by go_num, by rw [J.out.2.2.2.2.1], J.out.1, J.out.2.1.to J.out.2.2.2.2.2, J.out.2.2.1, J.out.2.2.2.1⟩
            case measure => simp [intOf]; omega
          · have n2 : ¬ (N : Int) < 256 := by omega
            go_wp2
            go_roundw
            case rel => exact ⟨k + 1, by omega, by go_num, by rw [J.out.2.2.2.2.1], J.out.1, J.out.2.1.to J.out.2.2.2.2.2, J.out.2.2.1, J.out.2.2.2.1⟩
            case measure => simp [intOf]; omega
        | false =>
          rw [hl0, Bool.false_or] at hhi
          have hbx : ((x : Int) == 1) = lostV m N (k + 1) := by rw [hhi, Bool.eq_iff_iff]; simp; omega
          generalize hl1 : lostV m N (k + 1) = l1 at *
          have J := Lib.hid (And.intro h0 (And.intro h1 (And.intro h2 (And.intro hb (And.intro hl1 hst))))); clear h0 h1 h2 hb hhi hst hl0 hx ex hl1
          by_cases hN : N < 256
          · have n2 : (N : Int) < 256 := by omega
            have kn2 : ¬ (k : Int) + (N : Int) < 256 := by omega
            go_wp2
            go_roundw
            case rel => exact ⟨k + 1, by omega, by go_num, by rw [J.out.2.2.2.2.1], J.out.1, J.out.2.1.to J.out.2.2.2.2.2, J.out.2.2.1, J.out.2.2.2.1⟩
            case measure => simp [intOf]; omega
          · have n2 : ¬ (N : Int) < 256 := by omega
            go_wp2
            go_roundw
            case rel => exact ⟨k + 1, by omega, by go_num, by rw [J.out.2.2.2.2.1], J.out.1, J.out.2.1.to J.out.2.2.2.2.2, J.out.2.2.1, J.out.2.2.2.1⟩
            case measure => simp [intOf]; omega
    · obtain rfl : k = 256 := by omega
      rw [shlD_full, ← HC.out.2.1] at h1
      rw [← HC.out.2.2]
      obtain ⟨G, hG⟩ : ∃ G, G = bc (dig r) := ⟨_, rfl⟩
      have cN := HC.out.1
      rw [← hG] at h1 cN
      have sG : G.size = 256 := by rw [hG]; exact bc_size _
      have iG := isB G sG
      obtain ⟨U, hU⟩ : ∃ U, U = ucells r := ⟨_, rfl⟩
      have sU : U.size = 4 := by rw [hU]; rfl
      have aU : U.all (·.oneCell') = true := by rw [hU]; exact u_one _
      have iU := isR4 U sU
      have zU : (ucells 0).size = U.size := by rw [sU]; rfl
      have uU : uval r = .agg U := by rw [hU]; rfl
      rw [uU] at cN
      have J := Lib.hid (And.intro h1 (And.intro h2 (And.intro hb (And.intro hU cN)))); clear h0 h1 h2 hb hU cN uU hG sG sU
      go_wp2_with (with_reducible refine wl_row J.out.1 _ _ rfl rfl rfl _ _ Tryd.underlying101 iG ?_)
      refine (J.out.2.2.2.2 _).mono ?_
      rintro e w5 ⟨rfl, hb5⟩
      have D := Lib.hid (And.intro (J.out.2.1.calls hb5) (bt J.out.2.2.1 hb5)); clear hb5
      have D2 := Lib.hid J.out.2.2.2.1
      go_wp2_with (with_reducible refine ws_row D.out.1 _ _ _ _ rfl rfl rfl rfl iU zU aU ?_)
      refine bodyPost_ret (v := .tuple #[.agg U, .bool b]) ?_ rfl ⟨by rw [D2.out]; rfl, setRow_below D.out.2 (by omega) _⟩
      exact results_cs (p := 4) (s := 5) rfl _ _ _ _ _ rfl (D.out.1.row _) Tryd.underlying58 iU
end Go.Proofs.YtfebknplkbeblaaDoor

namespace Go.Proofs.YtfebknplkbeblaaDoor
open Go.RowKit
set_option linter.unusedVariables false
set_option maxRecDepth 100000 in
set_option maxHeartbeats 1000000 in
theorem RBytes_any (m : Nat) (w : World) (hm : m < T) :
    Calls Tryd.prog 71 #[uval m] w fun e w' => e = .returned (.agg (u8cells (byB m 32))) ∧ Below w.heap.size w w' := by
  unfold uval
  go_enter Tryd.func71, Tryd.ntmps71
  go_wp2
  generalize hl : byB m 32 = l
  have hll : l.length = 32 := by rw [← hl]; simp [byB]
  have HL := Lib.hid (And.intro hl hll); clear hl hll
  go_loopw [4] (fun i wr => ∃ k : Nat, k ≤ 32 ∧ i = .int .i64 k ∧ Blk wr w.heap.size 58 (ucells m) ∧ Blk wr (w.heap.size + 1) 37 (partB l 0) ∧ Blk wr (w.heap.size + 2) 37 (partB l k) ∧ Below w.heap.size w wr) (fun i _ => 32 - (intOf i).toNat)
  case atStart =>
    have z : partB l 0 = Array.replicate 32 (.int .u8 0) := by rw [partB_zero, HL.out.2]
    rw [z]
    refine ⟨0, Nat.zero_le _, rfl, ((Blk.newAt _ _ _ rfl).alloc _).alloc _, ((Blk.snd _ _ _ _).to ?_).alloc _, (Blk.newAt _ _ _ ?_).to ?_, ba (ba (ba (Below.refl _ _) _) _) _⟩
    · first | rfl | (rw [z]; rfl)
    · simp
    · first | rfl | (rw [z]; rfl)
  case round =>
    obtain ⟨k, hk, rfl, h1, h0, h2, hb⟩ := hrel
    by_cases hlt : k < 32
    · obtain ⟨p, hp⟩ : ∃ p, p = 3 - k / 8 := ⟨_, rfl⟩
      obtain ⟨s, hs⟩ : ∃ s, s = 56 - k % 8 * 8 := ⟨_, rfl⟩
      have hp' : (3 : Int) - (k : Int) / 8 = (p : Int) := by omega
      have hs' : (56 : Int) - (k : Int) % 8 * 8 = (s : Int) := by omega
      have hp4 : p < 4 := by omega
      have hp4' : (p : Int) < 4 := by omega
      have hs64 : (s : Int) < 64 := by omega
      have c1 := blk_get h1 p _ (ucells_at m p hp4)
      have f2 := h2.frozen k
      obtain ⟨d, hd, hd16, hdl⟩ := byteOf m (31 - k) hm (by omega)
      rw [show (31 - k) / 8 = p by omega, show 8 * ((31 - k) % 8) = s by omega] at hd
      obtain ⟨v2, hv2⟩ := partB_at l k k (by have := HL.out.2; omega)
      have c2 := blk_get h2 k _ hv2
      have k2 : (k : Int) < 32 := by omega
      have H := Lib.hid (And.intro h1 (And.intro h0 (And.intro h2 (And.intro hb hdl)))); clear h1 h0 h2 hb hp hs hv2 hdl
      go_wp2
      obtain ⟨h1, h0, h2, hb, hdl⟩ := H.out
      have hl := HL.out
      go_roundw
      case rel =>
        refine ⟨k + 1, by omega, by go_num, h1.far (by omega) _, h0.far (by omega) _, (h2.set_ k _).to ?_, hb.setCell (by simp; omega) _⟩
        have e : (d : Int) = ((l.getD k 0).toNat : Int) := by
          rw [← hl.1, byB_at m 32 k (by omega), hdl, show 32 - 1 - k = 31 - k by omega]
          have : m / 256 ^ (31 - k) % 256 < 256 := Nat.mod_lt _ (by decide)
          simp
        rw [e]
        exact partB_set l k (by omega)
      case measure => simp [intOf]; omega
    · obtain rfl : k = 32 := by omega
      have hl := HL.out
      rw [partB_full l 32 hl.2] at h2
      have s0 : (partB l 0).size = 32 := by rw [partB_zero, hl.2]; simp
      have s2 : (u8cells l).size = 32 := by simp [u8cells, hl.2]
      have a2 : (u8cells l).all (·.oneCell') = true := by simp [u8cells, Value.oneCell']
      have i2 : (Tryd.prog.info? 37).map (·.size) = some (u8cells l).size := by rw [s2]; kernel_rfl
      have H := Lib.hid (And.intro hb (And.intro h2 h0)); clear h1 h0 h2 hb hl
      go_wp2_with (first | with_reducible refine wl_row H.out.2.1 _ _ rfl rfl rfl _ _ Tryd.underlying37 i2 ?_ | with_reducible refine ws_row H.out.2.2 _ _ _ _ rfl rfl rfl rfl i2 (s0.trans s2.symm) a2 ?_)
      obtain ⟨hb, h2, h0⟩ := H.out
      refine bodyPost_ret (v := .agg (u8cells l)) ?_ rfl ⟨by rw [HL.out.1], setRow_below hb (by omega) _⟩
      exact results_cell_row rfl _ _ _ _ _ _ _ rfl (h0.row _) Tryd.underlying37 rfl i2
/-- The bytes of a slice, none of them perhaps. -/
def RdL (w : World) (a : Option Addr) (l : List UInt8) : Prop := l = [] ∨ ∃ g off, a = some ⟨g, off, none⟩ ∧ g < w.heap.size ∧ Rd w g off l
theorem or_low8 (a x : Nat) (ha : a % 256 = 0) (hl : a < W64) (hx : x < 256) : bits .or .u64 (a : Int) (x : Int) = ((a + x : Nat) : Int) := by
  have h := or_byte a x 0 (by simpa using ha) hl hx (by omega)
  have e : IntKind.u64.wrap ((x : Int) * 2 ^ 0) = (x : Int) := by simp [IntKind.wrap, IntKind.signed, IntKind.bits]; omega
  rw [e] at h
  simpa using h
theorem lim_low8 (N x : Nat) (hN : N % 256 = 0) (hx : x < 256) : lim (N + x) 0 = lim N 0 + x ∧ lim N 0 % 256 = 0 ∧ ∀ j, j ≠ 0 → lim (N + x) j = lim N j := by
  have h := lim_byteAt N x 0 (by simpa using hN) hx
  simpa using h
set_option maxRecDepth 100000 in
theorem RFromBytes_big (a : Option Addr) (n c : Nat) (w : World) (h : 32 < n) (hn : n ≤ 9223372036854775807) :
    Calls Tryd.prog 69 #[.slice a n c] w fun e w' => e = .returned (.tuple #[uval 0, .int .i64 3]) ∧ Below w.heap.size w w' := by
  have h' : (32 : Int) < (n : Int) := by omega
  have e0 := uval_zero0
  rw [e0]
  clear e0
  go_enter Tryd.func69, Tryd.ntmps69
  go_wp2
  refine bodyPost_ret (v := .tuple #[.agg #[.int .u64 0, .int .u64 0, .int .u64 0, .int .u64 0], .int .i64 3]) (by simp [results, Tryd.results69, go_sem]) rfl ⟨rfl, ba (Below.refl _ _) _⟩
set_option maxRecDepth 100000 in
set_option maxHeartbeats 2000000 in
theorem RFromBytes_any (a : Option Addr) (n c : Nat) (l : List UInt8) (w : World) (hn : l.length = n) (h32 : n ≤ 32) (hr : RdL w a l) :
    Calls Tryd.prog 69 #[.slice a n c] w fun e w' => e = .returned (.tuple #[uval (fbV l), .int .i64 0]) ∧ Below w.heap.size w w' := by
  have h' : ¬ (32 : Int) < (n : Int) := by omega
  have hT := fbV_T l (by omega)
  obtain ⟨U, hU⟩ : ∃ U, U = ucells (fbV l) := ⟨_, rfl⟩
  have uU : uval (fbV l) = .agg U := by rw [hU]; rfl
  have sU : U.size = 4 := by rw [hU]; rfl
  have aU : U.all (·.oneCell') = true := by rw [hU]; exact u_one _
  have iU := isR4 U sU
  have zU : (ucells 0).size = U.size := by rw [sU]; rfl
  rw [uU]
  have HR := Lib.hid (And.intro hr (And.intro hn hU)); clear hr hn hU uU sU hT
  go_enter Tryd.func69, Tryd.ntmps69
  go_wp2
  go_loopw [5] (fun i wr => ∃ k : Nat, k ≤ n ∧ i = .int .i64 k ∧ Blk wr w.heap.size 58 (ucells 0) ∧ Blk wr (w.heap.size + 1) 58 (ucells (fbV (l.take k))) ∧ Below w.heap.size w wr) (fun i _ => n - (intOf i).toNat)
  case atStart =>
    refine ⟨0, Nat.zero_le _, rfl, (Blk.newAt _ _ _ rfl).alloc _, ?_, ba (ba (Below.refl _ _) _) _⟩
    rw [show l.take 0 = [] from rfl, show fbV [] = 0 from rfl]
    exact Blk.snd _ _ _ _
  case round =>
    obtain ⟨k, hk, rfl, h0, h1, hb⟩ := hrel
    by_cases hlt : k < n
    · obtain ⟨V, hV⟩ : ∃ V, V = fbV (l.take k) := ⟨_, rfl⟩
      obtain ⟨x, hx⟩ : ∃ x, x = (l.getD k 0).toNat := ⟨_, rfl⟩
      have hx8 : x < 256 := by rw [hx]; exact (l.getD k 0).toNat_lt
      have hstep : fbV (l.take (k + 1)) = V * 256 + x := by rw [take_snocD l k (by rw [HR.out.2.1]; exact hlt), fbV_snoc, ← hV, hx]
      have hVT : V * 256 < T := by
        have h1 := fbV_T (l.take (k + 1)) (by rw [List.length_take]; omega)
        rw [hstep] at h1
        omega
      have hVT' : V < T := by omega
      have cSh := fun w => RShl_any V 8 w hVT' (by omega)
      have e1 : shlN V 8 = V * 256 := by rw [shlN_eq V 8 hVT']; exact Nat.mod_eq_of_lt hVT
      rw [e1] at cSh
      generalize shlB V 8 = ov at *
      obtain ⟨N, hN⟩ : ∃ N, N = V * 256 := ⟨_, rfl⟩
      rw [← hN] at cSh hstep
      have lo := lim_low8 N x (by rw [hN, Nat.mul_mod_left]) hx8
      have vo := or_low8 (lim N 0) x lo.2.1 (lim_lt _ _) hx8
      rw [← lo.1] at vo
      rw [← hV] at h1
      have hcb : ∃ g off, a = some ⟨g, off, none⟩ ∧ g < w.heap.size ∧ Rd w g off l := by
        rcases HR.out.1 with h | h
        · have := HR.out.2.1; rw [h] at this; simp at this; omega
        · exact h
      obtain ⟨g, off, rfl, hg, hrd⟩ := hcb
      have k2 : (k : Int) < (n : Int) := by omega
      have l1 := h1.lt
      have S := Lib.hid (And.intro h0 (And.intro h1 (And.intro hb (And.intro cSh (And.intro hstep (And.intro lo (And.intro hrd hx))))))); clear h0 h1 hb cSh hstep lo hrd hx hV hN hVT hVT' e1
      have c4 := cl4 S.out.2.1
      go_wp2_with fail
      refine (S.out.2.2.2.1 _).mono ?_
      rintro e w3 ⟨rfl, hb3⟩
      simp only [uval]
      clear c4
      have T0 := S.out.1.calls hb3; have T1 := S.out.2.1.calls hb3; have TB := bt S.out.2.2.1 hb3
      have ls := T1.lt
      have Bs : Blk (w3.alloc (.cells (ucells N) 58)) w3.heap.size 58 (ucells N) := Blk.new w3 _ _
      have G := Lib.hid (And.intro (T0.alloc (.cells (ucells N) 58)) (And.intro (T1.alloc (.cells (ucells N) 58)) (ba TB (.cells (ucells N) 58)))); clear T0 T1 TB hb3
      go_wp2_with fail
      change Code.wp _ _ _ _ (w3.alloc (.cells (ucells N) 58))
      generalize World.alloc _ _ = w4 at *
      generalize w3.heap.size = gs at *
      have cs := clf Bs
      have cx : w4.cell? ⟨g, off + k, none⟩ = some (.int .u8 x) := by rw [S.out.2.2.2.2.2.2.2]; exact S.out.2.2.2.2.2.2.1.at G.out.2.2 hg k (by rw [HR.out.2.1]; exact hlt)
      go_region
      have hset := ucells_put N (N + x) 0 (by decide) (fun j _ hj => S.out.2.2.2.2.2.1.2.2 j hj)
      have T0 := (G.out.1.far (b := gs) (i := 0) (by omega) (.int .u64 (lim (N + x) 0))).drew
      have T1 := (G.out.2.1.far (b := gs) (i := 0) (by omega) (.int .u64 (lim (N + x) 0))).drew
      have TB := (G.out.2.2.setCell (p := ⟨gs, 0, none⟩) (by simp; omega) (.int .u64 (lim (N + x) 0))).drew
      have Bs2 := ((Bs.set_ 0 (.int .u64 (lim (N + x) 0))).to hset).drew
      clear cs cx Bs hset G
      change Exit.then _ _ _ _ (w4.setCell ⟨gs, 0, none⟩ (.int .u64 (lim (N + x) 0))).drew
      generalize World.drew _ = w5 at *
      have cs := clf Bs2
      have cr := clf T1
      have lr := T1.lt
      have G := Lib.hid (And.intro T0 (And.intro T1 TB)); clear T0 T1 TB Bs2
      go_wp2
      go_roundw
      case rel =>
        have D0 : Blk (fillW w5 (w.heap.size + 1) (N + x)) w.heap.size 58 (ucells 0) := G.out.1.fillFar (by omega)
        have D1 : Blk (fillW w5 (w.heap.size + 1) (N + x)) (w.heap.size + 1) 58 (ucells (N + x)) := G.out.2.1.fillAt
        have DB : Below w.heap.size w (fillW w5 (w.heap.size + 1) (N + x)) := fill_below G.out.2.2 (by omega)
        exact ⟨k + 1, by omega, by go_num, D0, by rw [S.out.2.2.2.2.1]; exact D1, DB⟩
      case measure => simp [intOf]; omega
    · obtain rfl : k = n := by omega
      rw [List.take_of_length_le (by have := HR.out.2.1; omega), ← HR.out.2.2] at h1
      have D := Lib.hid (And.intro h0 (And.intro h1 hb)); clear h0 h1 hb
      go_wp2_with (first | with_reducible refine wl_row D.out.2.1 _ _ rfl rfl rfl _ _ Tryd.underlying58 iU ?_ | with_reducible refine ws_row D.out.1 _ _ _ _ rfl rfl rfl rfl iU zU aU ?_)
      refine bodyPost_ret (v := .tuple #[.agg U, .int .i64 0]) ?_ rfl ⟨rfl, setRow_below D.out.2.2 (Nat.le_refl _) _⟩
      exact results_cs (p := 2) (s := 3) rfl _ _ _ _ _ rfl (D.out.1.row _) Tryd.underlying58 iU
end Go.Proofs.YtfebknplkbeblaaDoor

namespace Go.Proofs.YtfebknplkbeblaaDoor
open Go.RowKit
set_option linter.unusedVariables false

/-- What Write leaves: a state that has taken up t. -/
def WrPost (w : World) (He : List Wd) (t : List UInt8) (N : Nat) (e : Ending) (w' : World) : Prop :=
  ∃ (a : Option Addr) (c : Nat), e = .returned (.agg (stC (absH He t) (.slice a (absR t).length c) N)) ∧ RdS w' a (absR t) ∧ (absR t).length ≤ c ∧ c ≤ maxLen ∧ Below w.heap.size w w'

set_option maxRecDepth 100000 in
set_option maxHeartbeats 4000000 in
theorem Write_empty (H : List Wd) (hH : H.length = 8) (a : Option Addr) (len c n : Nat) (hn : n < W64) (hlen : len ≤ 9223372036854775807) (He : List Wd) (hHe : He.length = 8) (ae : Option Addr) (ce ne : Nat) (hne : ne < W64) (hce : ce ≤ maxLen)
    (hE : (len = n % 64 ∧ He = H ∧ ae = a ∧ ce = c ∧ ne = n ∧ len = 0) ∨ (len ≠ n % 64 ∧ He = HI ∧ ae = none ∧ ce = 0 ∧ ne = 0))
    (a' : Option Addr) (t : List UInt8) (m c' : Nat) (hm : t.length = m) (hc : m ≤ c') (hc2 : m ≤ 140737488355328 ∧ c' ≤ 9223372036854775807) (hno : a' = none → m = 0 ∧ c' = 0) (w : World) (hr : RdS w a' t) (hL : Laid w) :
    Calls Tryd.prog 22 #[.agg (stC H (.slice a len c) n), .slice a' m c'] w (WrPost w He t ((ne + m) % W64)) := by
  obtain ⟨b, hb⟩ : ∃ b, decide (len = n % 64) = b := ⟨_, rfl⟩
  have iS := isSt10 (stC H (.slice a len c) n) (stC_size _ _ _ hH)
  have cS := fun w => Sane_any H hH a len c n hn hlen b hb w
  obtain ⟨S, hS⟩ : ∃ S, S = stC H (.slice a len c) n := ⟨_, rfl⟩
  have sS : S.size = 10 := by rw [hS]; exact stC_size _ _ _ hH
  rw [← hS] at iS cS ⊢
  obtain ⟨SE, hSE⟩ : ∃ SE, SE = stC He (.slice ae 0 ce) ne := ⟨_, rfl⟩
  have hcase : (b = true ∧ S = SE) ∨ (b = false ∧ stC HI (.slice none 0 0) 0 = SE) := by
    rcases hE with ⟨h1, h2, h3, h4, h5, h6⟩ | ⟨h1, h2, h3, h4, h5⟩
    · refine .inl ⟨by rw [← hb]; simpa using h1, ?_⟩
      rw [hS, hSE, h2, h3, h4, h5, h6]
    · refine .inr ⟨by rw [← hb]; simpa using h1, ?_⟩
      rw [hSE, h2, h3, h4, h5]
  have sE : SE.size = 10 := by rw [hSE]; exact stC_size _ _ _ hHe
  have iE := isSt10 SE sE
  have aE : SE.all (·.oneCell') = true := by rw [hSE]; exact stC_one _ _ _ _ _
  have sSE : S.size = SE.size := by rw [sS, sE]
  have F := Lib.hid (And.intro hSE (And.intro hS (And.intro hb (And.intro hr (And.intro hL (And.intro hHe (And.intro hm hn)))))))
  have CS := Lib.hid cS
  clear hSE hS hb hr hL hE hH hn hHe hm cS sS sE
  go_enter Tryd.func22, Tryd.ntmps22
  go_wp2_with (with_reducible refine wl_st ((Blk.newAt w _ S rfl).alloc _) _ _ rfl rfl rfl _ Tryd.underlying31 iS ?_)
  refine (CS.out _).mono ?_
  rintro e w1 ⟨rfl, hb1⟩
  have A0 : Blk w1 w.heap.size 31 S := ((Blk.newAt w _ S rfl).alloc _).calls hb1
  have A1 : Blk w1 (w.heap.size + 1) 31 (startC 0) := by rw [startC_zero]; exact (Blk.second w _ _ _).calls hb1
  have AB : Below w.heap.size w w1 := bt (ba (ba (Below.refl _ _) _) _) hb1
  have z0 := A0.lt
  have z1 := A1.lt
  clear hb1
  go_upto_if 10 with fail
  go_cut [] (fun wx => Blk wx w.heap.size 31 SE ∧ Blk wx (w.heap.size + 1) 31 (startC 0) ∧ Below w.heap.size w wx)
  case first =>
    rcases hcase with ⟨h1, h2⟩ | ⟨h1, h2⟩
    · subst h1
      rw [h2] at A0
      have HA := Lib.hid (And.intro A0 (And.intro A1 AB)); clear A0 A1 AB h2
      go_wp2_with fail
      go_meet
      exact HA.out
    · subst h1
      have HA := Lib.hid (And.intro A0 (And.intro A1 AB)); clear A0 A1 AB
      have h2' := Lib.hid h2; clear h2
      go_wp2_with fail
      refine (Start_any _ (F.out.2.2.2.2.1.below HA.out.2.2 (Nat.le_refl _))).mono ?_
      rintro e w2 ⟨rfl, hb2⟩
      rw [h2'.out]
      have B0 := HA.out.1.calls hb2
      have B1 := HA.out.2.1.calls hb2
      have BB := bt HA.out.2.2 hb2
      have HB := Lib.hid (And.intro B0 (And.intro B1 BB)); clear B0 B1 BB hb2 HA
      go_wp2_with (with_reducible refine ws_row HB.out.1 _ _ _ _ rfl rfl rfl rfl iE sSE aE ?_)
      go_meet
      exact ⟨HB.out.1.row _, HB.out.2.1.rowFar (by omega) _, setRow_below HB.out.2.2 (by omega) _⟩
  case rest =>
    obtain ⟨B0, B1, BB⟩ := hcut
    clear hcase iE aE sSE iS A0 A1 AB CS z0 z1
    have z0 := B0.lt
    have z1 := B1.lt
    obtain ⟨N, hN⟩ : ∃ N, N = (ne + m) % W64 := ⟨_, rfl⟩
    have hNi := add_num ne m hne
    rw [← hN] at hNi
    obtain ⟨x0, x1, x2, x3, x4, x5, x6, x7, h8⟩ := eight He F.out.2.2.2.2.2.1
    have B0' := B0
    rw [F.out.1, h8, stC_lit] at B0'
    have cc := B0'.cell
    have hm0 : 0 ≤ (m : Int) := by omega
    have hmb : m ≤ 140737488355328 := by omega
    have G := Lib.hid (And.intro hN (And.intro h8 (And.intro B0 (And.intro B1 BB)))); clear hN h8 B0 B0' B1 BB
    go_wp2
    have FIN := Lib.hid (fun (a : Option Addr) (c : Nat) (w2 : World) (h1 : RdS w2 a (absR t)) (h2 : (absR t).length ≤ c) (h3 : c ≤ maxLen) (h4 : Below w.heap.size w w2) => show WrPost w He t ((ne + m) % W64) (.returned (.agg (stC (absH He t) (.slice a (absR t).length c) N))) w2 from ⟨a, c, by rw [G.out.1], h1, h2, h3, h4⟩)
    have A5 : Blk _ wc.heap.size 31 (stC He (.slice none 0 0) N) := Blk.new wc 31 (stC He (.slice none 0 0) N)
    have A1 : Blk _ (w.heap.size + 1) 31 (startC 0) := G.out.2.2.2.1.alloc (.cells (stC He (.slice none 0 0) N) 31)
    have AB : Below w.heap.size w _ := ba G.out.2.2.2.2 (.cells (stC He (.slice none 0 0) N) 31)
    have HA := Lib.hid (And.intro A5 (And.intro A1 AB)); clear A5 A1 AB
    have hq := G.out.2.1
    rw [hq, stC_lit] at HA
    clear hq cc
    generalize wc.alloc _ = w3 at *
    go_loopw [1] (fun s wr => ∃ (j : Nat) (a1 : Option Addr) (c1 p : Nat), p = m - 64 * j ∧ 64 * j ≤ m ∧ s = .slice a1 p c1 ∧ p ≤ c1 ∧ (p ≤ 140737488355328 ∧ c1 ≤ 9223372036854775807) ∧ RdS w a1 (t.drop (64 * j)) ∧ (a1 = none → p = 0 ∧ c1 = 0) ∧ Blk wr (w.heap.size + 1) 31 (startC 0) ∧ Blk wr wc.heap.size 31 (stC (blks t j He) (.slice none 0 0) N) ∧ Below w.heap.size w wr) (fun s _ => lenS s)
    case atStart =>
      obtain ⟨A5, A1, AB⟩ := HA.out
      refine ⟨0, a', c', m, by omega, by omega, rfl, hc, hc2, F.out.2.2.2.1, hno, A1, ?_, AB⟩
      rw [G.out.2.1, blks, stC_lit]
      exact A5
    case round =>
      clear HA
      obtain ⟨j, a1, c1, p, hp, hj, rfl, hpc, hc1, hr1, hno1, h1, h5, hb⟩ := hrel
      have hpi : (p : Int) ≤ 140737488355328 := by omega
      by_cases h64 : 64 ≤ p
      · obtain ⟨a2, hs2, hr2, _, _⟩ := slice_to a1 (t.drop (64 * j)) p c1 64 (by rw [drop_length_eq, F.out.2.2.2.2.2.2.1, hp]) h64 hpc
        obtain ⟨Hj, hHj⟩ : ∃ Hj, Hj = blks t j He := ⟨_, rfl⟩
        have hHl : Hj.length = 8 := by rw [hHj]; exact blks_length t j He F.out.2.2.2.2.2.1
        obtain ⟨r, hrr⟩ : ∃ r, r = blk Hj ((t.drop (64 * j)).take 64) := ⟨_, rfl⟩
        have hnext : blks t (j + 1) He = r := by rw [blks, ← hHj, hrr]
        have hrl : r.length = 8 := by rw [hrr]; exact blk_length _ _ hHl
        have htl : ((t.drop (64 * j)).take 64).length = 64 := by rw [List.length_take, drop_length_eq, F.out.2.2.2.2.2.2.1, ← hp]; omega
        obtain ⟨g2, o2, ha2, hg2, hrd2⟩ : ∃ g off, a2 = some ⟨g, off, none⟩ ∧ g < w.heap.size ∧ Rd w g off ((t.drop (64 * j)).take 64) := by
          rcases hr2 w hr1 with hh | hh
          · rw [hh] at htl; cases htl
          · exact hh
        subst ha2
        have hcall : ∀ w', Below w.heap.size w w' → Calls Tryd.prog 27 #[.agg (u32c Hj), .slice (some ⟨g2, o2, none⟩) 64 c1] w' fun e w'' => e = .returned (.agg (u32c r)) ∧ Below w'.heap.size w' w'' := fun w' hw' => by
          rw [hrr]
          exact Block_any Hj hHl g2 o2 c1 _ w' (fun i hi => hrd2.at hw' hg2 i hi) (Nat.lt_of_lt_of_le hg2 hw'.size) htl (F.out.2.2.2.2.1.below hw' (Nat.le_refl _))
        rw [← hHj] at h5
        have l5 := h5.lt
        have l1 := h1.lt
        have i8H := is8 (u32c Hj) (by rw [u32c_size, hHl])
        have s8r : (u32c r).size = 8 := by rw [u32c_size, hrl]
        have i8r := is8 (u32c r) s8r
        have a8r := u32c_one r
        have hpm : (p : Int) - 64 = ((p - 64 : Nat) : Int) := by omega
        have K := Lib.hid (And.intro h1 (And.intro h5 (And.intro hb (And.intro hp (And.intro hHj (And.intro hHl (And.intro hrr (And.intro hnext (And.intro hrl (And.intro htl (And.intro hr1 (And.intro hr1 s8r))))))))))))
        clear h1 h5 hb hp hHj hHl hrr hnext hrl htl hr1 hr2 s8r
        have KC := Lib.hid hcall; clear hcall
        have KS := Lib.hid hs2; clear hs2
        go_wp2_with fail
        refine wp_region_tail [some 61, some 62, some 63, some 64, some 65, some 66, none] (fun i => ([.pointer (some ⟨wc.heap.size, 0, none⟩), .agg (u32c Hj), .slice a1 p c1, .slice (some ⟨g2, o2, none⟩) 64 c1, .agg (u32c r), .pointer (some ⟨wc.heap.size, 0, none⟩), undef] : List Value).getD i undef) 6 (fun w' => ∃ wq, Below wr.heap.size wr wq ∧ w' = wq.setCells wc.heap.size 0 (u32c r).toList) (by kernel_rfl) rfl rfl rfl rfl rfl rfl ⟨
          .inr ⟨rfl, fun A w' hb hs => op_field0 (.tmp 5) rfl wc.heap.size ((hs.2 5 rfl).trans rfl)⟩,
          .inr ⟨rfl, fun A w' hb hs => op_load_mid _ (.tmp 61) rfl wc.heap.size 0 (hs.1 0 rfl 61 rfl) (u32c Hj).toList _ (words_range (K.out.2.1.below hb K.out.2.1.lt) K.out.2.2.2.2.2.1) Tryd.underlying25 rfl (by simpa using i8H)⟩,
          .inr ⟨rfl, fun A w' hb hs => op_move (.tmp 1) (.inl rfl) ((hs.2 1 rfl).trans rfl)⟩,
          .inr ⟨rfl, fun A w' hb hs => op_slice_s _ (.tmp 63) none (some (.const (.int .i64 64))) rfl (hs.1 2 rfl 63 rfl) rfl rfl (by kernel_rfl) (KS.out w')⟩,
          .inr ⟨rfl, fun A w' hb hs => op_call 27 _ (exec_call _ 27 _ rfl rfl (margs2 (hs.1 1 rfl 62 rfl) (hs.1 3 rfl 64 rfl)) Tryd.func27 rfl rfl) (KC.out w' (bt K.out.2.2.1 hb))⟩,
          .inr ⟨rfl, fun A w' hb hs => op_field0 (.tmp 5) rfl wc.heap.size ((hs.2 5 rfl).trans rfl)⟩,
          .inl ⟨rfl, rfl, fun A w' hb hs => wp_store_mid _ (.tmp 66) (.tmp 65) rfl wc.heap.size 0 (u32c r) (hs.1 5 rfl 66 rfl) (hs.1 4 rfl 65 rfl) (by rw [K.out.2.2.2.2.2.2.2.2.2.2.2.2]; exact words_there (K.out.2.1.below hb K.out.2.1.lt) K.out.2.2.2.2.2.1) i8r a8r ⟨rfl, w', hb, rfl⟩⟩, trivial⟩ ?_
        rintro _ ⟨wq, hbq, rfl⟩
        simp only [Fr, if_true, Act.put, List.setIfInBounds_toArray, List.set_cons_zero, List.set_cons_succ, List.getD_cons_zero, List.getD_cons_succ]
        have D1 := (K.out.1.below hbq l1).setsFar (b := wc.heap.size) (by omega) (u32c r).toList 0
        have D5 := (K.out.2.1.below hbq l5).setWords K.out.2.2.2.2.2.1 K.out.2.2.2.2.2.2.2.2.1
        have DB := below_sets (b := wc.heap.size) (show w.heap.size ≤ wc.heap.size by omega) (u32c r).toList 0 (bt K.out.2.2.1 hbq)
        have D := Lib.hid (And.intro D1 (And.intro D5 DB)); clear D1 D5 DB hbq
        generalize wq.setCells _ _ _ = w6 at *
        go_wp2
        obtain ⟨D1, D5, DB⟩ := D.out
        obtain ⟨_, _, _, hp, hHj, _, _, hnext, _, _, hr1, _, _⟩ := K.out
        go_roundw
        case rel =>
          refine ⟨j + 1, _, c1 - 64, p - 64, by omega, by omega, rfl, by omega, by omega, ?_, ?_, D1, by rw [hnext]; exact D5, DB⟩
          · have := hr1.from (n := p) (c := c1) (k := 64) (by rw [drop_length_eq, F.out.2.2.2.2.2.2.1, hp]) h64 hpc
            rw [List.drop_drop, show 64 * j + 64 = 64 * (j + 1) by omega] at this
            exact this
          · intro hnone
            exfalso
            have hsome := hno1
            cases a1 with
            | none => have := (hno1 rfl).1; omega
            | some ad => split at hnone <;> cases hnone
        case measure => simp [lenS]; omega
      · have hjj : t.length / 64 = j := by rw [F.out.2.2.2.2.2.2.1]; omega
        have hpl : p = (absR t).length := by rw [absR_length, F.out.2.2.2.2.2.2.1]; omega
        have hdr : t.drop (64 * j) = absR t := by unfold absR; rw [hjj]
        have hHH : blks t j He = absH He t := by unfold absH; rw [hjj]
        rw [hdr] at hr1
        rw [hHH] at h5
        clear hjj hdr hHH
        have hRl : (absR t).length = p := hpl.symm
        have hmx : (absR t).length ≤ maxLen := by rw [hRl]; unfold maxLen; omega
        obtain ⟨i0, hi, hz0, hz1, hz2⟩ := info_parts (show (Tryd.prog.info? 5).map (fun i => (i.zero, i.size, i.bytes)) = some (some (.int .u8 0), 1, 1) by kernel_rfl)
        have l5 := h5.lt
        have l1 := h1.lt
        have hHl : (absH He t).length = 8 := blks_length _ _ _ F.out.2.2.2.2.2.1
        obtain ⟨HH, hHH⟩ : ∃ HH, HH = absH He t := ⟨_, rfl⟩
        obtain ⟨R, hR⟩ : ∃ R, R = absR t := ⟨_, rfl⟩
        rw [← hHH] at h5 hHl
        rw [← hR] at hr1 hRl hmx
        have K := Lib.hid (And.intro h1 (And.intro h5 (And.intro hb (And.intro hp (And.intro hHH (And.intro hHl (And.intro hR (And.intro hRl (And.intro hr1 hmx)))))))))
        clear h1 h5 hb hp hHH hHl hR hRl hr1 hpl hmx
        have HI0 := Lib.hid (And.intro hi (And.intro hz0 (And.intro hz1 hz2))); clear hi hz0 hz1 hz2
        cases a1 with
        | none =>
          obtain ⟨hp0, hc0⟩ := hno1 rfl
          subst hp0 hc0
          have R0 : R = [] := List.length_eq_zero_iff.1 K.out.2.2.2.2.2.2.2.1
          obtain ⟨C, hC⟩ : ∃ C, C = stC HH (.slice (some ⟨wr.heap.size, 0, none⟩) 0 0) N := ⟨_, rfl⟩
          have sC : C.size = 10 := by rw [hC]; exact stC_size _ _ _ K.out.2.2.2.2.2.1
          have iC := isSt10 C sC
          have s1 : (startC 0).size = C.size := by rw [sC]; rfl
          have aC : C.all (·.oneCell') = true := by rw [hC]; exact stC_one _ _ _ _ _
          have B5 := K.out.2.1.alloc (.cells #[] 5)
          have c8 := blk_get B5 8 _ (stC_rest _ _ _ K.out.2.2.2.2.2.1)
          have f8 := B5.frozen 8
          have M5 : Blk _ wc.heap.size 31 C := ((K.out.2.1.set_ 8 (.slice (some ⟨wr.heap.size, 0, none⟩) 0 0)).to (show _ = C by rw [hC]; exact stC_setRest _ _ _ _ K.out.2.2.2.2.2.1)).alloc (.cells #[] 5)
          have M1 := (K.out.1.far (show w.heap.size + 1 ≠ wc.heap.size by omega) (i := 8) (.slice (some ⟨wr.heap.size, 0, none⟩) 0 0)).alloc (.cells #[] 5)
          have MB := ba (K.out.2.2.1.setCell (show w.heap.size ≤ (⟨wc.heap.size, 8, none⟩ : Addr).block by show w.heap.size ≤ wc.heap.size; omega) (.slice (some ⟨wr.heap.size, 0, none⟩) 0 0)) (.cells #[] 5)
          have M := Lib.hid (And.intro M5 (And.intro M1 (And.intro MB (And.intro hC R0)))); clear M5 M1 MB B5 hC sC R0
          go_wp2_with (first | (at_builtin; refine wpList_append_own_none rfl _ _ 26 rfl wr.heap.size 5 i0 1 Tryd.underlying26 HI0.out.1 _ 0 [] rfl (World.ownsRow_made wr #[] 0 (Nat.le_refl _) (by omega) rfl) rfl ?_) | with_reducible refine wl_st M.out.1 _ _ rfl rfl rfl _ Tryd.underlying31 iC ?_ | with_reducible refine ws_row M.out.2.1 _ _ _ _ rfl rfl rfl rfl iC s1 aC ?_)
          obtain ⟨M5, M1, MB, hC, R0⟩ := M.out
          have hRR := K.out.2.2.2.2.2.2.1
          have hHH := K.out.2.2.2.2.1
          rw [R0] at hRR
          have hCC : C = stC (absH He t) (.slice (some ⟨wr.heap.size, 0, none⟩) (absR t).length 0) N := by rw [hC, hHH, ← hRR]; rfl
          refine bodyPost_ret (v := .agg C) ?_ rfl (by rw [hCC]; exact FIN.out _ _ _ (.inl hRR.symm) (by rw [← hRR]; exact Nat.le_refl _) (by unfold maxLen; omega) (setRow_below MB (by omega) _))
          exact results_cell_row rfl _ _ _ _ _ (0, 0) _ rfl (M1.row _) Tryd.underlying31 rfl iC
        | some ad =>
          clear hno1
          have hmb2 : p ≤ maxLen := by unfold maxLen; omega
          have hmb3 : (0 + p) * 1 ≤ 140737488355328 := by omega
          go_wp2_with (at_builtin; go_loud (refine wpList_append_own _ rfl _ _ 26 rfl wr.heap.size 5 i0 (.int .u8 0) 1 1 Tryd.underlying26 HI0.out.1 HI0.out.2.1 HI0.out.2.2.1 HI0.out.2.2.2 rfl (by omega) _ 0 [] rfl (World.ownsRow_made wr #[] 0 (Nat.le_refl _) (by omega) rfl) ad p c1 (R.map fun c => Value.int .u8 (c.toNat : Int)) rfl (by rw [List.length_map, K.out.2.2.2.2.2.2.2.1, Nat.mul_one]) (fun j u hu => rd_news ((K.out.2.2.2.2.2.2.2.2.1.below K.out.2.2.1 (Nat.le_refl _)).below ((Below.refl _ _).alloc (Nat.le_refl _) _) (Nat.le_refl _)) j u hu) (one_news R) (by omega) hmb3 (by simp) ?_))
          intro v' w' ho hg hnil
          obtain ⟨g, cap, cur, rfl, hgb, hbg, hpc2, hcm3, hRp, hrd⟩ := own_blk ho hnil
          clear ho hnil
          have B5 := (K.out.2.1.alloc (.cells #[] 5)).grown hg (by simp [Value.ownBlock]; omega)
          have B1 := (K.out.1.alloc (.cells #[] 5)).grown hg (by simp [Value.ownBlock]; omega)
          have BB := below_grown (ba K.out.2.2.1 (.cells #[] 5)) hg (by simp; omega) (by intro k hk; simp [Value.ownBlock] at hk; omega)
          clear hg
          obtain ⟨C, hC⟩ : ∃ C, C = stC HH (.slice (some ⟨g, 0, none⟩) p cap) N := ⟨_, rfl⟩
          have sC : C.size = 10 := by rw [hC]; exact stC_size _ _ _ K.out.2.2.2.2.2.1
          have iC := isSt10 C sC
          have s1 : (startC 0).size = C.size := by rw [sC]; rfl
          have aC : C.all (·.oneCell') = true := by rw [hC]; exact stC_one _ _ _ _ _
          have c8 := blk_get B5 8 _ (stC_rest _ _ _ K.out.2.2.2.2.2.1)
          have f8 := B5.frozen 8
          have M5 : Blk _ wc.heap.size 31 C := (B5.set_ 8 (.slice (some ⟨g, 0, none⟩) p cap)).to (show _ = C by rw [hC]; exact stC_setRest _ _ _ _ K.out.2.2.2.2.2.1)
          have M1 := B1.far (show w.heap.size + 1 ≠ wc.heap.size by omega) (i := 8) (.slice (some ⟨g, 0, none⟩) p cap)
          have MG := hbg.far (show g ≠ wc.heap.size by omega) (i := 8) (.slice (some ⟨g, 0, none⟩) p cap)
          have MB := BB.setCell (show w.heap.size ≤ (⟨wc.heap.size, 8, none⟩ : Addr).block by show w.heap.size ≤ wc.heap.size; omega) (.slice (some ⟨g, 0, none⟩) p cap)
          have M := Lib.hid (And.intro M5 (And.intro M1 (And.intro MB (And.intro hC (And.intro MG hrd))))); clear M5 M1 MB B5 B1 BB hbg hC sC MG hrd
          go_wp2_with (first | with_reducible refine wl_st M.out.1 _ _ rfl rfl rfl _ Tryd.underlying31 iC ?_ | with_reducible refine ws_row M.out.2.1 _ _ _ _ rfl rfl rfl rfl iC s1 aC ?_)
          obtain ⟨M5, M1, MB, hC, MG, hrd⟩ := M.out
          have hRR := K.out.2.2.2.2.2.2.1
          have hHH := K.out.2.2.2.2.1
          have hRl := K.out.2.2.2.2.2.2.2.1
          have hCC : C = stC (absH He t) (.slice (some ⟨g, 0, none⟩) (absR t).length cap) N := by rw [hC, hHH, ← hRR, hRl]
          refine bodyPost_ret (v := .agg C) ?_ rfl (by
            rw [hCC]
            refine FIN.out _ _ _ (.inr ⟨g, 0, rfl, (MG.rowFar (show g ≠ w.heap.size + 1 by omega) _).lt, ?_⟩) (by rw [← hRR, hRl]; exact hpc2) hcm3 (setRow_below MB (by omega) _)
            intro i hi
            rw [← hRR] at hi ⊢
            exact ((MG.rowFar (show g ≠ w.heap.size + 1 by omega) _).cell (0 + i)).trans (by rw [Nat.zero_add]; exact hrd i hi))
          exact results_cell_row rfl _ _ _ _ _ (0, 0) _ rfl (M1.row _) Tryd.underlying31 rfl iC
end Go.Proofs.YtfebknplkbeblaaDoor
