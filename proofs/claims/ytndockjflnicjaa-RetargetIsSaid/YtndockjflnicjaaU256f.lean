/- What u256's moves come to. -/
import Derived.Test.YtndockjflnicjaaU256e
namespace Go.Proofs.Ytndockjflnicjaa
open Go.RowKit
set_option linter.unusedVariables false

/-- A part of m moved down. -/
theorem lim_shr (m n i : Nat) (hm : m < T) (hi : i < 4) : lim (m / 2 ^ n) i = (if i + n / 64 < 4 then lim m (i + n / 64) / 2 ^ (n % 64) else 0) + (if i + n / 64 < 3 then lim m (i + n / 64 + 1) * 2 ^ (64 - n % 64) % W64 else 0) := by
  have hW : W64 = 2 ^ 64 := rfl
  have e0 : m / 2 ^ n / W64 ^ i = m / W64 ^ (i + n / 64) / 2 ^ (n % 64) := by
    rw [Nat.div_div_eq_div_mul, Nat.div_div_eq_div_mul, hW, ← Nat.pow_mul, ← Nat.pow_mul, ← Nat.pow_add, ← Nat.pow_add]
    congr 2
    omega
  have e1 : lim (m / 2 ^ n) i = m / W64 ^ (i + n / 64) / 2 ^ (n % 64) % W64 := by unfold lim; rw [e0]
  have e2 : m / W64 ^ (i + n / 64 + 1) = m / W64 ^ (i + n / 64) / W64 := by rw [Nat.pow_succ, Nat.div_div_eq_div_mul]
  have hs : n % 64 < 64 := Nat.mod_lt _ (by decide)
  have hz : 4 ≤ i + n / 64 → m / W64 ^ (i + n / 64) = 0 := fun h => Nat.div_eq_of_lt (Nat.lt_of_lt_of_le hm (by rw [T_eq]; exact Nat.pow_le_pow_right W64_pos h))
  have hz2 : 3 ≤ i + n / 64 → m / W64 ^ (i + n / 64 + 1) = 0 := fun h => Nat.div_eq_of_lt (Nat.lt_of_lt_of_le hm (by rw [T_eq]; exact Nat.pow_le_pow_right W64_pos (by omega)))
  rw [e1]
  unfold lim
  generalize hq : m / W64 ^ (i + n / 64) = q at *
  rw [e2] at hz2 ⊢
  generalize n % 64 = s at *
  have hWs : W64 = 2 ^ s * 2 ^ (64 - s) := by rw [hW, ← Nat.pow_add]; congr 1; omega
  have hp1 : 0 < 2 ^ s := Nat.pow_pos (by decide)
  have hp2 : 0 < 2 ^ (64 - s) := Nat.pow_pos (by decide)
  -- q / 2^s mod W64, q = W64 * h + l
  have key : q / 2 ^ s % W64 = q % W64 / 2 ^ s + q / W64 % W64 * 2 ^ (64 - s) % W64 := by
    have h1 : q / 2 ^ s = q % W64 / 2 ^ s + q / W64 * 2 ^ (64 - s) := by
      have h := Nat.div_add_mod q W64
      conv => lhs; rw [← h, hWs, Nat.mul_assoc, Nat.add_comm, Nat.add_mul_div_left _ _ hp1]
      rw [Nat.mul_comm (2 ^ (64 - s)), ← hWs]
    have h2 : q % W64 / 2 ^ s < 2 ^ (64 - s) := by
      rw [Nat.div_lt_iff_lt_mul hp1, Nat.mul_comm, ← hWs]
      exact Nat.mod_lt _ W64_pos
    have h3 : q / W64 % W64 * 2 ^ (64 - s) % W64 = q / W64 * 2 ^ (64 - s) % W64 := by rw [Nat.mul_mod, Nat.mod_mod, ← Nat.mul_mod]
    rw [h1, h3]
    generalize q % W64 / 2 ^ s = x at *
    generalize q / W64 = z at *
    rw [hWs]
    generalize 2 ^ (64 - s) = P at *
    generalize 2 ^ s = S at *
    rw [Nat.mul_mod_mul_right, Nat.add_mod, Nat.mul_mod_mul_right]
    have h5 : z % S < S := Nat.mod_lt _ hp1
    have h6 : (z % S + 1) * P ≤ S * P := Nat.mul_le_mul_right _ h5
    rw [Nat.add_mul] at h6
    have h7 : P ≤ S * P := Nat.le_mul_of_pos_left _ hp1
    rw [Nat.mod_eq_of_lt (show x < S * P by omega), Nat.mod_eq_of_lt (by omega)]
  rw [key]
  by_cases a : i + n / 64 < 3
  · rw [if_pos a, if_pos (by omega)]
  · rw [if_neg a, hz2 (by omega)]
    by_cases b : i + n / 64 < 4
    · rw [if_pos b]; simp
    · rw [if_neg b, hz (by omega)]; simp
theorem shr_or (m n i : Nat) (hm : m < T) (hi : i < 4) (h : i + n / 64 < 3) :
    bits .or .u64 ((lim m (i + n / 64) : Nat) / 2 ^ (n % 64) : Int) (IntKind.u64.wrap ((lim m (i + n / 64 + 1) : Nat) * 2 ^ (64 - n % 64) : Int)) = (lim (m / 2 ^ n) i : Nat) := by
  have e := lim_shr m n i hm hi
  rw [if_pos (by omega), if_pos h] at e
  rw [e]
  have l1 := lim_lt m (i + n / 64)
  have l2 := lim_lt m (i + n / 64 + 1)
  have hs : n % 64 < 64 := Nat.mod_lt _ (by decide)
  generalize lim m (i + n / 64) = a at *
  generalize lim m (i + n / 64 + 1) = b at *
  generalize n % 64 = s at *
  clear e
  have hWs : W64 = 2 ^ s * 2 ^ (64 - s) := by rw [show W64 = 2 ^ 64 from rfl, ← Nat.pow_add]; congr 1; omega
  have hp1 : 0 < 2 ^ s := Nat.pow_pos (by decide)
  have ha : a / 2 ^ s < 2 ^ (64 - s) := by
    rw [Nat.div_lt_iff_lt_mul hp1, Nat.mul_comm, ← hWs]
    exact l1
  have w1 : ((a : Nat) / 2 ^ s : Int) = ((a / 2 ^ s : Nat) : Int) := by push_cast; rfl
  have w2 : IntKind.u64.wrap ((b : Nat) * 2 ^ (64 - s) : Int) = ((b * 2 ^ (64 - s) % W64 : Nat) : Int) := by
    have e : ((b : Nat) * 2 ^ (64 - s) : Int) = ((b * 2 ^ (64 - s) : Nat) : Int) := by push_cast; rfl
    rw [e]
    generalize b * 2 ^ (64 - s) = y
    unfold W64
    simp [IntKind.wrap, IntKind.signed, IntKind.bits]
  have hb : b * 2 ^ (64 - s) % W64 = (b % 2 ^ s) * 2 ^ (64 - s) := by rw [hWs, Nat.mul_mod_mul_right]
  have hb2 : b * 2 ^ (64 - s) % W64 < W64 := Nat.mod_lt _ W64_pos
  have ha2 : a / 2 ^ s < W64 := Nat.lt_of_le_of_lt (Nat.div_le_self _ _) l1
  rw [w1, w2, u64_or_nat _ _ (by unfold W64 at ha2; omega) (by unfold W64 at hb2; unfold W64; omega)]
  congr 1
  rw [hb, Nat.or_comm, ← Nat.shiftLeft_eq, ← Nat.shiftLeft_add_eq_or_of_lt ha]
  omega

theorem lim_high (r i W : Nat) (h : r < W64 ^ W) (hi : W ≤ i) : lim r i = 0 := by
  unfold lim
  rw [Nat.div_eq_of_lt (Nat.lt_of_lt_of_le h (Nat.pow_le_pow_right W64_pos hi))]
  rfl
theorem outs_high (r k : Nat) (hk : k ≤ 4) (h : ∀ i, k ≤ i → i < 4 → lim r i = 0) : outs r k = ucells r := by
  have h0 := h 0
  have h1 := h 1
  have h2 := h 2
  have h3 := h 3
  rcases (show k = 0 ∨ k = 1 ∨ k = 2 ∨ k = 3 ∨ k = 4 from by omega) with rfl | rfl | rfl | rfl | rfl <;> simp_all [outs, ucells]
def shrN (m : Nat) (n : Int) : Nat := if n ≤ 0 then m else m / 2 ^ n.toNat

theorem set_twice (cs : Array Value) (j : Nat) (u v : Value) : (cs.setIfInBounds j u).setIfInBounds j v = cs.setIfInBounds j v := by
  apply Array.ext'
  simp
theorem uval_zero0 : uval 0 = .agg #[.int .u64 0, .int .u64 0, .int .u64 0, .int .u64 0] := rfl
set_option maxHeartbeats 800000 in
theorem Shr_any (m : Nat) (n : Int) (w : World) (hm : m < T) :
    Calls Try.prog 25 #[uval m, .int .i64 n] w fun e w' => e = .returned (uval (shrN m n)) ∧ Below w.heap.size w w' := by
  by_cases hn0 : n ≤ 0
  · have hr : shrN m n = m := if_pos hn0
    rw [hr]
    unfold uval
    go_enter Try.func25, Try.ntmps25
    go_wp2
    refine bodyPost_ret (v := uval m) ?_ rfl ⟨rfl, ?_⟩
    · simp [results, Try.results25, go_sem, uval]
    · exact ((Below.refl _ _).alloc (Nat.le_refl _) _).alloc (by simp) _
  · by_cases hn1 : 256 ≤ n
    · have hr : shrN m n = 0 := by
        unfold shrN
        rw [if_neg hn0]
        refine Nat.div_eq_of_lt (Nat.lt_of_lt_of_le hm ?_)
        rw [show T = 2 ^ 256 from by decide]
        exact Nat.pow_le_pow_right (by decide) (by omega)
      rw [hr]
      unfold uval
      go_enter Try.func25, Try.ntmps25
      go_wp2
      refine bodyPost_ret (v := uval 0) ?_ rfl ⟨rfl, ?_⟩
      · simp [results, Try.results25, go_sem, uval_zero0]
      · exact ((Below.refl _ _).alloc (Nat.le_refl _) _).alloc (by simp) _
    · obtain ⟨N, rfl⟩ : ∃ N : Nat, n = N := ⟨n.toNat, by omega⟩
      obtain ⟨r, hr⟩ : ∃ r, r = m / 2 ^ N := ⟨_, rfl⟩
      have hr' : shrN m (N : Int) = r := by unfold shrN; rw [if_neg hn0, hr, Int.toNat_natCast]
      rw [hr']
      obtain ⟨W, hW⟩ : ∃ W, W = N / 64 := ⟨_, rfl⟩
      obtain ⟨s, hs⟩ : ∃ s, s = N % 64 := ⟨_, rfl⟩
      have hWi : (N : Int) / 64 = (W : Int) := by omega
      have hsi : (N : Int) % 64 = (s : Int) := by omega
      have hW4 : W ≤ 3 := by omega
      have hs64 : s < 64 := by omega
      have hor : ∀ i, i + W < 3 → bits .or .u64 ((lim m (i + W) : Nat) / 2 ^ s : Int) (IntKind.u64.wrap ((lim m (i + W + 1) : Nat) * 2 ^ (64 - s) : Int)) = (lim r i : Nat) := fun i hi => by
        rw [hr, hW, hs]; exact shr_or m N i hm (by omega) (by omega)
      have hlast : ∀ i, i + W = 3 → ((lim m (i + W) : Nat) / 2 ^ s : Int) = (lim r i : Nat) := fun i hi => by
        have e := lim_shr m N i hm (by omega)
        rw [if_pos (by omega), if_neg (by omega), ← hW, ← hs, ← hr] at e
        rw [e]; push_cast; rfl
      have hhigh : ∀ i, 4 - W ≤ i → i < 4 → lim r i = 0 := fun i h1 h2 => by
        have e := lim_shr m N i hm h2
        rw [if_neg (by omega), if_neg (by omega), ← hr] at e
        exact e
      have HR := Lib.hid (And.intro hor (And.intro hlast hhigh)); clear hor hlast hhigh hr hr'
      have HW := Lib.hid (And.intro hW hs); clear hW hs
      unfold uval
      go_enter Try.func25, Try.ntmps25
      go_wp2
      go_loopw [8] (fun i wr => ∃ j : Nat, j + W ≤ 4 ∧ i = .int .i64 j ∧ Blk wr (w.heap.size) 34 (ucells m) ∧ Blk wr (w.heap.size + 1) 34 (outs 0 0) ∧ Blk wr (w.heap.size + 1 + 1) 34 (outs r j) ∧ Below w.heap.size w wr) (fun i _ => 4 - (intOf i).toNat)
      case atStart =>
        refine ⟨0, by omega, rfl, ?_, ?_, ?_, ?_⟩
        · exact ((Blk.newAt _ _ _ (by simp)).alloc _).alloc _
        · exact (Blk.newAt _ _ _ (by simp)).alloc _
        · exact Blk.newAt _ _ _ (by simp)
        · exact (((Below.refl _ _).alloc (Nat.le_refl _) _).alloc (by simp) _).alloc (by simp; omega) _
      case round =>
        obtain ⟨j, hj, rfl, h1, h3, h4, hb⟩ := hrel
        by_cases hlt : j + W < 4
        · have c1 := blk_get h1 (j + W) _ (ucells_at m (j + W) hlt)
          obtain ⟨v4, hv4⟩ := outs_at r j j (by omega)
          have c4 := blk_get h4 j _ hv4
          have f4 := h4.frozen j
          have hlt' : (j : Int) + (W : Int) < 4 := by omega
          have hj4 : j < 4 := by omega
          by_cases hlt3 : j + W < 3
          · have hlt3' : (j : Int) + (W : Int) < 3 := by omega
            have c2 := blk_get h1 (j + W + 1) _ (ucells_at m (j + W + 1) (by omega))
            have vor := HR.out.1 j hlt3
            have H := Lib.hid (And.intro h1 (And.intro h3 (And.intro h4 hb))); clear h1 h3 h4 hb hv4
            have hj1 : (j : Int) + (W : Int) + 1 < 4 := by omega
            have hj0 : (j : Int) < 4 := by omega
            have hs0 : (s : Int) ≤ 64 := by omega
            go_wp2
            go_region
            go_wp2
            obtain ⟨h1, h3, h4, hb⟩ := H.out
            go_roundw
            case rel =>
              exact ⟨j + 1, by omega, by go_num, ((h1.far (by omega) _).far (by omega) _).drew, ((h3.far (by omega) _).far (by omega) _).drew, (((h4.set_ j _).set_ j _).to (by rw [set_twice]; exact outs_set r j hj4)).drew, ((hb.setCell (by simp; omega) _).setCell (by simp; omega) _).drew⟩
            case measure => simp [intOf]; omega
          · have hge : ¬ ((j : Int) + (W : Int) < 3) := by omega
            have vl := HR.out.2.1 j (by omega)
            have H := Lib.hid (And.intro h1 (And.intro h3 (And.intro h4 hb))); clear h1 h3 h4 hb hv4
            go_wp2
            obtain ⟨h1, h3, h4, hb⟩ := H.out
            go_roundw
            case rel =>
              exact ⟨j + 1, by omega, by go_num, h1.far (by omega) _, h3.far (by omega) _, (h4.set_ j _).to (outs_set r j hj4), hb.setCell (by simp; omega) _⟩
            case measure => simp [intOf]; omega
        · obtain rfl : j = 4 - W := by omega
          have hge : ¬ (((4 - W : Nat) : Int) + (W : Int) < 4) := by omega
          have HO := Lib.hid hb; clear hb
          have q3 := h3.cell
          have f3 := h3.frozen
          rw [outs_high r (4 - W) (by omega) HR.out.2.2] at h4
          have q4 := h4.cell
          simp only [ucells] at q4
          simp only [outs] at q3
          clear h1 h3 h4
          go_wp2
          refine bodyPost_ret (v := uval r) ?_ rfl ⟨rfl, ?_⟩
          · simp [results, Try.results25, go_sem, uval, q3]
          · exact (((HO.out.setCell (by simp) _).setCell (by simp) _).setCell (by simp) _).setCell (by simp) _
end Go.Proofs.Ytndockjflnicjaa
