/- What u256.Shl comes to. -/
import Derived.Test.YtfebknplkbeblaaDoorU256f
namespace Go.Proofs.YtfebknplkbeblaaDoor
open Go.RowKit
set_option linter.unusedVariables false

/-- A number moved up inside a part. -/
theorem up_part (m s e : Nat) (hs : s < 64) : m * 2 ^ s / W64 ^ (e + 1) % W64 = lim m (e + 1) * 2 ^ s % W64 + lim m e / 2 ^ (64 - s) := by
  have hW : W64 = 2 ^ s * 2 ^ (64 - s) := by rw [show W64 = 2 ^ 64 from rfl, ← Nat.pow_add]; congr 1; omega
  have hp1 : 0 < 2 ^ s := Nat.pow_pos (by decide)
  have hp2 : 0 < 2 ^ (64 - s) := Nat.pow_pos (by decide)
  have hA := pow_pos' e
  obtain ⟨q, hq⟩ : ∃ q, q = m / W64 ^ e := ⟨_, rfl⟩
  have e1 : m * 2 ^ s / W64 ^ (e + 1) = m * 2 ^ s / W64 ^ e / W64 := by rw [Nat.pow_succ, Nat.div_div_eq_div_mul]
  have e2 : m * 2 ^ s / W64 ^ e = q * 2 ^ s + m % W64 ^ e * 2 ^ s / W64 ^ e := by
    have h := Nat.div_add_mod m (W64 ^ e)
    calc m * 2 ^ s / W64 ^ e = ((W64 ^ e * (m / W64 ^ e) + m % W64 ^ e) * 2 ^ s) / W64 ^ e := by rw [h]
      _ = (m % W64 ^ e * 2 ^ s + W64 ^ e * (m / W64 ^ e * 2 ^ s)) / W64 ^ e := by rw [Nat.add_mul, Nat.add_comm, Nat.mul_assoc]
      _ = m % W64 ^ e * 2 ^ s / W64 ^ e + m / W64 ^ e * 2 ^ s := Nat.add_mul_div_left _ _ hA
      _ = _ := by rw [hq, Nat.add_comm]
  have hc : m % W64 ^ e * 2 ^ s / W64 ^ e < 2 ^ s := by
    rw [Nat.div_lt_iff_lt_mul hA, Nat.mul_comm]
    exact Nat.mul_lt_mul_of_pos_left (Nat.mod_lt _ hA) hp1
  have l1 : lim m (e + 1) = q / W64 % W64 := by unfold lim; rw [hq, Nat.pow_succ, Nat.div_div_eq_div_mul]
  have l0 : lim m e = q % W64 := by unfold lim; rw [hq]
  rw [e1, e2, l1, l0]
  generalize m % W64 ^ e * 2 ^ s / W64 ^ e = c at *
  clear hq e1 e2 l1 l0 hA
  have e3 : (q * 2 ^ s + c) / W64 = q / 2 ^ (64 - s) := by
    rw [hW, ← Nat.div_div_eq_div_mul, Nat.add_comm, Nat.add_mul_div_right _ _ hp1, Nat.div_eq_of_lt hc, Nat.zero_add]
  rw [e3]
  have h := Nat.div_add_mod q W64
  have e4 : q / 2 ^ (64 - s) = q / W64 * 2 ^ s + q % W64 / 2 ^ (64 - s) := by
    conv => lhs; rw [← h, hW, Nat.mul_comm (2 ^ s), Nat.mul_assoc, Nat.add_comm, Nat.add_mul_div_left _ _ hp2]
    rw [← Nat.mul_comm (2 ^ s) (2 ^ (64 - s)), ← hW, Nat.mul_comm (2 ^ s), Nat.add_comm]
  have hx : q % W64 / 2 ^ (64 - s) < 2 ^ s := by
    rw [Nat.div_lt_iff_lt_mul hp2, ← hW]
    exact Nat.mod_lt _ W64_pos
  have h3 : q / W64 % W64 * 2 ^ s % W64 = q / W64 * 2 ^ s % W64 := by rw [Nat.mul_mod, Nat.mod_mod, ← Nat.mul_mod]
  rw [e4, h3]
  generalize q % W64 / 2 ^ (64 - s) = x at *
  generalize q / W64 = z at *
  rw [hW, Nat.mul_comm (2 ^ s) (2 ^ (64 - s))]
  clear e3 e4 h h3 hc hW
  generalize 2 ^ (64 - s) = P at *
  generalize 2 ^ s = S at *
  rw [Nat.mul_mod_mul_right, Nat.add_mod, Nat.mul_mod_mul_right]
  have h5 : z % P < P := Nat.mod_lt _ hp2
  have h6 : (z % P + 1) * S ≤ P * S := Nat.mul_le_mul_right _ h5
  rw [Nat.add_mul] at h6
  have h7 : S ≤ P * S := Nat.le_mul_of_pos_left _ hp2
  rw [Nat.mod_eq_of_lt (show x < P * S by omega), Nat.mod_eq_of_lt (by omega)]
theorem mod_left (a b : Nat) : a % W64 * b % W64 = a % W64 * (b % W64) % W64 := by
  rw [Nat.mul_mod, Nat.mod_mod]
theorem up_low (m s : Nat) : m * 2 ^ s % W64 = lim m 0 * 2 ^ s % W64 := by
  unfold lim
  rw [Nat.pow_zero, Nat.div_one, Nat.mul_mod]
  exact (mod_left m (2 ^ s)).symm
/-- A part of m moved up. -/
theorem lim_shl (m n i : Nat) : lim (m * 2 ^ n) i = (if n / 64 ≤ i then lim m (i - n / 64) * 2 ^ (n % 64) % W64 else 0) + (if n / 64 < i then lim m (i - n / 64 - 1) / 2 ^ (64 - n % 64) else 0) := by
  have hs : n % 64 < 64 := Nat.mod_lt _ (by decide)
  have hn : (2 : Nat) ^ n = 2 ^ (n % 64) * W64 ^ (n / 64) := by
    rw [show W64 = 2 ^ 64 from rfl, ← Nat.pow_mul, ← Nat.pow_add]
    congr 1
    omega
  generalize n / 64 = W at *
  generalize n % 64 = s at *
  rw [hn]
  unfold lim
  by_cases h1 : W ≤ i
  · rw [if_pos h1]
    have e1 : m * (2 ^ s * W64 ^ W) / W64 ^ i = m * 2 ^ s / W64 ^ (i - W) := by
      rw [← Nat.mul_assoc, show i = (i - W) + W from by omega, Nat.pow_add, Nat.add_sub_cancel, Nat.mul_div_mul_right _ _ (pow_pos' W)]
    rw [e1]
    by_cases h2 : W < i
    · rw [if_pos h2]
      obtain ⟨e, he⟩ : ∃ e, i - W = e + 1 := ⟨i - W - 1, by omega⟩
      rw [he, Nat.add_sub_cancel]
      exact up_part m s e hs
    · rw [if_neg h2, show i - W = 0 by omega, Nat.pow_zero, Nat.div_one, Nat.div_one, Nat.add_zero]
      exact ((mod_left m (2 ^ s)).trans (Nat.mul_mod _ _ _).symm).symm
  · rw [if_neg h1, if_neg (by omega)]
    have e1 : m * (2 ^ s * W64 ^ W) / W64 ^ i = m * 2 ^ s * W64 ^ (W - i - 1) * W64 := by
      rw [← Nat.mul_assoc, show W = (W - i - 1) + 1 + i from by omega, Nat.pow_add, Nat.pow_succ, ← Nat.mul_assoc, Nat.mul_div_cancel _ (pow_pos' i), show W - i - 1 + 1 + i - i - 1 = W - i - 1 by omega, Nat.mul_assoc (m * 2 ^ s)]
    rw [e1, Nat.mul_mod_left]
def shlN (m : Nat) (n : Int) : Nat := if n ≤ 0 then m else m * 2 ^ n.toNat % T
def shlB (m : Nat) (n : Int) : Bool := if n ≤ 0 then false else if 256 ≤ n then decide (m ≠ 0) else decide (256 < (bl m : Int) + n)
theorem shl_or (m N i : Nat) (h : N / 64 < i) :
    bits .or .u64 (IntKind.u64.wrap ((lim m (i - N / 64) : Nat) * 2 ^ (N % 64) : Int)) ((lim m (i - N / 64 - 1) : Nat) / 2 ^ (64 - N % 64) : Int) = (lim (m * 2 ^ N) i : Nat) := by
  have e := lim_shl m N i
  rw [if_pos (by omega), if_pos h] at e
  rw [e]
  have l1 := lim_lt m (i - N / 64)
  have l2 := lim_lt m (i - N / 64 - 1)
  have hs : N % 64 < 64 := Nat.mod_lt _ (by decide)
  generalize lim m (i - N / 64) = b at *
  generalize lim m (i - N / 64 - 1) = a at *
  generalize N % 64 = s at *
  clear e
  have hWs : W64 = 2 ^ (64 - s) * 2 ^ s := by rw [show W64 = 2 ^ 64 from rfl, ← Nat.pow_add]; congr 1; omega
  have hp1 : 0 < 2 ^ (64 - s) := Nat.pow_pos (by decide)
  have ha : a / 2 ^ (64 - s) < 2 ^ s := by
    rw [Nat.div_lt_iff_lt_mul hp1, Nat.mul_comm, ← hWs]
    exact l2
  have w1 : ((a : Nat) / 2 ^ (64 - s) : Int) = ((a / 2 ^ (64 - s) : Nat) : Int) := by push_cast; rfl
  have w2 : IntKind.u64.wrap ((b : Nat) * 2 ^ s : Int) = ((b * 2 ^ s % W64 : Nat) : Int) := by
    have e : ((b : Nat) * 2 ^ s : Int) = ((b * 2 ^ s : Nat) : Int) := by push_cast; rfl
    rw [e]
    generalize b * 2 ^ s = y
    unfold W64
    simp [IntKind.wrap, IntKind.signed, IntKind.bits]
  have hb : b * 2 ^ s % W64 = (b % 2 ^ (64 - s)) * 2 ^ s := by rw [hWs, Nat.mul_mod_mul_right]
  have hb2 : b * 2 ^ s % W64 < W64 := Nat.mod_lt _ W64_pos
  have ha2 : a / 2 ^ (64 - s) < W64 := Nat.lt_of_le_of_lt (Nat.div_le_self _ _) l2
  rw [w1, w2, u64_or_nat _ _ (by unfold W64 at hb2; unfold W64; omega) (by unfold W64 at ha2; omega)]
  congr 1
  rw [hb, ← Nat.shiftLeft_eq, ← Nat.shiftLeft_add_eq_or_of_lt ha]
theorem outs_low (r k : Nat) (hk : k ≤ 4) (h : ∀ i, i < k → lim r i = 0) : outs r k = outs 0 0 := by
  have h0 := h 0
  have h1 := h 1
  have h2 := h 2
  have h3 := h 3
  rcases (show k = 0 ∨ k = 1 ∨ k = 2 ∨ k = 3 ∨ k = 4 from by omega) with rfl | rfl | rfl | rfl | rfl <;> simp_all [outs]

set_option maxHeartbeats 1600000 in
theorem Shl_mid (m N : Nat) (w : World) (hm : m < T) (hN0 : 0 < N) (hN1 : N < 256) :
    Calls Tryd.prog 54 #[uval m, .int .i64 N] w fun e w' => e = .returned (.tuple #[uval (shlN m N), .bool (shlB m N)]) ∧ Below w.heap.size w w' := by
  have hn0 : ¬ (N : Int) ≤ 0 := by omega
  have hn1 : ¬ (256 : Int) ≤ (N : Int) := by omega
  obtain ⟨r, hr⟩ : ∃ r, r = m * 2 ^ N % T := ⟨_, rfl⟩
  obtain ⟨b, hbb⟩ : ∃ b, b = decide (256 < (bl m : Int) + N) := ⟨_, rfl⟩
  have hr' : shlN m (N : Int) = r := by unfold shlN; rw [if_neg hn0, hr, Int.toNat_natCast]
  have hb' : shlB m (N : Int) = b := by unfold shlB; rw [if_neg hn0, if_neg hn1, hbb]
  rw [hr', hb']
  obtain ⟨W, hW⟩ : ∃ W, W = N / 64 := ⟨_, rfl⟩
  obtain ⟨s, hs⟩ : ∃ s, s = N % 64 := ⟨_, rfl⟩
  have hWi : (N : Int) / 64 = (W : Int) := by omega
  have hsi : (N : Int) % 64 = (s : Int) := by omega
  have hW4 : W ≤ 3 := by omega
  have hs64 : s < 64 := by omega
  have hlr : ∀ i, i < 4 → lim r i = lim (m * 2 ^ N) i := fun i hi => by rw [hr, lim_mod _ _ hi]
  have hor : ∀ i, W < i → i < 4 → bits .or .u64 (IntKind.u64.wrap ((lim m (i - W) : Nat) * 2 ^ s : Int)) ((lim m (i - W - 1) : Nat) / 2 ^ (64 - s) : Int) = (lim r i : Nat) := fun i hi h4 => by
    rw [hlr i h4, hW, hs]; exact shl_or m N i (by omega)
  have hfirst : IntKind.u64.wrap ((lim m 0 : Nat) * 2 ^ s : Int) = (lim r W : Nat) := by
    have e := lim_shl m N W
    rw [if_pos (by omega), if_neg (by omega), ← hW, ← hs, Nat.sub_self, Nat.add_zero, ← hlr W (by omega)] at e
    have e2 : ((lim m 0 : Nat) * 2 ^ s : Int) = ((lim m 0 * 2 ^ s : Nat) : Int) := by push_cast; rfl
    rw [e2, e]
    generalize lim m 0 * 2 ^ s = y
    unfold W64
    simp [IntKind.wrap, IntKind.signed, IntKind.bits]
  have hlow : ∀ i, i < W → lim r i = 0 := fun i hi => by
    have e := lim_shl m N i
    rw [if_neg (by omega), if_neg (by omega), ← hlr i (by omega)] at e
    exact e
  have HR := Lib.hid (And.intro hor (And.intro hfirst hlow)); clear hor hfirst hlow hr hr' hlr
  have HW := Lib.hid (And.intro hW (And.intro hs (And.intro hbb hb'))); clear hW hs hbb hb'
  unfold uval
  go_enter Tryd.func54, Tryd.ntmps54
  go_wp2
  go_loopw [9] (fun i wr => ∃ j : Nat, W ≤ j ∧ j ≤ 4 ∧ i = .int .i64 j ∧ Blk wr (w.heap.size) 62 (ucells m) ∧ Blk wr (w.heap.size + 1) 62 (outs 0 0) ∧ Blk wr (w.heap.size + 1 + 1) 62 (outs r j) ∧ Below w.heap.size w wr) (fun i _ => 4 - (intOf i).toNat)
  case atStart =>
    refine ⟨W, by omega, by omega, rfl, ?_, ?_, ?_, ?_⟩
    · exact ((Blk.newAt _ _ _ (by simp)).alloc _).alloc _
    · exact (Blk.newAt _ _ _ (by simp)).alloc _
    · rw [outs_low r W (by omega) HR.out.2.2]
      exact Blk.newAt _ _ _ (by simp)
    · exact (((Below.refl _ _).alloc (Nat.le_refl _) _).alloc (by simp) _).alloc (by simp; omega) _
  case round =>
    obtain ⟨j, hWj, hj, rfl, h1, h3, h4, hb⟩ := hrel
    by_cases hlt : j < 4
    · obtain ⟨v4, hv4⟩ := outs_at r j j (by omega)
      have c4 := blk_get h4 j _ hv4
      have f4 := h4.frozen j
      by_cases hWlt : W < j
      · obtain ⟨p, hp⟩ : ∃ p, p = j - W := ⟨_, rfl⟩
        obtain ⟨p', hp'⟩ : ∃ p', p' = p - 1 := ⟨_, rfl⟩
        have hpi : (j : Int) - (W : Int) = (p : Int) := by omega
        have hpi2 : (p : Int) - 1 = (p' : Int) := by omega
        have hp4 : p < 4 := by omega
        have hp4' : p' < 4 := by omega
        have c1 := blk_get h1 p _ (ucells_at m p hp4)
        have c2 := blk_get h1 p' _ (ucells_at m p' hp4')
        have hWlt' : (W : Int) < (j : Int) := by omega
        have vor := HR.out.1 j hWlt hlt
        rw [← hp, ← hp'] at vor
        have hp0 : (p : Int) < 4 := by omega
        have hp0' : (p' : Int) < 4 := by omega
        have hj0 : (j : Int) < 4 := by omega
        have hs0 : (s : Int) ≤ 64 := by omega
        have H := Lib.hid (And.intro h1 (And.intro h3 (And.intro h4 (And.intro hb (And.intro hp hp'))))); clear h1 h3 h4 hb hv4 hp hp'
        go_wp2
        go_region
        go_wp2
        obtain ⟨h1, h3, h4, hb, hp⟩ := H.out
        go_roundw
        case rel =>
          exact ⟨j + 1, by omega, by omega, by go_num, ((h1.far (by omega) _).far (by omega) _).drew, ((h3.far (by omega) _).far (by omega) _).drew, (((h4.set_ j _).set_ j _).to (by rw [set_twice]; exact outs_set r j hlt)).drew, ((hb.setCell (by simp; omega) _).setCell (by simp; omega) _).drew⟩
        case measure => simp [intOf]; omega
      · have hjW : W = j := by omega
        have hpi : (j : Int) - (W : Int) = 0 := by omega
        have hge : ¬ ((W : Int) < (j : Int)) := by omega
        have hj0 : (j : Int) < 4 := by omega
        have hs0 : (s : Int) ≤ 64 := by omega
        have c1 := blk_get h1 0 _ (ucells_at m 0 (by omega))
        have vl := HR.out.2.1
        rw [hjW] at vl
        have H := Lib.hid (And.intro h1 (And.intro h3 (And.intro h4 (And.intro hb hjW)))); clear h1 h3 h4 hb hv4 hjW hWlt
        go_wp2
        obtain ⟨h1, h3, h4, hb, hjW⟩ := H.out
        go_roundw
        case rel =>
          exact ⟨j + 1, by omega, by omega, by go_num, h1.far (by omega) _, h3.far (by omega) _, (h4.set_ j _).to (outs_set r j hlt), hb.setCell (by simp; omega) _⟩
        case measure => simp [intOf]; omega
    · obtain rfl : j = 4 := by omega
      rw [outs_full] at h4
      have c1 := cl4 h1
      have c4 := cl4 h4
      have n1 : Cl wr.drew w.heap.size m := c1
      have n4 : Cl wr.drew (w.heap.size + 1 + 1) r := c4
      have n3 : Blk wr.drew (w.heap.size + 1) 62 (outs 0 0) := h3
      have lt3 := h3.lt
      have hbb := HW.out.2.2.1
      have hbe : decide (256 < (bl m : Int) + (N : Int)) = b := hbb.symm
      have hlen : (bl m : Int) ≤ 256 := by
        have : bl m ≤ 256 := (bl_lt m 256).2 hm
        omega
      have hlen0 : (0 : Int) ≤ (bl m : Int) := Int.natCast_nonneg _
      have hsum : IntKind.i64.wrap ((bl m : Int) + (N : Int)) = (bl m : Int) + (N : Int) := by simp [IntKind.wrap, IntKind.signed, IntKind.bits]; omega
      have H := Lib.hid (And.intro h3 hb); clear h1 h3 h4 hb hbb
      go_wp2
      go_region_held3 (fun w' => Cl w' (w.heap.size + 1 + 1) r ∧ Cl w' w.heap.size m) (first | exact ⟨n4, n1⟩ | exact ⟨k4, k1⟩ | exact ⟨(((k4.far (by omega) _).far (by omega) _).far (by omega) _).far (by omega) _, (((k1.far (by omega) _).far (by omega) _).far (by omega) _).far (by omega) _⟩) ((go_at_call 73; refine (Len_any m _ hm).mono ?_; rintro e wl ⟨rfl, hl⟩; have k4 := Cl.calls (w := wr.drew) n4 hl; have k1 := Cl.calls (w := wr.drew) n1 hl; have k3 := Blk.calls (w := wr.drew) n3 hl; have z3 := clz k3))
      clear hsum hbe
      all_goals
        go_wp2
        obtain ⟨h3, hb⟩ := H.out
        refine bodyPost_ret (v := .tuple #[uval r, .bool b]) ?_ rfl ⟨rfl, belowFill (bt (b := wr.drew) hb.drew hl) (by omega)⟩
        simp [results, Tryd.results54, go_sem, uval, z3]

set_option maxHeartbeats 800000 in
theorem Shl_any (m : Nat) (n : Int) (w : World) (hm : m < T) (hn63 : n ≤ 9223372036854775807) :
    Calls Tryd.prog 54 #[uval m, .int .i64 n] w fun e w' => e = .returned (.tuple #[uval (shlN m n), .bool (shlB m n)]) ∧ Below w.heap.size w w' := by
  by_cases hn0 : n ≤ 0
  · have hr : shlN m n = m := if_pos hn0
    have hb : shlB m n = false := if_pos hn0
    rw [hr, hb]
    unfold uval
    go_enter Tryd.func54, Tryd.ntmps54
    go_wp2
    refine bodyPost_ret (v := .tuple #[uval m, .bool false]) ?_ rfl ⟨rfl, ?_⟩
    · simp [results, Tryd.results54, go_sem, uval]
    · exact ((Below.refl _ _).alloc (Nat.le_refl _) _).alloc (by simp) _
  · by_cases hn1 : 256 ≤ n
    · have hr : shlN m n = 0 := by
        unfold shlN
        rw [if_neg hn0, show T = 2 ^ 256 from by decide, show n.toNat = 256 + (n.toNat - 256) by omega, Nat.pow_add, Nat.mul_left_comm, Nat.mul_mod_right]
      have hb : shlB m n = decide (m ≠ 0) := by unfold shlB; rw [if_neg hn0, if_pos hn1]
      obtain ⟨z, hz⟩ : ∃ z, decide (m = 0) = z := ⟨_, rfl⟩
      have hb2 : decide (m ≠ 0) = !z := by rw [← hz]; simp
      have q := fun w => eqU0 m z hm hz w
      rw [hr, hb, hb2]
      have HZ := Lib.hid hz; clear hz hb hb2
      unfold uval
      go_enter Tryd.func54, Tryd.ntmps54
      go_wp2
      go_region
      go_wp2
      refine bodyPost_ret (v := .tuple #[uval 0, .bool (!z)]) ?_ rfl ⟨rfl, ?_⟩
      · simp [results, Tryd.results54, go_sem, uval_zero0]
      · exact (((Below.refl _ _).alloc (Nat.le_refl _) _).alloc (by simp) _).drew
    · obtain ⟨N, rfl⟩ : ∃ N : Nat, n = N := ⟨n.toNat, by omega⟩
      exact Shl_mid m N w hm (by omega) (by omega)
end Go.Proofs.YtfebknplkbeblaaDoor
