/- What u256's product with a small number comes to. -/
import Derived.Test.YtfebknplkbeblaaDoorU256d
namespace Go.Proofs.YtfebknplkbeblaaDoor
open Go.RowKit
set_option linter.unusedVariables false

/-- What is carried into part j of m times k. -/
def mulc (m k j : Nat) : Nat := (m % W64 ^ j * k) / W64 ^ j
theorem mulc_zero (m k : Nat) : mulc m k 0 = 0 := by simp [mulc, Nat.mod_one]
theorem mulc_lt (m k j : Nat) (hk : k < W64) : mulc m k j < W64 := by
  unfold mulc
  have hA := pow_pos' j
  have h1 := Nat.mod_lt m hA
  rw [Nat.div_lt_iff_lt_mul hA]
  calc m % W64 ^ j * k ≤ m % W64 ^ j * W64 := Nat.mul_le_mul_left _ (by omega)
    _ < W64 ^ j * W64 := Nat.mul_lt_mul_of_pos_right h1 W64_pos
    _ = W64 * W64 ^ j := Nat.mul_comm _ _
theorem mulc_step (m k j : Nat) : lim m j * k + mulc m k j = lim (m * k) j + W64 * mulc m k (j + 1) := by
  unfold mulc lim
  have hA := pow_pos' j
  have hX := W64_pos
  have e1 : m % W64 ^ (j + 1) = m % W64 ^ j + W64 ^ j * (m / W64 ^ j % W64) := by rw [Nat.pow_succ, Nat.mod_mul]
  have e2 : m * k / W64 ^ j = m / W64 ^ j * k + m % W64 ^ j * k / W64 ^ j := by
    have h := Nat.div_add_mod m (W64 ^ j)
    calc m * k / W64 ^ j = ((W64 ^ j * (m / W64 ^ j) + m % W64 ^ j) * k) / W64 ^ j := by rw [h]
      _ = (m % W64 ^ j * k + W64 ^ j * (m / W64 ^ j * k)) / W64 ^ j := by rw [Nat.add_mul, Nat.add_comm, Nat.mul_assoc]
      _ = m % W64 ^ j * k / W64 ^ j + m / W64 ^ j * k := Nat.add_mul_div_left _ _ hA
      _ = _ := Nat.add_comm _ _
  have e3 : m % W64 ^ (j + 1) * k / W64 ^ (j + 1) = (m / W64 ^ j % W64 * k + m % W64 ^ j * k / W64 ^ j) / W64 := by
    rw [Nat.pow_succ, ← Nat.div_div_eq_div_mul, ← Nat.pow_succ, e1, Nat.add_mul, Nat.mul_assoc, Nat.add_mul_div_left _ _ hA, Nat.add_comm]
  rw [e2, e3]
  generalize m / W64 ^ j = q
  generalize m % W64 ^ j * k / W64 ^ j = c
  have e4 : (q * k + c) % W64 = (q % W64 * k + c) % W64 := by
    rw [Nat.add_mod, Nat.mul_mod, Nat.add_mod (q % W64 * k), Nat.mul_mod (q % W64) k, Nat.mod_mod]
  rw [e4]
  have := Nat.div_add_mod (q % W64 * k + c) W64
  omega
abbrev ProdIs (m k r : Nat) (b : Bool) : Prop := m < T ∧ k < W64 ∧ r < T ∧ r = m * k % T ∧ b = decide (T ≤ m * k)
theorem prod_ex (m k : Nat) (hm : m < T) (hk : k < W64) : ∃ r b, ProdIs m k r b := ⟨_, _, hm, hk, Nat.mod_lt _ (by decide), rfl, rfl⟩

set_option maxHeartbeats 400000 in
theorem MulU_any (m k r : Nat) (b : Bool) (w : World) (h : ProdIs m k r b) :
    Calls Tryd.prog 58 #[uval m, .int .u64 k] w fun e w' => e = .returned (.tuple #[uval r, .bool b]) ∧ Below w.heap.size w w' := by
  obtain ⟨hm, hk, hr, hrm, hb⟩ := h
  have hmul : ∀ j, j < 4 → ∃ hi lo c : Nat, (∀ w, Calls Tryd.prog 74 #[.int .u64 (lim m j), .int .u64 k] w fun e w' => e = .returned (.tuple #[.int .u64 hi, .int .u64 lo]) ∧ w' = w) ∧
      (∀ w, (callFunc 75 #[.int .u64 lo, .int .u64 (mulc m k j), .int .u64 0]).run Tryd.prog w = .ok (.value (.tuple #[.int .u64 (lim r j), .int .u64 c])) w) ∧ hi + c = mulc m k (j + 1) := by
    intro j hj
    have st := mulc_step m k j
    have l1 := mulc_lt m k j hk
    have l2 := mulc_lt m k (j + 1) hk
    have l3 := lim_lt m j
    have l4 := lim_lt (m * k) j
    have e : lim r j = lim (m * k) j := by rw [hrm, T_eq]; exact lim_mod (m * k) j hj
    have hW := W64_pos
    obtain ⟨p, hp⟩ : ∃ p, p = lim m j * k := ⟨_, rfl⟩
    have d1 := Nat.div_add_mod p W64
    have d2 := Nat.mod_lt p hW
    have hc : ∃ c, c ≤ 1 ∧ p % W64 + mulc m k j + 0 = lim r j + W64 * c ∧ p / W64 + c = mulc m k (j + 1) := by
      rw [e]
      rw [← hp] at st
      generalize p / W64 = h at *
      generalize p % W64 = l at *
      generalize mulc m k j = a at *
      generalize mulc m k (j + 1) = a' at *
      generalize lim (m * k) j = s at *
      unfold W64 at *
      exact ⟨a' - h, by omega, by omega, by omega⟩
    obtain ⟨c, hc1, hc2, hc3⟩ := hc
    refine ⟨p / W64, p % W64, c, fun w => Mul64_any _ _ _ _ l3 hk d2 (by rw [← hp, Nat.mul_comm]; omega) w, fun w => ?_, hc3⟩
    exact add64_run (p % W64) (mulc m k j) 0 (lim r j) c (by omega) (lim_lt r j) hc2 w
  have hab : ∀ j, j ≤ 4 → mulc m k j < W64 := fun j _ => mulc_lt m k j hk
  have hfin : ((mulc m k 4 : Int) != 0) = b := by
    have e : mulc m k 4 = m * k / T := by unfold mulc; rw [← T_eq, Nat.mod_eq_of_lt hm]
    have e0 : T ≤ m * k ↔ 1 ≤ m * k / T := by rw [Nat.le_div_iff_mul_le (by decide), Nat.one_mul]
    have key : ∀ z : Nat, ((z : Int) != 0) = true ↔ 1 ≤ z := fun z => by simp; omega
    rw [e, hb, Bool.eq_iff_iff, decide_eq_true_eq, e0]
    exact key _
  have HA := Lib.hid (And.intro hmul (And.intro hab hfin)); clear hmul hab hfin
  have HM := Lib.hid (And.intro hm (And.intro hk (And.intro hr (And.intro hrm hb)))); clear hm hk hr hrm hb
  unfold uval
  go_enter Tryd.func58, Tryd.ntmps58
  go_wp2
  go_loopw [7, 12] (fun c i wr => ∃ j : Nat, j ≤ 4 ∧ i = .int .i64 j ∧ c = .int .u64 (mulc m k j) ∧ Blk wr (w.heap.size) 62 (ucells m) ∧ Blk wr (w.heap.size + 1) 62 (outs 0 0) ∧ Blk wr (w.heap.size + 1 + 1) 62 (outs r j) ∧ Below w.heap.size w wr) (fun _ i _ => 4 - (intOf i).toNat)
  case atStart =>
    refine ⟨0, by omega, rfl, by rw [mulc_zero]; rfl, ?_, ?_, ?_, ?_⟩
    · exact ((Blk.newAt _ _ _ (by simp)).alloc _).alloc _
    · exact (Blk.newAt _ _ _ (by simp)).alloc _
    · exact Blk.newAt _ _ _ (by simp)
    · exact (((Below.refl _ _).alloc (Nat.le_refl _) _).alloc (by simp) _).alloc (by simp; omega) _
  case round =>
    obtain ⟨j, hj, rfl, rfl, h1, h3, h4, hb⟩ := hrel
    by_cases hlt : j < 4
    · obtain ⟨hi, lo, c, hmul, hadd, hsum⟩ := HA.out.1 j hlt
      have hnext := HA.out.2.1 (j + 1) (by omega)
      have c1 := blk_get h1 j _ (ucells_at m j hlt)
      obtain ⟨v4, hv4⟩ := outs_at r j j hlt
      have c4 := blk_get h4 j _ hv4
      have f4 := h4.frozen j
      have hsz : (hi : Int) + (c : Int) = (mulc m k (j + 1) : Nat) := by omega
      have hlt64 : (mulc m k (j + 1) : Int) ≤ 18446744073709551615 := by unfold W64 at hnext; omega
      generalize ha' : mulc m k (j + 1) = a' at *
      generalize mulc m k j = a0 at *
      have HA' := Lib.hid ha'; clear ha'
      have CM := Lib.hid hmul; clear hmul
      have H := Lib.hid (And.intro h1 (And.intro h3 (And.intro h4 (And.intro hb (And.intro hsum hnext))))); clear h1 h3 h4 hb hv4 hsum hnext
      go_wp2_with (go_at_call 74; refine (CM.out _).mono ?_; rintro e w' ⟨rfl, rfl⟩)
      obtain ⟨h1, h3, h4, hb, hsum, hnext⟩ := H.out
      go_roundw
      case rel =>
        exact ⟨j + 1, by omega, by go_num, by rw [HA'.out], h1.far (by omega) _, h3.far (by omega) _, (h4.set_ j _).to (outs_set r j hlt), hb.setCell (by simp; omega) _⟩
      case measure => simp [intOf]; omega
    · obtain rfl : j = 4 := by omega
      have hb4 := HA.out.2.2
      have HO := Lib.hid hb; clear hb
      have q3 := h3.cell
      have f3 := h3.frozen
      rw [outs_full] at h4
      have q4 := h4.cell
      simp only [ucells] at q4
      simp only [outs] at q3
      clear h1 h3 h4
      go_wp2
      refine bodyPost_ret (v := .tuple #[uval r, .bool b]) ?_ rfl ⟨rfl, ?_⟩
      · simp [results, Tryd.results58, go_sem, uval, q3]
      · exact (((HO.out.setCell (by simp) _).setCell (by simp) _).setCell (by simp) _).setCell (by simp) _
end Go.Proofs.YtfebknplkbeblaaDoor
