/- target.share: a number of four parts times a number, divided. -/
import Derived.Test.YtndockjflnicjaaDivC
import Derived.Test.YtndockjflnicjaaU256e
namespace Go.Proofs.Ytndockjflnicjaa
open Go.RowKit
set_option linter.unusedVariables false
theorem pow_div_succ (P j : Nat) : P / W64 ^ j = P / W64 ^ (j + 1) * W64 + lim P j := by
  unfold lim
  rw [Nat.pow_succ, ← Nat.div_div_eq_div_mul, Nat.mul_comm]
  exact (Nat.div_add_mod _ _).symm
theorem share_digit (P d j : Nat) (hd : 0 < d) : (P / W64 ^ (j + 1) % d * W64 + lim P j) / d = lim (P / d) j ∧ (P / W64 ^ (j + 1) % d * W64 + lim P j) % d = P / W64 ^ j % d := by
  have h1 := pow_div_succ P j
  have hl := lim_lt P j
  have h2 : lim (P / d) j = P / W64 ^ j / d % W64 := by
    unfold lim
    rw [Nat.div_div_eq_div_mul, Nat.div_div_eq_div_mul, Nat.mul_comm d]
  rw [h2]
  generalize P / W64 ^ j = A at *
  generalize P / W64 ^ (j + 1) = B at *
  generalize lim P j = p at *
  have hm := Nat.div_add_mod B d
  have hr := Nat.mod_lt B hd
  generalize B / d = q at *
  generalize B % d = r at *
  have e : A = d * (q * W64) + (r * W64 + p) := by rw [h1, ← hm, Nat.add_mul, Nat.mul_assoc]; omega
  have hlt : (r * W64 + p) / d < W64 := by
    apply Nat.div_lt_of_lt_mul
    have := Nat.mul_le_mul_right W64 (show r + 1 ≤ d by omega)
    rw [Nat.add_mul, Nat.one_mul] at this
    omega
  rw [e, Nat.mul_add_div hd, Nat.mul_add_mod]
  refine ⟨?_, rfl⟩
  rw [Nat.mul_comm q, Nat.mul_add_mod, Nat.mod_eq_of_lt hlt]
/-- Part j of the product behind i rounds. -/
def pc (m k i j : Nat) : Nat := if j < i then lim (m * k) j else if j = i then mulc m k j else 0
def prodC (m k i : Nat) : Array Value := #[.int .u64 (pc m k i 0), .int .u64 (pc m k i 1), .int .u64 (pc m k i 2), .int .u64 (pc m k i 3), .int .u64 (pc m k i 4)]
theorem prodC_0 (m k : Nat) : prodC m k 0 = #[.int .u64 0, .int .u64 0, .int .u64 0, .int .u64 0, .int .u64 0] := by
  simp [prodC, pc, mulc_zero]
theorem prodC_at (m k i : Nat) (h : i < 5) : (prodC m k i)[i]? = some (.int .u64 (mulc m k i)) := by
  rcases (show i = 0 ∨ i = 1 ∨ i = 2 ∨ i = 3 ∨ i = 4 from by omega) with rfl | rfl | rfl | rfl | rfl <;> simp [prodC, pc]
theorem prodC_low (m k j : Nat) (h : j < 4) : (prodC m k 4)[j]? = some (.int .u64 (lim (m * k) j)) := by
  rcases (show j = 0 ∨ j = 1 ∨ j = 2 ∨ j = 3 from by omega) with rfl | rfl | rfl | rfl <;> simp [prodC, pc]
theorem prodC_set (m k i : Nat) (h : i < 4) : ((prodC m k i).setIfInBounds i (.int .u64 (lim (m * k) i))).setIfInBounds (i + 1) (.int .u64 (mulc m k (i + 1))) = prodC m k (i + 1) := by
  rcases (show i = 0 ∨ i = 1 ∨ i = 2 ∨ i = 3 from by omega) with rfl | rfl | rfl | rfl <;> simp [prodC, pc]
theorem prodC_any (m k i j : Nat) (h : j < 5) : ∃ v, (prodC m k i)[j]? = some v := by
  rcases (show j = 0 ∨ j = 1 ∨ j = 2 ∨ j = 3 ∨ j = 4 from by omega) with rfl | rfl | rfl | rfl | rfl <;> exact ⟨_, rfl⟩
/-- The parts of s from k on, zeros ahead of them. -/
def tops (s k : Nat) : Array Value := #[if k ≤ 0 then lv s 0 else .int .u64 0, if k ≤ 1 then lv s 1 else .int .u64 0, if k ≤ 2 then lv s 2 else .int .u64 0, if k ≤ 3 then lv s 3 else .int .u64 0]
theorem tops_set (s k : Nat) (h : k < 4) : (tops s (k + 1)).setIfInBounds k (.int .u64 (lim s k)) = tops s k := by
  rcases (show k = 0 ∨ k = 1 ∨ k = 2 ∨ k = 3 from by omega) with rfl | rfl | rfl | rfl <;> simp [tops]
theorem tops_at (s k j : Nat) (h : j < 4) : ∃ v, (tops s k)[j]? = some v := by
  rcases (show j = 0 ∨ j = 1 ∨ j = 2 ∨ j = 3 from by omega) with rfl | rfl | rfl | rfl <;> exact ⟨_, rfl⟩
theorem tops_full (s : Nat) : tops s 0 = ucells s := by simp [tops, ucells]
theorem tops_none (s : Nat) : tops s 4 = #[.int .u64 0, .int .u64 0, .int .u64 0, .int .u64 0] := by simp [tops]
set_option maxRecDepth 100000 in
set_option maxHeartbeats 4000000 in
theorem Share_any (m k d : Nat) (hm : m < T) (hk : k < W64) (hd0 : 0 < d) (hd : d < W64) (w : World) :
    Calls Try.prog 35 #[uval m, .int .u64 k, .int .u64 d] w fun e w' => e = .returned (.tuple #[uval (m * k / d), .bool (decide (m * k / d < T))]) ∧ Below w.heap.size w w' := by
  have hmul : ∀ j, j < 4 → ∃ hi lo c : Nat, (∀ w, Calls Try.prog 31 #[.int .u64 (lim m j), .int .u64 k] w fun e w' => e = .returned (.tuple #[.int .u64 hi, .int .u64 lo]) ∧ w' = w) ∧
      (∀ w, (callFunc 32 #[.int .u64 (mulc m k j), .int .u64 lo, .int .u64 0]).run Try.prog w = .ok (.value (.tuple #[.int .u64 (lim (m * k) j), .int .u64 c])) w) ∧ hi + c = mulc m k (j + 1) := by
    intro j hj
    have st := mulc_step m k j
    have l1 := mulc_lt m k j hk
    have l2 := mulc_lt m k (j + 1) hk
    have l3 := lim_lt m j
    have l4 := lim_lt (m * k) j
    have hW := W64_pos
    obtain ⟨p, hp⟩ : ∃ p, p = lim m j * k := ⟨_, rfl⟩
    have d1 := Nat.div_add_mod p W64
    have d2 := Nat.mod_lt p hW
    have hc : ∃ c, c ≤ 1 ∧ mulc m k j + p % W64 + 0 = lim (m * k) j + W64 * c ∧ p / W64 + c = mulc m k (j + 1) := by
      rw [← hp] at st
      generalize p / W64 = h at *
      generalize p % W64 = l at *
      generalize mulc m k j = a at *
      generalize mulc m k (j + 1) = a' at *
      generalize lim (m * k) j = s at *
      unfold W64 at *
      exact ⟨a' - h, by omega, by omega, by omega⟩
    obtain ⟨c, hc1, hc2, hc3⟩ := hc
    refine ⟨p / W64, p % W64, c, fun w => Mul64_any _ _ _ _ l3 hk d2 (by rw [← hp, Nat.mul_comm]; omega) w, fun w => ?_, hc3⟩
    exact add64_run (mulc m k j) (p % W64) 0 (lim (m * k) j) c (by omega) l4 hc2 w
  have hab : ∀ j, j ≤ 4 → mulc m k j < W64 := fun j _ => mulc_lt m k j hk
  have htop : mulc m k 4 = m * k / W64 ^ 4 := by unfold mulc; rw [Nat.mod_eq_of_lt (by rw [← T_eq]; exact hm)]
  have hdig : ∀ j, j < 4 → ∀ w, Calls Try.prog 45 #[.int .u64 (m * k / W64 ^ (j + 1) % d : Nat), .int .u64 (lim (m * k) j), .int .u64 d] w fun e w' => e = .returned (.tuple #[.int .u64 (lim (m * k / d) j), .int .u64 (m * k / W64 ^ j % d : Nat)]) ∧ Below w.heap.size w w' := by
    intro j _ w
    have h := Div64_any (m * k / W64 ^ (j + 1) % d) (lim (m * k) j) d (Nat.mod_lt _ hd0) (lim_lt _ _) hd w
    rw [(share_digit (m * k) d j hd0).1, (share_digit (m * k) d j hd0).2] at h
    exact h
  obtain ⟨top, ht⟩ : ∃ top, top = mulc m k 4 / d := ⟨_, rfl⟩
  have hfin : ((top : Int) == 0) = decide (m * k / d < T) := by
    have e : top = m * k / d / T := by rw [ht, htop, ← T_eq, Nat.div_div_eq_div_mul, Nat.div_div_eq_div_mul, Nat.mul_comm d]
    have e0 : m * k / d / T = 0 ↔ m * k / d < T := by rw [Nat.div_eq_zero_iff]; constructor; (rintro (h | h); exact absurd h (by decide); exact h); exact .inr
    rw [Bool.eq_iff_iff, decide_eq_true_eq, ← e0, ← e]
    simp
  have e1 : Int.tdiv (mulc m k 4 : Int) (d : Int) = (top : Int) := by rw [ht]; simp [Int.tdiv]
  have e2 : IntKind.u64.wrap (top : Int) = (top : Int) := by
    have : top < W64 := by rw [ht]; exact Nat.lt_of_le_of_lt (Nat.div_le_self _ _) (hab 4 (by omega))
    unfold W64 at this
    rw [IntKind.wrap_u64]; clear ht hfin e1; omega
  have e3 : Int.tmod (mulc m k 4 : Int) (d : Int) = ((m * k / W64 ^ 4 % d : Nat) : Int) := by rw [← htop]; simp [Int.tmod]
  clear ht
  have hdn : ¬ d = 0 := by omega
  generalize decide (m * k / d < T) = fits at *
  have HA := Lib.hid (And.intro hmul (And.intro hab (And.intro hdig (And.intro hfin (And.intro e1 (And.intro e2 (And.intro e3 hdn))))))); clear hmul hab hfin hdig e1 e2 e3 htop hdn
  clear hm hk hd0 hd
  unfold uval
  go_enter Try.func35, Try.ntmps35
  go_wp2
  go_loopw [17] (fun i wr => ∃ j : Nat, j ≤ 4 ∧ i = .int .i64 j ∧ Blk wr (w.heap.size) 34 (ucells m) ∧ Blk wr (w.heap.size + 1) 34 (outs 0 0) ∧ Blk wr (w.heap.size + 1 + 1) 79 (prodC m k j) ∧ Below w.heap.size w wr) (fun i _ => 4 - (intOf i).toNat)
  case atStart =>
    refine ⟨0, by omega, rfl, ?_, ?_, ?_, ?_⟩
    · exact ((Blk.newAt _ _ _ (by simp)).alloc _).alloc _
    · exact (Blk.newAt _ _ _ (by simp)).alloc _
    · rw [prodC_0]; exact Blk.newAt _ _ _ (by simp)
    · exact (((Below.refl _ _).alloc (Nat.le_refl _) _).alloc (by simp) _).alloc (by simp; omega) _
  case round =>
    obtain ⟨j, hj, rfl, h1, h3, h4, hb⟩ := hrel
    by_cases hlt : j < 4
    · obtain ⟨hi, lo, c, hmul, hadd, hsum⟩ := HA.out.1 j hlt
      have hnext := HA.out.2.1 (j + 1) (by omega)
      have c1 := blk_get h1 j _ (ucells_at m j hlt)
      have c4 := blk_get h4 j _ (prodC_at m k j (by omega))
      have f4 := h4.frozen j
      obtain ⟨v5, hv5⟩ := prodC_any m k j (j + 1) (by omega)
      have c5 := blk_get h4 (j + 1) _ hv5
      have f5 := h4.frozen (j + 1)
      have hsz : IntKind.u64.wrap ((hi : Int) + (c : Int)) = (mulc m k (j + 1) : Nat) := by unfold W64 at hnext; rw [IntKind.wrap_u64]; omega
      have hx1 : IntKind.i64.wrap ((j : Int) + 1) = ((j + 1 : Nat) : Int) := by simp [IntKind.wrap, IntKind.signed, IntKind.bits]; omega
      obtain ⟨j1, hj1⟩ : ∃ j1, j1 = j + 1 := ⟨_, rfl⟩
      have hset := prodC_set m k j hlt
      rw [← hj1] at hset hsz hx1 c5 f5 hsum hnext
      have hlt5 : j < 5 := by omega
      have hlt1 : j1 < 5 := by omega
      have hle1 : j1 ≤ 4 := by omega
      have hne : j ≠ j1 := by omega
      have CM := Lib.hid hmul; clear hmul
      have H := Lib.hid (And.intro h1 (And.intro h3 (And.intro h4 (And.intro hb (And.intro hset (And.intro hj1 hle1)))))); clear h1 h3 h4 hb hset hj1 hsum hnext hle1 hv5
      go_wp2_with (go_at_call 31; refine (CM.out _).mono ?_; rintro e w' ⟨rfl, rfl⟩)
      obtain ⟨h1, h3, h4, hb, hset, hj1, hle1⟩ := H.out
      go_roundw
      case rel =>
        refine ⟨j1, hle1, rfl, (h1.far (by omega) _).far (by omega) _, (h3.far (by omega) _).far (by omega) _, ?_, (hb.setCell (by simp; omega) _).setCell (by simp; omega) _⟩
        exact ((h4.set_ j _).set_ j1 _).to hset
      case measure => simp [intOf]; omega
    · obtain rfl : j = 4 := by omega
      have e1 := HA.out.2.2.2.2.1
      have e2 := HA.out.2.2.2.2.2.1
      have e3 := HA.out.2.2.2.2.2.2.1
      have hdn := HA.out.2.2.2.2.2.2.2
      obtain ⟨L, hL⟩ : ∃ L, L = m * k / W64 ^ 4 % d := ⟨_, rfl⟩
      rw [← hL] at e3
      have HL := Lib.hid hL; clear hL
      have b1 := h1.alloc (.cells #[.int .u64 0, .int .u64 0, .int .u64 0, .int .u64 0] 34)
      have b3 := h3.alloc (.cells #[.int .u64 0, .int .u64 0, .int .u64 0, .int .u64 0] 34)
      have b4 := h4.alloc (.cells #[.int .u64 0, .int .u64 0, .int .u64 0, .int .u64 0] 34)
      have b5 := Blk.new wr 34 #[.int .u64 0, .int .u64 0, .int .u64 0, .int .u64 0]
      have bb := ba hb (.cells #[.int .u64 0, .int .u64 0, .int .u64 0, .int .u64 0] 34)
      have l4 := h4.lt
      have l3 := h3.lt
      have c4 := blk_get b4 4 _ (prodC_at m k 4 (by omega))
      generalize mulc m k 4 = p4 at *
      have H := Lib.hid (And.intro b3 (And.intro b4 (And.intro b5 (And.intro bb (And.intro l3 l4))))); clear h1 h3 h4 hb b1 b3 b4 b5 bb l3 l4
      go_wp2_with fail
      go_quiet (fail)
      go_wp2
      clear e1 e2 e3 hdn c4
      go_loopw [15, 16] (fun vl vi wq => ∃ (j : Nat) (z : Int), j ≤ 4 ∧ vi = .int .i64 z ∧ z = (j : Int) - 1 ∧ vl = .int .u64 (m * k / W64 ^ j % d : Nat) ∧ Blk wq (w.heap.size + 1) 34 (outs 0 0) ∧ Blk wq (w.heap.size + 1 + 1) 79 (prodC m k 4) ∧ Blk wq wr.heap.size 34 (tops (m * k / d) j) ∧ Below w.heap.size w wq) (fun _ i _ => (intOf i + 1).toNat)
      case atStart =>
        refine ⟨4, 3, by omega, rfl, by omega, by rw [HL.out], ?_, ?_, ?_, ?_⟩
        · exact H.out.1.drewN _
        · exact H.out.2.1.drewN _
        · rw [tops_none]; exact H.out.2.2.1.drewN _
        · exact bdN H.out.2.2.2.1 _
      case round =>
        obtain ⟨j, z, hj, rfl, hz, rfl, h3, h4, h5, hb⟩ := hrel
        by_cases hj0 : j = 0
        · subst hj0
          obtain rfl : z = -1 := by omega
          have hfin := HA.out.2.2.2.1
          clear hz
          rw [tops_full] at h5
          have HO := Lib.hid hb; clear hb
          have ll := H.out.2.2.2.2
          have q3 := h3.cell
          have f3 := h3.frozen
          have q5 := h5.cell
          simp only [ucells] at q5
          simp only [outs] at q3
          have HQ := Lib.hid (And.intro h3 h5)
          clear h3 h4 h5
          generalize m * k / W64 ^ 0 % d = L0
          go_wp2
          refine bodyPost_ret (v := .tuple #[uval (m * k / d), .bool fits]) ?_ rfl ⟨rfl, ?_⟩
          · simp [results, Try.results35, go_sem, uval, q3]
          · exact (((HO.out.setCell (by simp) _).setCell (by simp) _).setCell (by simp) _).setCell (by simp) _
        · obtain ⟨jj, rfl⟩ : ∃ jj, j = jj + 1 := ⟨j - 1, by omega⟩
          obtain rfl : z = (jj : Int) := by omega
          clear hz hj0
          have hdig := HA.out.2.2.1 jj (by omega)
          have hlt : jj < 4 := by omega
          have hlt5 : jj < 5 := by omega
          have c4 := blk_get h4 jj _ (prodC_low m k jj hlt)
          obtain ⟨v5, hv5⟩ := tops_at (m * k / d) (jj + 1) jj hlt
          have c5 := blk_get h5 jj _ hv5
          have f5 := h5.frozen jj
          have l3 := h3.lt
          have l4 := h4.lt
          have l5 := h5.lt
          obtain ⟨z', hz'⟩ : ∃ z' : Int, z' = (jj : Int) - 1 := ⟨_, rfl⟩
          have hx : IntKind.i64.wrap ((jj : Int) - 1) = z' := by rw [hz']; simp [IntKind.wrap, IntKind.signed, IntKind.bits]; omega
          have hset := tops_set (m * k / d) jj hlt
          have HD := Lib.hid hdig; clear hdig
          have HZ := Lib.hid (And.intro hz' (And.intro hset hv5)); clear hz' hset hv5
          have K := Lib.hid (And.intro h3 (And.intro h4 (And.intro h5 hb))); clear h3 h4 h5 hb
          generalize hN : m * k / W64 ^ (jj + 1) % d = N1 at *
          generalize hN' : m * k / W64 ^ jj % d = N0 at *
          have HN := Lib.hid (And.intro hN hN'); clear hN hN'
          go_wp2_with fail
          refine (HD.out _).mono ?_
          rintro e w2 ⟨rfl, hb2⟩
          have k3 := K.out.1.calls hb2
          have k4 := K.out.2.1.calls hb2
          have k5 := K.out.2.2.1.calls hb2
          have kb := K.out.2.2.2.trans (hb2.mono (by have := K.out.1.lt; omega))
          have c6 := blk_get k5 jj _ HZ.out.2.2
          have f6 := k5.frozen jj
          have K2 := Lib.hid (And.intro k3 (And.intro k4 (And.intro k5 kb))); clear k3 k4 k5 kb hb2 c4 c5 f5
          go_wp2
          go_roundw
          case rel =>
            refine ⟨.int .u64 (N0 : Nat), .int .i64 z', _, _, _, _, _, _, _, _, _, _, _, _, _, _, _, ⟨jj, z', by omega, rfl, HZ.out.1, by rw [HN.out.2], ?_, ?_, ?_, ?_⟩, rfl⟩
            · exact K2.out.1.far (by have := H.out.2.2.2.2.1; omega) _
            · exact K2.out.2.1.far (by have := H.out.2.2.2.2.2; omega) _
            · exact (K2.out.2.2.1.set_ jj _).to HZ.out.2.1
            · exact K2.out.2.2.2.setCell (Nat.le_of_lt (Nat.lt_of_succ_lt H.out.2.2.2.2.1)) _
          case measure => have := HZ.out.1; simp [intOf]; omega
end Go.Proofs.Ytndockjflnicjaa
