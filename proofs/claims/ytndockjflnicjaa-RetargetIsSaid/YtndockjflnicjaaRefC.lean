/- The document's Cmp, Len, Not, Of. -/
import Derived.Test.YtndockjflnicjaaRefB
namespace Go.Proofs.Ytndockjflnicjaa
open Go.RowKit
set_option linter.unusedVariables false
set_option maxRecDepth 100000 in
set_option maxHeartbeats 2000000 in
theorem RCmp_any (m n : Nat) (c : Int) (w : World) (h : CmpIs m n c) :
    Calls Try.prog 43 #[uval m, uval n] w fun e w' => e = .returned (.int .i64 c) ∧ Below w.heap.size w w' := by
  obtain ⟨hm, hn, hc⟩ := h
  obtain ⟨D0, hD0⟩ : ∃ D, D = bc (dig m) := ⟨_, rfl⟩
  have sD0 : D0.size = 256 := by rw [hD0]; exact bc_size _
  have aD0 : D0.all (·.oneCell') = true := by rw [hD0]; exact bc_one _
  have iD0 := isB D0 sD0
  have cD0 := fun w => digits_any m w
  rw [← hD0] at cD0
  obtain ⟨D1, hD1⟩ : ∃ D, D = bc (dig n) := ⟨_, rfl⟩
  have sD1 : D1.size = 256 := by rw [hD1]; exact bc_size _
  have aD1 : D1.all (·.oneCell') = true := by rw [hD1]; exact bc_one _
  have iD1 := isB D1 sD1
  have cD1 := fun w => digits_any n w
  rw [← hD1] at cD1
  obtain ⟨Z, hZ⟩ : ∃ Z, Z = bc fun _ => 0 := ⟨_, rfl⟩
  have HA := allocZ_of hZ
  have sZ0 : Z.size = D0.size := by rw [sD0, hZ]; exact bc_size _
  have sZ1 : Z.size = D1.size := by rw [sD1, hZ]; exact bc_size _
  have P := Lib.hid (And.intro hZ (And.intro hD0 (And.intro cD0 (And.intro hD1 (And.intro cD1 trivial))))); clear hZ hD0 cD0 sD0 hD1 cD1 sD1
  have HC := Lib.hid (And.intro hc (And.intro hm hn)); clear hc hm hn
  unfold uval
  go_enter Try.func43, Try.ntmps43
  go_wp2_with fail
  refine (P.out.2.2.1 _).mono ?_
  rintro e w1 ⟨rfl, hb1⟩
  have A1 : Blk w1 (w.heap.size) 63 (ucells m) := ((Blk.newAt _ _ _ rfl).alloc _).calls hb1
  have A2 : Blk w1 (w.heap.size + 1) 63 (ucells n) := (Blk.snd _ _ _ _).calls hb1
  have AB : Below w.heap.size w w1 := bt (ba (ba (Below.refl _ _) _) _) hb1
  clear hb1
  have l3 := A2.lt
  have N1 : Blk _ w1.heap.size 81 Z := Blk.new w1 81 Z
  have X1 := N1.row D0
  have B1 := (A1.alloc (.cells Z 81)).rowFar (b := w1.heap.size) (by omega) D0
  have B2 := (A2.alloc (.cells Z 81)).rowFar (b := w1.heap.size) (by omega) D0
  have BB := setRow_below (g := w1.heap.size) (ba AB (.cells Z 81)) AB.size D0
  have c2 := cl4 B2
  have K := Lib.hid (And.intro X1 BB); clear A1 A2 AB X1 B1 B2 BB
  go_wp2_with (first | with_reducible refine HA.out rfl rfl ?_ | with_reducible refine ws_row N1 _ _ _ _ rfl rfl rfl rfl iD0 sZ0 aD0 ?_)
  refine (P.out.2.2.2.2.1 _).mono ?_
  rintro e w2 ⟨rfl, hb2⟩
  clear c2 N1
  have zz : w1.heap.size < w2.heap.size := (K.out.1.calls hb2).lt
  have N2 : Blk _ w2.heap.size 81 Z := Blk.new w2 81 Z
  have Y := N2.row D1
  have X := ((K.out.1.calls hb2).alloc (.cells Z 81)).rowFar (b := w2.heap.size) (by omega) D1
  have BB := setRow_below (g := w2.heap.size) (ba (bt K.out.2 hb2) (.cells Z 81)) (by omega) D1
  have J := Lib.hid (And.intro X (And.intro Y BB)); clear X Y BB hb2 K
  go_wp2_with (first | with_reducible refine HA.out rfl rfl ?_ | with_reducible refine ws_row N2 _ _ _ _ rfl rfl rfl rfl iD1 sZ1 aD1 ?_)
  clear N2
  generalize World.setRow _ _ _ = w3 at *
  go_loopw [7] (fun i wr => ∃ j : Nat, j ≤ 256 ∧ i = .int .i64 ((j : Int) - 1) ∧ m / 2 ^ j = n / 2 ^ j ∧ Blk wr w1.heap.size 81 D0 ∧ Blk wr w2.heap.size 81 D1 ∧ Below w.heap.size w wr) (fun i _ => (intOf i + 1).toNat)
  case atStart =>
    refine ⟨256, by omega, rfl, ?_, J.out.1, J.out.2.1, J.out.2.2⟩
    rw [← T_pow, Nat.div_eq_of_lt HC.out.2.1, Nat.div_eq_of_lt HC.out.2.2]
  case round =>
    obtain ⟨j, hj, rfl, heq, h1, h2, hb⟩ := hrel
    by_cases hlt : 0 < j
    · obtain ⟨i, rfl⟩ : ∃ i, j = i + 1 := ⟨j - 1, by omega⟩
      have hi : i < 256 := by omega
      obtain ⟨x, hx⟩ : ∃ x, x = m / 2 ^ i % 2 := ⟨_, rfl⟩
      obtain ⟨y, hy⟩ : ∃ y, y = n / 2 ^ i % 2 := ⟨_, rfl⟩
      have ex : D0[i]? = some (.int .i64 (x : Nat)) := by rw [P.out.2.1, hx]; exact bc_at _ i hi
      have ey : D1[i]? = some (.int .i64 (y : Nat)) := by rw [P.out.2.2.2.1, hy]; exact bc_at _ i hi
      have cx := blk_get h1 i _ ex
      have cy := blk_get h2 i _ ey
      have i2 : (i : Int) < 256 := by omega
      have H := Lib.hid (And.intro h1 (And.intro h2 (And.intro hb (And.intro hx (And.intro hy heq))))); clear h1 h2 hb hx hy heq ex ey
      rw [show ((i + 1 : Nat) : Int) - 1 = (i : Int) by omega]
      by_cases hl : x < y
      · have hl' : (x : Int) < (y : Int) := by omega
        go_wp2
        go_quiet (fail)
        go_wp2
        obtain ⟨h1, h2, hb, hx, hy, heq⟩ := H.out
        have hlt' := half_lt m n i heq (by omega)
        go_ret
        exact ⟨ret_int (by rw [HC.out.1, if_pos hlt']), bdN hb _⟩
      · have hl' : ¬ (x : Int) < (y : Int) := by omega
        by_cases hg : y < x
        · have hg' : (y : Int) < (x : Int) := by omega
          go_wp2
          go_quiet (fail)
          go_wp2
          go_quiet (fail)
          go_wp2
          obtain ⟨h1, h2, hb, hx, hy, heq⟩ := H.out
          have hlt' := half_lt n m i heq.symm (by omega)
          go_ret
          exact ⟨ret_int (by rw [HC.out.1, if_neg (by omega), if_pos hlt']), bdN (bdN hb _) _⟩
        · have hg' : ¬ (y : Int) < (x : Int) := by omega
          go_wp2
          go_quiet (fail)
          go_wp2
          go_quiet (fail)
          go_wp2
          obtain ⟨h1, h2, hb, hx, hy, heq⟩ := H.out
          go_roundw
          case rel => exact ⟨i, by omega, rfl, half_eq m n i heq (by omega), h1.drewN _, h2.drewN _, bdN hb _⟩
          case measure => simp [intOf]
    · obtain rfl : j = 0 := by omega
      have e : m = n := by simpa using heq
      have HB := Lib.hid (And.intro hb e)
      clear hb h1 h2 heq e
      go_wp2
      go_ret
      exact ⟨ret_int (by rw [HC.out.1, HB.out.2]; simp), HB.out.1⟩
set_option maxRecDepth 100000 in
set_option maxHeartbeats 2000000 in
theorem RLen_any (m : Nat) (w : World) (hm : m < T) :
    Calls Try.prog 49 #[uval m] w fun e w' => e = .returned (.int .i64 (bl m)) ∧ Below w.heap.size w w' := by
  obtain ⟨D0, hD0⟩ : ∃ D, D = bc (dig m) := ⟨_, rfl⟩
  have sD0 : D0.size = 256 := by rw [hD0]; exact bc_size _
  have aD0 : D0.all (·.oneCell') = true := by rw [hD0]; exact bc_one _
  have iD0 := isB D0 sD0
  have cD0 := fun w => digits_any m w
  rw [← hD0] at cD0
  obtain ⟨Z, hZ⟩ : ∃ Z, Z = bc fun _ => 0 := ⟨_, rfl⟩
  have HA := allocZ_of hZ
  have sZ0 : Z.size = D0.size := by rw [sD0, hZ]; exact bc_size _
  have P := Lib.hid (And.intro hZ (And.intro hD0 (And.intro cD0 trivial))); clear hZ hD0 cD0 sD0
  have HC := Lib.hid hm; clear hm
  unfold uval
  go_enter Try.func49, Try.ntmps49
  go_wp2_with fail
  refine (P.out.2.2.1 _).mono ?_
  rintro e w1 ⟨rfl, hb1⟩
  have A1 : Blk w1 (w.heap.size) 63 (ucells m) := (Blk.newAt _ _ _ rfl).calls hb1
  have AB : Below w.heap.size w w1 := bt (ba (Below.refl _ _) _) hb1
  clear hb1
  have l3 := A1.lt
  have N1 : Blk _ w1.heap.size 81 Z := Blk.new w1 81 Z
  have X1 := N1.row D0
  have B1 := (A1.alloc (.cells Z 81)).rowFar (b := w1.heap.size) (by omega) D0
  have BB := setRow_below (g := w1.heap.size) (ba AB (.cells Z 81)) AB.size D0
  have J := Lib.hid (And.intro X1 BB); clear A1 AB X1 B1 BB
  go_wp2_with (first | with_reducible refine HA.out rfl rfl ?_ | with_reducible refine ws_row N1 _ _ _ _ rfl rfl rfl rfl iD0 sZ0 aD0 ?_)
  clear N1
  generalize World.setRow _ _ _ = w3 at *
  go_loopw [4] (fun i wr => ∃ j : Nat, j ≤ 256 ∧ i = .int .i64 ((j : Int) - 1) ∧ m < 2 ^ j ∧ Blk wr w1.heap.size 81 D0 ∧ Below w.heap.size w wr) (fun i _ => (intOf i + 1).toNat)
  case atStart =>
    refine ⟨256, by omega, rfl, ?_, J.out.1, J.out.2⟩
    rw [← T_pow]
    exact HC.out
  case round =>
    obtain ⟨j, hj, rfl, heq, h1, hb⟩ := hrel
    by_cases hlt : 0 < j
    · obtain ⟨i, rfl⟩ : ∃ i, j = i + 1 := ⟨j - 1, by omega⟩
      have hi : i < 256 := by omega
      obtain ⟨x, hx⟩ : ∃ x, x = m / 2 ^ i % 2 := ⟨_, rfl⟩
      have ex : D0[i]? = some (.int .i64 (x : Nat)) := by rw [P.out.2.1, hx]; exact bc_at _ i hi
      have cx := blk_get h1 i _ ex
      have i2 : (i : Int) < 256 := by omega
      have hx2 : x < 2 := by omega
      have H := Lib.hid (And.intro h1 (And.intro hb (And.intro hx heq))); clear h1 hb hx heq ex
      rw [show ((i + 1 : Nat) : Int) - 1 = (i : Int) by omega]
      by_cases hl : x = 1
      · have hl' : ((x : Int) == 1) = true := by simp [hl]
        have hl2 := Lib.hid hl; clear hl
        go_wp2
        obtain ⟨h1, hb, hx, heq⟩ := H.out
        go_ret
        refine ⟨ret_int ?_, hb⟩
        have b1 := (bl_lt m (i + 1)).2 heq
        have b2 : ¬ bl m ≤ i := fun h => by
          have := (bl_lt m i).1 h
          rw [Nat.div_eq_of_lt this] at hx
          have := hl2.out
          omega
        omega
      · have hl' : ((x : Int) == 1) = false := by simp; omega
        have hl2 := Lib.hid hl; clear hl
        go_wp2
        obtain ⟨h1, hb, hx, heq⟩ := H.out
        go_roundw
        case rel =>
          refine ⟨i, by omega, rfl, ?_, h1, hb⟩
          have h0 : m / 2 ^ i % 2 = 0 := by have := hl2.out; omega
          have hq : m / 2 ^ i < 2 := by rw [Nat.div_lt_iff_lt_mul (Nat.two_pow_pos i)]; rw [Nat.pow_succ] at heq; omega
          have hz : m / 2 ^ i = 0 := by clear hx; generalize m / 2 ^ i = q at *; omega
          rcases Nat.lt_or_ge m (2 ^ i) with h | h
          · exact h
          · have := (Nat.div_pos h (Nat.two_pow_pos i)); omega
        case measure => simp [intOf]
    · obtain rfl : j = 0 := by omega
      have e : m = 0 := by simpa using heq
      have HB := Lib.hid (And.intro hb e)
      clear hb h1 heq e
      go_wp2
      go_ret
      exact ⟨ret_int (by rw [HB.out.2]; rfl), HB.out.1⟩
theorem dig_not (m r i : Nat) (h : m + r + 1 = T) (hi : i < 256) : (1 : Int) - dig m i = dig r i := by
  have e : r = 2 ^ 256 - (m + 1) := by rw [← T_pow]; omega
  have ht := Nat.testBit_two_pow_sub_succ (show m < 2 ^ 256 by rw [← T_pow]; omega) i
  rw [← e] at ht
  simp only [Nat.testBit_eq_decide_div_mod_eq, hi, decide_true, Bool.true_and] at ht
  unfold dig
  have h1 := Nat.mod_lt (m / 2 ^ i) (show 0 < 2 by decide)
  have h2 := Nat.mod_lt (r / 2 ^ i) (show 0 < 2 by decide)
  rcases (show m / 2 ^ i % 2 = 0 ∨ m / 2 ^ i % 2 = 1 by omega) with a | a <;> rw [a] at ht ⊢ <;> simp at ht <;> omega
theorem ROf_any (n : Nat) (w : World) (h : n < W64) : Calls Try.prog 37 #[.int .u64 n] w fun e w' => e = .returned (uval n) ∧ Below w.heap.size w w' := by
  have e0 : lim n 0 = n := by unfold lim; rw [Nat.pow_zero, Nat.div_one, Nat.mod_eq_of_lt h]
  have e1 : lim n 1 = 0 := lim_high n 1 1 (by simpa using h) (Nat.le_refl _)
  have e2 : lim n 2 = 0 := lim_high n 2 1 (by simpa using h) (by omega)
  have e3 : lim n 3 = 0 := lim_high n 3 1 (by simpa using h) (by omega)
  have hu : uval n = .agg #[.int .u64 n, .int .u64 0, .int .u64 0, .int .u64 0] := by unfold uval; rw [e0, e1, e2, e3]; rfl
  rw [hu]
  clear hu e0 e1 e2 e3 h
  go_enter Try.func37, Try.ntmps37
  go_wp2
  refine bodyPost_ret (v := .agg #[.int .u64 n, .int .u64 0, .int .u64 0, .int .u64 0]) (by simp [results, Try.results37, go_sem]) rfl ⟨rfl, ba (Below.refl _ _) _⟩
end Go.Proofs.Ytndockjflnicjaa
