/- Primes, and the cube: what Sha2Roots calls. -/
import Derived.Test.YtfebknplkbeblaaDoorLaw02Start
import Derived.Test.YtfebknplkbeblaaDoorU256e
import Derived.Test.YtfebknplkbeblaaDoorU256g
namespace Go.Proofs.YtfebknplkbeblaaDoor
open Go.RowKit
set_option linter.unusedVariables false
/-- n is prime (n below 441): no number whose square is at most n divides it. -/
def prB (n : Nat) : Bool := (List.range 21).all fun e => decide (e < 2) || decide (n < e * e) || decide (n % e ≠ 0)
def isB (n d : Nat) : Bool := (List.range d).all fun e => decide (e < 2) || decide (n % e ≠ 0)
def cntP (n : Nat) : Nat := ((List.range n).filter fun m => decide (2 ≤ m) && prB m).length
def prL : List Nat := [2, 3, 5, 7, 11, 13, 17, 19, 23, 29, 31, 37, 41, 43, 47, 53, 59, 61, 67, 71, 73, 79, 83, 89, 97, 101, 103, 107, 109, 113, 127, 131, 137, 139, 149, 151, 157, 163, 167, 173, 179, 181, 191, 193, 197, 199, 211, 223, 227, 229, 233, 239, 241, 251, 257, 263, 269, 271, 277, 281, 283, 293, 307, 311]
theorem prL_ok (i : Nat) (hi : i < 64) : prB (prL.getD i 0) = true ∧ cntP (prL.getD i 0) = i ∧ 2 ≤ prL.getD i 0 ∧ prL.getD i 0 ≤ 311 := by
  have all : ∀ i : Fin 64, prB (prL.getD i.val 0) = true ∧ cntP (prL.getD i.val 0) = i.val ∧ 2 ≤ prL.getD i.val 0 ∧ prL.getD i.val 0 ≤ 311 := by decide +kernel
  exact all ⟨i, hi⟩
theorem isB_succ (n d : Nat) (h : 2 ≤ d) : isB n (d + 1) = (isB n d && decide (n % d ≠ 0)) := by
  unfold isB
  rw [List.range_succ, List.all_append]
  have : decide (d < 2) = false := by simp; omega
  simp [this]
theorem isB_two (n : Nat) : isB n 2 = true := by
  unfold isB
  rw [List.all_eq_true]
  intro e he
  have := List.mem_range.1 he
  simp [this]
theorem isB_full (n d : Nat) (h2 : 2 ≤ d) (h21 : d ≤ 21) (h : d = 2 ∨ (d - 1) * (d - 1) ≤ n) (hn : n < d * d) : isB n d = prB n := by
  rw [Bool.eq_iff_iff]
  unfold isB prB
  simp only [List.all_eq_true, List.mem_range, Bool.or_eq_true, decide_eq_true_eq]
  constructor
  · intro H e he
    by_cases hd : e < d
    · rcases H e hd with h | h
      · exact .inl (.inl h)
      · exact .inr h
    · exact .inl (.inr (Nat.lt_of_lt_of_le hn (Nat.mul_le_mul (by omega) (by omega))))
  · intro H e he
    rcases H e (by omega) with (h' | h') | h'
    · exact .inl h'
    · rcases h with rfl | h
      · exact .inl he
      · exact absurd (Nat.lt_of_lt_of_le h' (Nat.mul_le_mul (show e ≤ d - 1 by omega) (show e ≤ d - 1 by omega))) (by omega)
    · exact .inr h'
theorem cntP_succ (n : Nat) (h : 2 ≤ n) : cntP (n + 1) = cntP n + (if prB n = true then 1 else 0) := by
  unfold cntP
  rw [List.range_succ, List.filter_append, List.length_append]
  congr 1
  by_cases hb : prB n = true
  · simp [hb, h]
  · simp [hb]
theorem cntP_mono (n : Nat) (h2 : 2 ≤ n) (k : Nat) : cntP n ≤ cntP (n + k) := by
  induction k with
  | zero => exact Nat.le_refl _
  | succ k ih => rw [← Nat.add_assoc, cntP_succ (n + k) (by omega)]; omega
theorem cntP_less (n p : Nat) (h2 : 2 ≤ n) (hp : n < p) (hb : prB n = true) : cntP n < cntP p := by
  have h1 := cntP_succ n h2
  rw [if_pos hb] at h1
  have h3 := cntP_mono (n + 1) (by omega) (p - (n + 1))
  rw [show n + 1 + (p - (n + 1)) = p by omega] at h3
  omega

set_option maxRecDepth 100000 in
set_option maxHeartbeats 1000000 in
theorem Prime_any (i p : Nat) (hi : i < 64) (hp : prL.getD i 0 = p) (w : World) :
    Calls Tryd.prog 53 #[.int .i64 i] w fun e w' => e = .returned (.int .u64 p) ∧ w' = w := by
  obtain ⟨o1, o2, o3, o4⟩ := prL_ok i hi
  rw [hp] at o1 o2 o3 o4
  have O := Lib.hid (And.intro o1 o2); clear o1 o2 hp
  go_enter Tryd.func53, Tryd.ntmps53
  go_wp2
  go_loopw [3, 4] (fun n k wr => ∃ N : Nat, n = .int .u64 N ∧ k = .int .i64 (cntP N) ∧ 2 ≤ N ∧ N ≤ p ∧ wr = w) (fun n k _ => 400 - (intOf n).toNat)
  case atStart => exact ⟨2, rfl, rfl, by omega, o3, rfl⟩
  case round =>
    obtain ⟨N, rfl, rfl, h2, hNp, rfl⟩ := hrel
    go_wp2
    go_loopw [5, 6] (fun b d wv => ∃ D : Nat, 2 ≤ D ∧ D ≤ 21 ∧ b = .bool (isB N D) ∧ d = .int .u64 D ∧ (D = 2 ∨ (D - 1) * (D - 1) ≤ N) ∧ wv = wr) (fun b d _ => 21 - (intOf d).toNat)
    case atStart => exact ⟨2, by omega, by omega, by rw [isB_two], rfl, .inl rfl, rfl⟩
    case round =>
      obtain ⟨D, hD2, hD21, rfl, rfl, hDD, rfl⟩ := hrel
      obtain ⟨DD, hd⟩ : ∃ x, x = D * D := ⟨_, rfl⟩
      have hd' : (D : Int) * (D : Int) = (DD : Int) := by rw [hd]; push_cast; rfl
      have hd4 : DD ≤ 441 := by rw [hd]; exact Nat.mul_le_mul hD21 hD21
      by_cases hlt : DD ≤ N
      · have hlt' : (DD : Int) ≤ (N : Int) := by omega
        have hD20 : D ≤ 20 := by
          rcases Nat.lt_or_ge 20 D with h | h
          · have : 21 * 21 ≤ D * D := Nat.mul_le_mul h h
            omega
          · exact h
        obtain ⟨r, hr⟩ : ∃ r, r = N % D := ⟨_, rfl⟩
        have hr' : (N : Int) % (D : Int) = (r : Int) := by rw [hr]; push_cast; rfl
        have hD0 : ¬ (D : Int) = 0 := by omega
        have hs := isB_succ N D hD2
        rw [← hr] at hs
        have hDn : D + 1 = 2 ∨ (D + 1 - 1) * (D + 1 - 1) ≤ N := .inr (by rw [Nat.add_sub_cancel, ← hd]; exact hlt)
        have H := Lib.hid (And.intro hs (And.intro hDn hD2)); clear hs hd hDD hr hDn
        obtain ⟨B, hB⟩ : ∃ B, isB N D = B := ⟨_, rfl⟩
        rw [hB] at H ⊢
        have HB := Lib.hid hB; clear hB
        cases B with
        | false =>
          go_wp2
          go_roundw
          case rel => exact ⟨D + 1, by omega, by omega, by rw [H.out.1]; rfl, by go_num, H.out.2.1, by first | rfl | trivial⟩
          case measure => simp [intOf]; omega
        | true =>
          by_cases hr0 : r = 0
          · have hr0' : (r : Int) = 0 := by omega
            go_wp2
            go_roundw
            case rel => exact ⟨D + 1, by omega, by omega, by rw [H.out.1, hr0]; rfl, by go_num, H.out.2.1, by first | rfl | trivial⟩
            case measure => simp [intOf]; omega
          · have hr0' : ¬ (r : Int) = 0 := by omega
            go_wp2
            go_roundw
            case rel => exact ⟨D + 1, by omega, by omega, by rw [H.out.1]; simp [hr0], by go_num, H.out.2.1, by first | rfl | trivial⟩
            case measure => simp [intOf]; omega
      · have hlt' : ¬ (DD : Int) ≤ (N : Int) := by omega
        have hfull := isB_full N D hD2 hD21 hDD (by omega)
        rw [hfull]
        have hN400 : ¬ (400 : Int) < (N : Int) := by omega
        have H := Lib.hid (And.intro hfull hd); clear hfull hd hDD
        by_cases hNe : N = p
        · subst hNe
          rw [O.out.1, O.out.2]
          go_wp2
          go_ret
          exact ⟨rfl, rfl⟩
        · have hsc := cntP_succ N h2
          have hne : prB N = true → cntP N < i := fun h => by
            have := cntP_less N p h2 (by omega) h
            rw [O.out.2] at this
            exact this
          obtain ⟨B, hB⟩ : ∃ B, prB N = B := ⟨_, rfl⟩
          obtain ⟨c, hc⟩ : ∃ c, cntP N = c := ⟨_, rfl⟩
          rw [hB, hc] at hsc
          rw [hc, hB] at hne
          rw [hB, hc]
          have HS := Lib.hid (And.intro hsc hc); clear hsc hc
          cases B with
          | false =>
            clear hne
            go_wp2
            go_roundw
            case rel => exact ⟨N + 1, by go_num, by rw [HS.out.1]; first | rfl | simp, by omega, by omega, by first | rfl | trivial⟩
            case measure => simp [intOf]; omega
          | true =>
            have hci := hne rfl
            clear hne
            have hci' : ¬ (c : Int) = (i : Int) := by omega
            go_wp2
            go_roundw
            case rel => exact ⟨N + 1, by go_num, by rw [HS.out.1]; first | rfl | simp, by omega, by omega, by first | rfl | trivial⟩
            case measure => simp [intOf]; omega
set_option maxRecDepth 100000 in
set_option maxHeartbeats 1000000 in
theorem Cube_any (x r1 r2 : Nat) (b1 b2 : Bool) (h1 : ProdIs x x r1 b1) (h2 : ProdIs r1 x r2 b2) (w : World) :
    Calls Tryd.prog 57 #[.int .u64 x] w fun e w' => e = .returned (uval r2) ∧ Below w.heap.size w w' := by
  have cO := fun w => Of_any x w h1.2.1
  have c1 := fun w => MulU_any x x r1 b1 w h1
  have c2 := fun w => MulU_any r1 x r2 b2 w h2
  obtain ⟨X, hX⟩ : ∃ X, X = ucells x := ⟨_, rfl⟩
  obtain ⟨R1, hR1⟩ : ∃ X, X = ucells r1 := ⟨_, rfl⟩
  obtain ⟨R2, hR2⟩ : ∃ X, X = ucells r2 := ⟨_, rfl⟩
  have u0 : uval x = .agg X := by rw [hX]; rfl
  have u1 : uval r1 = .agg R1 := by rw [hR1]; rfl
  have u2 : uval r2 = .agg R2 := by rw [hR2]; rfl
  have i1 : (Tryd.prog.info? 62).map (·.size) = some R1.size := by rw [hR1]; kernel_rfl
  have i2 : (Tryd.prog.info? 62).map (·.size) = some R2.size := by rw [hR2]; kernel_rfl
  have a1 : R1.all (·.oneCell') = true := by rw [hR1]; simp [ucells, Value.oneCell']
  have a2 : R2.all (·.oneCell') = true := by rw [hR2]; simp [ucells, Value.oneCell']
  have z1 : (#[.int .u64 0, .int .u64 0, .int .u64 0, .int .u64 0] : Array Value).size = R1.size := by rw [hR1]; rfl
  have z2 : (#[.int .u64 0, .int .u64 0, .int .u64 0, .int .u64 0] : Array Value).size = R2.size := by rw [hR2]; rfl
  rw [u0] at cO c1
  rw [u1] at c1 c2
  rw [u2] at c2 ⊢
  clear hX hR1 hR2 u0 u1 u2 h1 h2
  go_enter Tryd.func57, Tryd.ntmps57
  go_wp2_with fail
  refine (cO _).mono ?_
  rintro e w1 ⟨rfl, hb1⟩
  have G := Lib.hid (And.intro ((Blk.newAt w _ _ rfl).calls hb1) (bt (ba (Below.refl _ _) _) hb1)); clear hb1
  go_wp2_with fail
  refine (c1 _).mono ?_
  rintro e w2 ⟨rfl, hb1⟩
  have g0 := (G.out.1.calls hb1)
  have bb := bt G.out.2 hb1
  have lt0 := g0.lt
  clear hb1 G
  have BZ : Blk (w2.alloc (.cells #[.int .u64 0, .int .u64 0, .int .u64 0, .int .u64 0] 62)) w2.heap.size 62 #[.int .u64 0, .int .u64 0, .int .u64 0, .int .u64 0] := Blk.newAt w2 _ _ rfl
  have G2 := Lib.hid (And.intro ((g0.alloc (.cells #[.int .u64 0, .int .u64 0, .int .u64 0, .int .u64 0] 62)).rowFar (show w.heap.size ≠ w2.heap.size by omega) R1) (bt bb (setRow_below (ba (Below.refl w2.heap.size w2) (.cells #[.int .u64 0, .int .u64 0, .int .u64 0, .int .u64 0] 62)) (Nat.le_refl _) R1))); clear g0 bb
  go_wp2_with (first | with_reducible refine ws_row BZ _ _ _ _ rfl rfl rfl rfl i1 z1 a1 ?_ | with_reducible refine wl_row (BZ.row R1) _ _ rfl rfl rfl _ _ Tryd.underlying62 i1 ?_)
  refine (c2 _).mono ?_
  rintro e w3 ⟨rfl, hb1⟩
  have g0 := (G2.out.1.calls hb1)
  have bb := bt G2.out.2 hb1
  have lt0 := g0.lt
  clear hb1 G2 BZ
  have BZ : Blk (w3.alloc (.cells #[.int .u64 0, .int .u64 0, .int .u64 0, .int .u64 0] 62)) w3.heap.size 62 #[.int .u64 0, .int .u64 0, .int .u64 0, .int .u64 0] := Blk.newAt w3 _ _ rfl
  have g1 := (g0.alloc (.cells #[.int .u64 0, .int .u64 0, .int .u64 0, .int .u64 0] 62)).rowFar (show w.heap.size ≠ w3.heap.size by omega) R2
  have b1 := bt bb (setRow_below (ba (Below.refl w3.heap.size w3) (.cells #[.int .u64 0, .int .u64 0, .int .u64 0, .int .u64 0] 62)) (Nat.le_refl _) R2)
  have G3 := Lib.hid (And.intro g1 b1); clear g0 bb g1 b1
  go_wp2_with (first | with_reducible refine ws_row BZ _ _ _ _ rfl rfl rfl rfl i2 z2 a2 ?_ | with_reducible refine wl_row (BZ.row R2) _ _ rfl rfl rfl _ _ Tryd.underlying62 i2 ?_ | with_reducible refine ws_row G3.out.1 _ _ _ _ rfl rfl rfl rfl i2 z2 a2 ?_)
  refine bodyPost_ret (v := .agg R2) ?_ rfl ⟨rfl, setRow_below G3.out.2 (Nat.le_refl _) _⟩
  exact results_cell_row rfl _ _ _ _ _ (0, 0) _ rfl (G3.out.1.row _) Tryd.underlying62 rfl i2
end Go.Proofs.YtfebknplkbeblaaDoor
