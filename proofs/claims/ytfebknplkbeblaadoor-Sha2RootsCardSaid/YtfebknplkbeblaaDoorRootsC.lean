/- Sha2Roots: the constants are roots of primes; its walk for every number. -/
import Derived.Test.YtfebknplkbeblaaDoorRootsB
namespace Go.Proofs.YtfebknplkbeblaaDoor
open Go.RowKit
set_option linter.unusedVariables false
def cbr (p : Nat) : Nat := if p < 8 then 1 else if p < 27 then 2 else if p < 64 then 3 else if p < 125 then 4 else if p < 216 then 5 else 6
def sqr (p : Nat) : Nat := if p < 4 then 1 else if p < 9 then 2 else if p < 16 then 3 else 4
def xR (n : Nat) : Nat := cbr (prL.getD n 0) * 4294967296 + wn (KC.getD n 0)
def yR (n : Nat) : Nat := sqr (prL.getD n 0) * 4294967296 + wn (HI.getD n 0)
def rootB (n : Nat) : Bool :=
  let p := prL.getD n 0; let c := cbr p; let x := xR n
  decide (1 ≤ c) && decide (c ≤ 6) && decide (c * c * c ≤ p) && decide (p < (c + 1) * (c + 1) * (c + 1)) && decide (x * x * x ≤ p * 2 ^ 96) && decide (p * 2 ^ 96 < (x + 1) * (x + 1) * (x + 1)) && decide (wn (KC.getD n 0) < 4294967296)
def squareB (n : Nat) : Bool :=
  let p := prL.getD n 0; let c := sqr p; let y := yR n
  decide (1 ≤ c) && decide (c ≤ 4) && decide (c * c ≤ p) && decide (p < (c + 1) * (c + 1)) && decide (y * y ≤ p * 2 ^ 64) && decide (p * 2 ^ 64 < (y + 1) * (y + 1)) && decide (wn (HI.getD n 0) < 4294967296)
theorem rootB_all (n : Nat) (h : n < 64) : rootB n = true := by
  have all : ∀ i : Fin 64, rootB i.val = true := by decide +kernel
  exact all ⟨n, h⟩
theorem squareB_all (n : Nat) (h : n < 8) : squareB n = true := by
  have all : ∀ i : Fin 8, squareB i.val = true := by decide +kernel
  exact all ⟨n, h⟩
theorem and63 (n : Int) : bits .and .i64 n 63 = ((n % 64).toNat : Int) := by
  show IntKind.i64.wrap ((BitVec.ofInt 64 n &&& BitVec.ofInt 64 63).toNat : Int) = _
  have e1 : (BitVec.ofInt 64 (63 : Int)).toNat = 63 := by decide
  rw [BitVec.toNat_and, e1]
  have e2 : (BitVec.ofInt 64 n).toNat = (n % 2 ^ 64).toNat := BitVec.toNat_ofInt n
  rw [e2]
  have e3 : (n % 2 ^ 64).toNat &&& 63 = (n % 2 ^ 64).toNat % 64 := Nat.and_two_pow_sub_one_eq_mod _ 6
  rw [e3]
  have e4 : (n % 2 ^ 64).toNat % 64 = (n % 64).toNat := by omega
  rw [e4]
  simp [IntKind.wrap, IntKind.signed, IntKind.bits]
  omega
theorem or_32 (c k : Nat) (hc : c ≤ 6) (hk : k < 4294967296) : bits .or .u64 ((c : Int) * 4294967296) (k : Int) = ((c * 4294967296 + k : Nat) : Int) := by
  have e2 := u64_or_nat (c * 4294967296) k (by omega) (by omega)
  rw [show ((c : Int) * 4294967296) = ((c * 4294967296 : Nat) : Int) by omega, e2]
  congr 1
  have h1 : c * 4294967296 = c <<< 32 := by rw [Nat.shiftLeft_eq]
  rw [h1]
  exact (Nat.shiftLeft_add_eq_or_of_lt (by omega) c).symm
theorem prod_small (m k : Nat) (hm : m < T) (hk : k < W64) (h : m * k < T) : ProdIs m k (m * k) (decide (T ≤ m * k)) := ⟨hm, hk, h, (Nat.mod_eq_of_lt h).symm, rfl⟩
theorem small3 (x : Nat) (h : x ≤ 30064771072) : x < T ∧ x < W64 ∧ x * x < T ∧ x * x * x < T := by
  have h2 : x * x ≤ 30064771072 * 30064771072 := Nat.mul_le_mul h h
  have h3 : x * x * x ≤ 30064771072 * 30064771072 * 30064771072 := Nat.mul_le_mul h2 h
  unfold T W64
  omega
theorem Cube_small (x : Nat) (h : x ≤ 30064771072) (w : World) : Calls Tryd.prog 57 #[.int .u64 x] w fun e w' => e = .returned (uval (x * x * x)) ∧ Below w.heap.size w w' := by
  obtain ⟨h1, h2, h3, h4⟩ := small3 x h
  exact Cube_any x (x * x) (x * x * x) _ _ (prod_small x x h1 h2 h3) (prod_small (x * x) x h3 h2 h4) w
theorem Shl_small (p k : Nat) (hk : k ≤ 96) (hk0 : 0 < k) (h : p ≤ 311) (w : World) : ∃ l, ∀ w, Calls Tryd.prog 54 #[uval p, .int .i64 k] w fun e w' => e = .returned (.tuple #[uval (p * 2 ^ k), .bool l]) ∧ Below w.heap.size w w' := by
  refine ⟨shlB p k, fun w => ?_⟩
  have h2 : p * 2 ^ k ≤ 311 * 2 ^ 96 := Nat.mul_le_mul h (Nat.pow_le_pow_right (by decide) hk)
  have hT : (311 : Nat) * 2 ^ 96 < T := by decide
  have e : shlN p k = p * 2 ^ k := by
    unfold shlN
    rw [if_neg (by omega), Int.toNat_natCast, Nat.mod_eq_of_lt (by omega)]
  have := Shl_any p k w (by unfold T; omega) (by omega)
  rw [e] at this
  exact this
theorem cmp_no {m n : Nat} {c : Int} (h : CmpIs m n c) (hle : m ≤ n) : c ≤ 0 := by
  have := (cmp_facts h).2.1
  omega
theorem cmp_yes {m n : Nat} {c : Int} (h : CmpIs m n c) (hlt : n < m) : 0 < c := (cmp_facts h).2.1.2 hlt
set_option maxHeartbeats 1000000 in
theorem Roots_walk (W : World) (hL : Laid W) (i : Int) (hw : (Lit.int .i64 i).wf = true) : Calls Tryd.prog 11 #[.int .i64 i] W fun e w' => e = .returned (.bool true) ∧ Below W.heap.size W w' := by
  have hi := and63 i
  obtain ⟨n, hn⟩ : ∃ n, n = (i % 64).toNat := ⟨_, rfl⟩
  have hn64 : n < 64 := by omega
  rw [← hn] at hi
  clear hn hw
  obtain ⟨_, _, _, hp1⟩ := prL_ok n hn64
  have hr := rootB_all n hn64
  simp only [rootB, Bool.and_eq_true, decide_eq_true_eq] at hr
  obtain ⟨⟨⟨⟨⟨⟨r1, r2⟩, r3⟩, r4⟩, r5⟩, r6⟩, r7⟩ := hr
  have hx : xR n ≤ 30064771071 := by unfold xR; omega
  obtain ⟨_, _, hx2, hx3⟩ := small3 (xR n) (by omega)
  obtain ⟨_, _, hz2, hz3⟩ := small3 (xR n + 1) (by omega)
  have hpT : prL.getD n 0 * 2 ^ 96 < T := Nat.lt_trans r6 hz3
  obtain ⟨k1, hk1⟩ := cmp_ex (xR n * xR n * xR n) (prL.getD n 0 * 2 ^ 96) hx3 hpT
  obtain ⟨k2, hk2⟩ := cmp_ex ((xR n + 1) * (xR n + 1) * (xR n + 1)) (prL.getD n 0 * 2 ^ 96) hz3 hpT
  have g1 := cmp_no hk1 r5
  have g2 := cmp_yes hk2 r6
  obtain ⟨l1, cSh⟩ := Shl_small (prL.getD n 0) 96 (by decide) (by decide) hp1 W
  have hor : bits .or .u64 ((cbr (prL.getD n 0) : Int) * 4294967296) ((wn (KC.getD n 0) : Nat) : Int) = (xR n : Int) := or_32 _ _ r2 r7
  have cC : ∀ w, Laid w → Calls Tryd.prog 18 #[.int .i64 n] w fun e w' => e = .returned (.int .u32 (wn (KC.getD n 0))) ∧ Below w.heap.size w w' := fun w hL => (Constant_any n hn64 _ rfl w hL).mono fun _ _ ⟨h1, h2⟩ => ⟨h1, h2 ▸ Below.refl _ _⟩
  have cOf := fun w => Of_any (prL.getD n 0) w (by unfold W64; omega)
  have d1 : decide ((0 : Int) < k1) = false := by simp; omega
  have d2 : decide (k2 ≤ (0 : Int)) = false := by simp; omega
  by_cases h7 : 7 < n
  · exact Roots_hi W hL i n _ _ _ _ k1 k2 l1 _ _ _ _ hn64 rfl hp1 hi r1 r2 r3 r4 (by omega) hor cC r7 cOf cSh (Cube_small _ (by omega)) (Cube_small (xR n + 1) (by omega)) (fun w => Cmp_any _ _ _ w hk1) (fun w => Cmp_any _ _ _ w hk2) d1 d2 (isU _) h7 (fun w hL => (Initial_no n (by omega) w).mono fun _ _ ⟨h1, h2⟩ => ⟨h1, h2 ▸ Below.refl _ _⟩)
  · have hs := squareB_all n (by omega)
    simp only [squareB, Bool.and_eq_true, decide_eq_true_eq] at hs
    obtain ⟨⟨⟨⟨⟨⟨s1, s2⟩, s3⟩, s4⟩, s5⟩, s6⟩, s7⟩ := hs
    have hy : yR n ≤ 30064771071 := by unfold yR; omega
    obtain ⟨y1, y2, y3, _⟩ := small3 (yR n) (by omega)
    obtain ⟨z1, z2, z3, _⟩ := small3 (yR n + 1) (by omega)
    have hqT : prL.getD n 0 * 2 ^ 64 < T := Nat.lt_trans s6 z3
    obtain ⟨k3, hk3⟩ := cmp_ex (yR n * yR n) (prL.getD n 0 * 2 ^ 64) y3 hqT
    obtain ⟨k4, hk4⟩ := cmp_ex ((yR n + 1) * (yR n + 1)) (prL.getD n 0 * 2 ^ 64) z3 hqT
    obtain ⟨l2, cSh2⟩ := Shl_small (prL.getD n 0) 64 (by decide) (by decide) hp1 W
    have hory : bits .or .u64 ((sqr (prL.getD n 0) : Int) * 4294967296) ((wn (HI.getD n 0) : Nat) : Int) = (yR n : Int) := or_32 _ _ (by omega) s7
    exact Roots_lo k3 k4 l2 _ _ _ _ _ _ _ (sqr (prL.getD n 0)) (yR n) (wn (HI.getD n 0)) W hL i n _ _ _ _ k1 k2 l1 _ _ _ _ hn64 rfl hp1 hi r1 r2 r3 r4 (by omega) hor cC r7 cOf cSh (Cube_small _ (by omega)) (Cube_small (xR n + 1) (by omega)) (fun w => Cmp_any _ _ _ w hk1) (fun w => Cmp_any _ _ _ w hk2) d1 d2 (isU _) (by omega)
      (fun w hL => (Initial_any n (by omega) _ rfl w hL).mono fun _ _ ⟨h1, h2⟩ => ⟨h1, h2 ▸ Below.refl _ _⟩) cSh2 (fun w => Of_any _ w y2) (fun w => MulU_any _ _ _ _ w (prod_small _ _ y1 y2 y3)) (fun w => Of_any (yR n + 1) w z2) (fun w => MulU_any (yR n + 1) (yR n + 1) _ _ w (prod_small _ _ z1 z2 z3)) (fun w => Cmp_any _ _ _ w hk3) (fun w => Cmp_any _ _ _ w hk4) (cmp_no hk3 s5) (cmp_yes hk4 s6) (isU _) (isU _) (isU _) s1 s2 s3 s4 (by omega) s7 hory
end Go.Proofs.YtfebknplkbeblaaDoor
