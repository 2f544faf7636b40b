/- What u256's moves come to. What u256.Shl comes to. What u256.Div comes to. What u256.FromBytes comes to. SHA-256 as a function; no program in sight but for the cells of words. What sha2.words comes to. SHA-256's constants as the program's variables hold them. The frame of a law whose functions read SHA-256's tables: what is laid, and a world in which it is. The frame of a frame law: four tables are laid, two of them are read. -/
import Derived.Test.YtlegcceaoglpoaaDoorIsB
import Derived.StillTailTactics
import Derived.Test.YtlegcceaoglpoaaDoorIsA
import Derived.Test.YtlegcceaoglpoaaDoorTie
import Derived.Test.YtlegcceaoglpoaaDoorCards
import Derived.ChangeVars
import Derived.FnData
import Derived.Deep.DeepHandedRow
import Derived.Lib.LaidTab
import Derived.JoinedOf
import Derived.ChangeSame
namespace Go.Proofs.YtlegcceaoglpoaaDoor
open Go.RowKit
set_option linter.unusedVariables false

/-- A part of m moved down. -/
theorem lim_shr (m n i : Nat) (hm : m < T) (hi : i < 4) : lim (m / 2 ^ n) i = (if i + n / 64 < 4 then lim m (i + n / 64) / 2 ^ (n % 64) else 0) + (if i + n / 64 < 3 then lim m (i + n / 64 + 1) * 2 ^ (64 - n % 64) % W64 else 0) := by
  have hW : W64 = 2 ^ 64 := rfl
  have e0 : m / 2 ^ n / W64 ^ i = m / W64 ^ (i + n / 64) / 2 ^ (n % 64) := by
    rw [Nat.div_div_eq_div_mul, Nat.div_div_eq_div_mul, hW, ← Nat.pow_mul, ← Nat.pow_mul, ← Nat.pow_add, ← Nat.pow_add]
    congr 2
    omega
  have e1 : lim (m / 2 ^ n) i = m / W64 ^ (i + n / 64) / 2 ^ (n % 64) % W64 := by unfold lim; rw [e0]
  have e2 : m / W64 ^ (i + n / 64 + 1) = m / W64 ^ (i + n / 64) / W64 := by rw [Nat.pow_succ, Nat.div_div_eq_div_mul]
  have hs : n % 64 < 64 := Nat.mod_lt _ (by decide)
  have hz : 4 ≤ i + n / 64 → m / W64 ^ (i + n / 64) = 0 := fun h => Nat.div_eq_of_lt (Nat.lt_of_lt_of_le hm (by rw [T_eq]; exact Nat.pow_le_pow_right W64_pos h))
  have hz2 : 3 ≤ i + n / 64 → m / W64 ^ (i + n / 64 + 1) = 0 := fun h => Nat.div_eq_of_lt (Nat.lt_of_lt_of_le hm (by rw [T_eq]; exact Nat.pow_le_pow_right W64_pos (by omega)))
  rw [e1]
  unfold lim
  generalize hq : m / W64 ^ (i + n / 64) = q at *
  rw [e2] at hz2 ⊢
  generalize n % 64 = s at *
  have hWs : W64 = 2 ^ s * 2 ^ (64 - s) := by rw [hW, ← Nat.pow_add]; congr 1; omega
  have hp1 : 0 < 2 ^ s := Nat.pow_pos (by decide)
  have hp2 : 0 < 2 ^ (64 - s) := Nat.pow_pos (by decide)
  -- q / 2^s mod W64, q = W64 * h + l
  have key : q / 2 ^ s % W64 = q % W64 / 2 ^ s + q / W64 % W64 * 2 ^ (64 - s) % W64 := by
    have h1 : q / 2 ^ s = q % W64 / 2 ^ s + q / W64 * 2 ^ (64 - s) := by
      have h := Nat.div_add_mod q W64
      conv => lhs; rw [← h, hWs, Nat.mul_assoc, Nat.add_comm, Nat.add_mul_div_left _ _ hp1]
      rw [Nat.mul_comm (2 ^ (64 - s)), ← hWs]
    have h2 : q % W64 / 2 ^ s < 2 ^ (64 - s) := by
      rw [Nat.div_lt_iff_lt_mul hp1, Nat.mul_comm, ← hWs]
      exact Nat.mod_lt _ W64_pos
    have h3 : q / W64 % W64 * 2 ^ (64 - s) % W64 = q / W64 * 2 ^ (64 - s) % W64 := by rw [Nat.mul_mod, Nat.mod_mod, ← Nat.mul_mod]
    rw [h1, h3]
    generalize q % W64 / 2 ^ s = x at *
    generalize q / W64 = z at *
    rw [hWs]
    generalize 2 ^ (64 - s) = P at *
    generalize 2 ^ s = S at *
    rw [Nat.mul_mod_mul_right, Nat.add_mod, Nat.mul_mod_mul_right]
    have h5 : z % S < S := Nat.mod_lt _ hp1
    have h6 : (z % S + 1) * P ≤ S * P := Nat.mul_le_mul_right _ h5
    rw [Nat.add_mul] at h6
    have h7 : P ≤ S * P := Nat.le_mul_of_pos_left _ hp1
    rw [Nat.mod_eq_of_lt (show x < S * P by omega), Nat.mod_eq_of_lt (by omega)]
  rw [key]
  by_cases a : i + n / 64 < 3
  · rw [if_pos a, if_pos (by omega)]
  · rw [if_neg a, hz2 (by omega)]
    by_cases b : i + n / 64 < 4
    · rw [if_pos b]; simp
    · rw [if_neg b, hz (by omega)]; simp
theorem shr_or (m n i : Nat) (hm : m < T) (hi : i < 4) (h : i + n / 64 < 3) :
    bits .or .u64 ((lim m (i + n / 64) : Nat) / 2 ^ (n % 64) : Int) (IntKind.u64.wrap ((lim m (i + n / 64 + 1) : Nat) * 2 ^ (64 - n % 64) : Int)) = (lim (m / 2 ^ n) i : Nat) := by
  have e := lim_shr m n i hm hi
  rw [if_pos (by omega), if_pos h] at e
  rw [e]
  have l1 := lim_lt m (i + n / 64)
  have l2 := lim_lt m (i + n / 64 + 1)
  have hs : n % 64 < 64 := Nat.mod_lt _ (by decide)
  generalize lim m (i + n / 64) = a at *
  generalize lim m (i + n / 64 + 1) = b at *
  generalize n % 64 = s at *
  clear e
  have hWs : W64 = 2 ^ s * 2 ^ (64 - s) := by rw [show W64 = 2 ^ 64 from rfl, ← Nat.pow_add]; congr 1; omega
  have hp1 : 0 < 2 ^ s := Nat.pow_pos (by decide)
  have ha : a / 2 ^ s < 2 ^ (64 - s) := by
    rw [Nat.div_lt_iff_lt_mul hp1, Nat.mul_comm, ← hWs]
    exact l1
  have w1 : ((a : Nat) / 2 ^ s : Int) = ((a / 2 ^ s : Nat) : Int) := by push_cast; rfl
  have w2 : IntKind.u64.wrap ((b : Nat) * 2 ^ (64 - s) : Int) = ((b * 2 ^ (64 - s) % W64 : Nat) : Int) := by
    have e : ((b : Nat) * 2 ^ (64 - s) : Int) = ((b * 2 ^ (64 - s) : Nat) : Int) := by push_cast; rfl
    rw [e]
    generalize b * 2 ^ (64 - s) = y
    unfold W64
    simp [IntKind.wrap, IntKind.signed, IntKind.bits]
  have hb : b * 2 ^ (64 - s) % W64 = (b % 2 ^ s) * 2 ^ (64 - s) := by rw [hWs, Nat.mul_mod_mul_right]
  have hb2 : b * 2 ^ (64 - s) % W64 < W64 := Nat.mod_lt _ W64_pos
  have ha2 : a / 2 ^ s < W64 := Nat.lt_of_le_of_lt (Nat.div_le_self _ _) l1
  rw [w1, w2, u64_or_nat _ _ (by unfold W64 at ha2; omega) (by unfold W64 at hb2; unfold W64; omega)]
  congr 1
  rw [hb, Nat.or_comm, ← Nat.shiftLeft_eq, ← Nat.shiftLeft_add_eq_or_of_lt ha]
  omega

theorem lim_high (r i W : Nat) (h : r < W64 ^ W) (hi : W ≤ i) : lim r i = 0 := by
  unfold lim
  rw [Nat.div_eq_of_lt (Nat.lt_of_lt_of_le h (Nat.pow_le_pow_right W64_pos hi))]
  rfl
theorem outs_high (r k : Nat) (hk : k ≤ 4) (h : ∀ i, k ≤ i → i < 4 → lim r i = 0) : outs r k = ucells r := by
  have h0 := h 0
  have h1 := h 1
  have h2 := h 2
  have h3 := h 3
  rcases (show k = 0 ∨ k = 1 ∨ k = 2 ∨ k = 3 ∨ k = 4 from by omega) with rfl | rfl | rfl | rfl | rfl <;> simp_all [outs, ucells]
def shrN (m : Nat) (n : Int) : Nat := if n ≤ 0 then m else m / 2 ^ n.toNat

theorem set_twice (cs : Array Value) (j : Nat) (u v : Value) : (cs.setIfInBounds j u).setIfInBounds j v = cs.setIfInBounds j v := by
  apply Array.ext'
  simp
theorem uval_zero0 : uval 0 = .agg #[.int .u64 0, .int .u64 0, .int .u64 0, .int .u64 0] := rfl
end Go.Proofs.YtlegcceaoglpoaaDoor

namespace Go.Proofs.YtlegcceaoglpoaaDoor
open Go.RowKit
set_option linter.unusedVariables false

/-- A number moved up inside a part. -/
theorem up_part (m s e : Nat) (hs : s < 64) : m * 2 ^ s / W64 ^ (e + 1) % W64 = lim m (e + 1) * 2 ^ s % W64 + lim m e / 2 ^ (64 - s) := by
  have hW : W64 = 2 ^ s * 2 ^ (64 - s) := by rw [show W64 = 2 ^ 64 from rfl, ← Nat.pow_add]; congr 1; omega
  have hp1 : 0 < 2 ^ s := Nat.pow_pos (by decide)
  have hp2 : 0 < 2 ^ (64 - s) := Nat.pow_pos (by decide)
  have hA := pow_pos' e
  obtain ⟨q, hq⟩ : ∃ q, q = m / W64 ^ e := ⟨_, rfl⟩
  have e1 : m * 2 ^ s / W64 ^ (e + 1) = m * 2 ^ s / W64 ^ e / W64 := by rw [Nat.pow_succ, Nat.div_div_eq_div_mul]
  have e2 : m * 2 ^ s / W64 ^ e = q * 2 ^ s + m % W64 ^ e * 2 ^ s / W64 ^ e := by
    have h := Nat.div_add_mod m (W64 ^ e)
    calc m * 2 ^ s / W64 ^ e = ((W64 ^ e * (m / W64 ^ e) + m % W64 ^ e) * 2 ^ s) / W64 ^ e := by rw [h]
      _ = (m % W64 ^ e * 2 ^ s + W64 ^ e * (m / W64 ^ e * 2 ^ s)) / W64 ^ e := by rw [Nat.add_mul, Nat.add_comm, Nat.mul_assoc]
      _ = m % W64 ^ e * 2 ^ s / W64 ^ e + m / W64 ^ e * 2 ^ s := Nat.add_mul_div_left _ _ hA
      _ = _ := by rw [hq, Nat.add_comm]
  have hc : m % W64 ^ e * 2 ^ s / W64 ^ e < 2 ^ s := by
    rw [Nat.div_lt_iff_lt_mul hA, Nat.mul_comm]
    exact Nat.mul_lt_mul_of_pos_left (Nat.mod_lt _ hA) hp1
  have l1 : lim m (e + 1) = q / W64 % W64 := by unfold lim; rw [hq, Nat.pow_succ, Nat.div_div_eq_div_mul]
  have l0 : lim m e = q % W64 := by unfold lim; rw [hq]
  rw [e1, e2, l1, l0]
  generalize m % W64 ^ e * 2 ^ s / W64 ^ e = c at *
  clear hq e1 e2 l1 l0 hA
  have e3 : (q * 2 ^ s + c) / W64 = q / 2 ^ (64 - s) := by
    rw [hW, ← Nat.div_div_eq_div_mul, Nat.add_comm, Nat.add_mul_div_right _ _ hp1, Nat.div_eq_of_lt hc, Nat.zero_add]
  rw [e3]
  have h := Nat.div_add_mod q W64
  have e4 : q / 2 ^ (64 - s) = q / W64 * 2 ^ s + q % W64 / 2 ^ (64 - s) := by
    conv => lhs; rw [← h, hW, Nat.mul_comm (2 ^ s), Nat.mul_assoc, Nat.add_comm, Nat.add_mul_div_left _ _ hp2]
    rw [← Nat.mul_comm (2 ^ s) (2 ^ (64 - s)), ← hW, Nat.mul_comm (2 ^ s), Nat.add_comm]
  have hx : q % W64 / 2 ^ (64 - s) < 2 ^ s := by
    rw [Nat.div_lt_iff_lt_mul hp2, ← hW]
    exact Nat.mod_lt _ W64_pos
  have h3 : q / W64 % W64 * 2 ^ s % W64 = q / W64 * 2 ^ s % W64 := by rw [Nat.mul_mod, Nat.mod_mod, ← Nat.mul_mod]
  rw [e4, h3]
  generalize q % W64 / 2 ^ (64 - s) = x at *
  generalize q / W64 = z at *
  rw [hW, Nat.mul_comm (2 ^ s) (2 ^ (64 - s))]
  clear e3 e4 h h3 hc hW
  generalize 2 ^ (64 - s) = P at *
  generalize 2 ^ s = S at *
  rw [Nat.mul_mod_mul_right, Nat.add_mod, Nat.mul_mod_mul_right]
  have h5 : z % P < P := Nat.mod_lt _ hp2
  have h6 : (z % P + 1) * S ≤ P * S := Nat.mul_le_mul_right _ h5
  rw [Nat.add_mul] at h6
  have h7 : S ≤ P * S := Nat.le_mul_of_pos_left _ hp2
  rw [Nat.mod_eq_of_lt (show x < P * S by omega), Nat.mod_eq_of_lt (by omega)]
theorem mod_left (a b : Nat) : a % W64 * b % W64 = a % W64 * (b % W64) % W64 := by
  rw [Nat.mul_mod, Nat.mod_mod]
theorem up_low (m s : Nat) : m * 2 ^ s % W64 = lim m 0 * 2 ^ s % W64 := by
  unfold lim
  rw [Nat.pow_zero, Nat.div_one, Nat.mul_mod]
  exact (mod_left m (2 ^ s)).symm
/-- A part of m moved up. -/
theorem lim_shl (m n i : Nat) : lim (m * 2 ^ n) i = (if n / 64 ≤ i then lim m (i - n / 64) * 2 ^ (n % 64) % W64 else 0) + (if n / 64 < i then lim m (i - n / 64 - 1) / 2 ^ (64 - n % 64) else 0) := by
  have hs : n % 64 < 64 := Nat.mod_lt _ (by decide)
  have hn : (2 : Nat) ^ n = 2 ^ (n % 64) * W64 ^ (n / 64) := by
    rw [show W64 = 2 ^ 64 from rfl, ← Nat.pow_mul, ← Nat.pow_add]
    congr 1
    omega
  generalize n / 64 = W at *
  generalize n % 64 = s at *
  rw [hn]
  unfold lim
  by_cases h1 : W ≤ i
  · rw [if_pos h1]
    have e1 : m * (2 ^ s * W64 ^ W) / W64 ^ i = m * 2 ^ s / W64 ^ (i - W) := by
      rw [← Nat.mul_assoc, show i = (i - W) + W from by omega, Nat.pow_add, Nat.add_sub_cancel, Nat.mul_div_mul_right _ _ (pow_pos' W)]
    rw [e1]
    by_cases h2 : W < i
    · rw [if_pos h2]
      obtain ⟨e, he⟩ : ∃ e, i - W = e + 1 := ⟨i - W - 1, by omega⟩
      rw [he, Nat.add_sub_cancel]
      exact up_part m s e hs
    · rw [if_neg h2, show i - W = 0 by omega, Nat.pow_zero, Nat.div_one, Nat.div_one, Nat.add_zero]
      exact ((mod_left m (2 ^ s)).trans (Nat.mul_mod _ _ _).symm).symm
  · rw [if_neg h1, if_neg (by omega)]
    have e1 : m * (2 ^ s * W64 ^ W) / W64 ^ i = m * 2 ^ s * W64 ^ (W - i - 1) * W64 := by
      rw [← Nat.mul_assoc, show W = (W - i - 1) + 1 + i from by omega, Nat.pow_add, Nat.pow_succ, ← Nat.mul_assoc, Nat.mul_div_cancel _ (pow_pos' i), show W - i - 1 + 1 + i - i - 1 = W - i - 1 by omega, Nat.mul_assoc (m * 2 ^ s)]
    rw [e1, Nat.mul_mod_left]
def shlN (m : Nat) (n : Int) : Nat := if n ≤ 0 then m else m * 2 ^ n.toNat % T
def shlB (m : Nat) (n : Int) : Bool := if n ≤ 0 then false else if 256 ≤ n then decide (m ≠ 0) else decide (256 < (bl m : Int) + n)
theorem shl_or (m N i : Nat) (h : N / 64 < i) :
    bits .or .u64 (IntKind.u64.wrap ((lim m (i - N / 64) : Nat) * 2 ^ (N % 64) : Int)) ((lim m (i - N / 64 - 1) : Nat) / 2 ^ (64 - N % 64) : Int) = (lim (m * 2 ^ N) i : Nat) := by
  have e := lim_shl m N i
  rw [if_pos (by omega), if_pos h] at e
  rw [e]
  have l1 := lim_lt m (i - N / 64)
  have l2 := lim_lt m (i - N / 64 - 1)
  have hs : N % 64 < 64 := Nat.mod_lt _ (by decide)
  generalize lim m (i - N / 64) = b at *
  generalize lim m (i - N / 64 - 1) = a at *
  generalize N % 64 = s at *
  clear e
  have hWs : W64 = 2 ^ (64 - s) * 2 ^ s := by rw [show W64 = 2 ^ 64 from rfl, ← Nat.pow_add]; congr 1; omega
  have hp1 : 0 < 2 ^ (64 - s) := Nat.pow_pos (by decide)
  have ha : a / 2 ^ (64 - s) < 2 ^ s := by
    rw [Nat.div_lt_iff_lt_mul hp1, Nat.mul_comm, ← hWs]
    exact l2
  have w1 : ((a : Nat) / 2 ^ (64 - s) : Int) = ((a / 2 ^ (64 - s) : Nat) : Int) := by push_cast; rfl
  have w2 : IntKind.u64.wrap ((b : Nat) * 2 ^ s : Int) = ((b * 2 ^ s % W64 : Nat) : Int) := by
    have e : ((b : Nat) * 2 ^ s : Int) = ((b * 2 ^ s : Nat) : Int) := by push_cast; rfl
    rw [e]
    generalize b * 2 ^ s = y
    unfold W64
    simp [IntKind.wrap, IntKind.signed, IntKind.bits]
  have hb : b * 2 ^ s % W64 = (b % 2 ^ (64 - s)) * 2 ^ s := by rw [hWs, Nat.mul_mod_mul_right]
  have hb2 : b * 2 ^ s % W64 < W64 := Nat.mod_lt _ W64_pos
  have ha2 : a / 2 ^ (64 - s) < W64 := Nat.lt_of_le_of_lt (Nat.div_le_self _ _) l2
  rw [w1, w2, u64_or_nat _ _ (by unfold W64 at hb2; unfold W64; omega) (by unfold W64 at ha2; omega)]
  congr 1
  rw [hb, ← Nat.shiftLeft_eq, ← Nat.shiftLeft_add_eq_or_of_lt ha]
theorem outs_low (r k : Nat) (hk : k ≤ 4) (h : ∀ i, i < k → lim r i = 0) : outs r k = outs 0 0 := by
  have h0 := h 0
  have h1 := h 1
  have h2 := h 2
  have h3 := h 3
  rcases (show k = 0 ∨ k = 1 ∨ k = 2 ∨ k = 3 ∨ k = 4 from by omega) with rfl | rfl | rfl | rfl | rfl <;> simp_all [outs]


end Go.Proofs.YtlegcceaoglpoaaDoor

namespace Go.Proofs.YtlegcceaoglpoaaDoor
open Go.RowKit
set_option linter.unusedVariables false

theorem or_bit (m s : Nat) (h : m % 2 ^ (s + 1) = 0) : m ||| 2 ^ s = m + 2 ^ s := by
  have h1 : m = (m / 2 ^ (s + 1)) <<< (s + 1) := by
    rw [Nat.shiftLeft_eq, Nat.mul_comm]
    have := Nat.div_add_mod m (2 ^ (s + 1))
    omega
  have hlt : 2 ^ s < 2 ^ (s + 1) := Nat.pow_lt_pow_right (by decide) (by omega)
  rw [h1, ← Nat.shiftLeft_add_eq_or_of_lt hlt]
/-- q without its lowest i digits of two. -/
def topq (q i : Nat) : Nat := q / 2 ^ i * 2 ^ i
theorem topq_zero (q : Nat) : topq q 0 = q := by simp [topq]
theorem topq_none (q i : Nat) (h : q < 2 ^ i) : topq q i = 0 := by unfold topq; rw [Nat.div_eq_of_lt h, Nat.zero_mul]
theorem lim_topq (q W s j : Nat) (hs : s < 64) : lim (topq q (64 * W + s)) j = if j < W then 0 else if j = W then lim q j / 2 ^ s * 2 ^ s else lim q j := by
  have hp : (2 : Nat) ^ (64 * W + s) = W64 ^ W * 2 ^ s := by rw [show W64 = 2 ^ 64 from rfl, ← Nat.pow_mul, ← Nat.pow_add]
  have hps : 0 < 2 ^ s := Nat.two_pow_pos s
  unfold topq lim
  rw [hp]
  by_cases h1 : j < W
  · rw [if_pos h1]
    have e : W64 ^ W * 2 ^ s = W64 ^ (W - j - 1) * 2 ^ s * W64 * W64 ^ j := by
      rw [Nat.mul_assoc, ← Nat.pow_succ', Nat.mul_right_comm, ← Nat.pow_add]
      congr 2
      omega
    rw [e, ← Nat.mul_assoc, Nat.mul_div_cancel _ (pow_pos' j), ← Nat.mul_assoc, Nat.mul_mod_left]
  · rw [if_neg h1]
    by_cases h2 : j = W
    · subst h2
      rw [if_pos rfl]
      have e : q / (W64 ^ j * 2 ^ s) * (W64 ^ j * 2 ^ s) / W64 ^ j = q / W64 ^ j / 2 ^ s * 2 ^ s := by
        rw [Nat.div_div_eq_div_mul, Nat.mul_comm (W64 ^ j) (2 ^ s), ← Nat.mul_assoc, Nat.mul_div_cancel _ (pow_pos' j)]
      rw [e]
      generalize q / W64 ^ j = p
      have hW : W64 = 2 ^ s * 2 ^ (64 - s) := by rw [show W64 = 2 ^ 64 from rfl, ← Nat.pow_add]; congr 1; omega
      rw [hW, Nat.mod_mul_right_div_self, Nat.mul_comm (2 ^ s) (2 ^ (64 - s)), Nat.mul_mod_mul_right]
    · rw [if_neg h2]
      have e : W64 ^ j = W64 ^ W * 2 ^ s * 2 ^ (64 * (j - W) - s) := by
        rw [Nat.mul_assoc, ← Nat.pow_add, show s + (64 * (j - W) - s) = 64 * (j - W) by omega, Nat.pow_mul, show (2 : Nat) ^ 64 = W64 from rfl, ← Nat.pow_add]
        congr 1
        omega
      rw [e, ← Nat.div_div_eq_div_mul, Nat.mul_div_cancel _ (Nat.mul_pos (pow_pos' W) hps), Nat.div_div_eq_div_mul]
/-- One digit more. -/
theorem topq_step (q i : Nat) (hi : i < 256) : lim (topq q (i + 1)) (i / 64) % 2 ^ (i % 64 + 1) = 0 ∧ lim (topq q i) (i / 64) = lim (topq q (i + 1)) (i / 64) + q / 2 ^ i % 2 * 2 ^ (i % 64) ∧
    ∀ j, j < 4 → j ≠ i / 64 → lim (topq q i) j = lim (topq q (i + 1)) j := by
  obtain ⟨W, hW⟩ : ∃ W, W = i / 64 := ⟨_, rfl⟩
  obtain ⟨s, hs⟩ : ∃ s, s = i % 64 := ⟨_, rfl⟩
  have hi' : i = 64 * W + s := by omega
  have hs6 : s < 64 := by omega
  rw [← hW, ← hs]
  have a := fun j => lim_topq q W s j hs6
  rw [← hi'] at a
  have hbit : q / 2 ^ i % 2 = lim q W / 2 ^ s % 2 := by
    unfold lim
    have hp : (2 : Nat) ^ i = W64 ^ W * 2 ^ s := by rw [hi', show W64 = 2 ^ 64 from rfl, ← Nat.pow_mul, ← Nat.pow_add]
    rw [hp, ← Nat.div_div_eq_div_mul]
    generalize q / W64 ^ W = p
    have hW : W64 = 2 ^ s * (2 * 2 ^ (63 - s)) := by rw [← Nat.pow_succ', ← Nat.pow_add, show W64 = 2 ^ 64 from rfl]; congr 1; omega
    rw [hW, Nat.mod_mul_right_div_self, Nat.mod_mul_right_mod]
  have hsplit : ∀ x : Nat, x / 2 ^ s * 2 ^ s = x / 2 ^ (s + 1) * 2 ^ (s + 1) + x / 2 ^ s % 2 * 2 ^ s := by
    intro x
    have h := Nat.div_add_mod (x / 2 ^ s) 2
    rw [Nat.pow_succ, ← Nat.div_div_eq_div_mul, ← Nat.mul_assoc, Nat.mul_right_comm, ← Nat.add_mul]
    congr 1
    omega
  have hl := lim_lt q W
  have b : ∀ j, lim (topq q (i + 1)) j = if j < W then 0 else if j = W then lim q j / 2 ^ (s + 1) * 2 ^ (s + 1) else lim q j := by
    intro j
    by_cases h63 : s = 63
    · have e := lim_topq q (W + 1) 0 j (by omega)
      rw [show 64 * (W + 1) + 0 = i + 1 by omega] at e
      rw [e]
      by_cases c1 : j < W
      · rw [if_pos (by omega), if_pos c1]
      · rw [if_neg c1]
        by_cases c2 : j = W
        · rw [if_pos (by omega), if_pos c2, c2, h63, Nat.div_eq_of_lt (by have : W64 = 2 ^ (63 + 1) := rfl; omega), Nat.zero_mul]
        · rw [if_neg (by omega), if_neg c2]
          split
          · simp
          · rfl
    · have e := lim_topq q W (s + 1) j (by omega)
      rw [show 64 * W + (s + 1) = i + 1 by omega] at e
      exact e
  refine ⟨?_, ?_, ?_⟩
  · rw [b W, if_neg (by omega), if_pos rfl, Nat.mul_mod_left]
  · rw [a W, b W, if_neg (by omega), if_pos rfl, if_neg (by omega), if_pos rfl, hbit]
    exact hsplit _
  · intro j _ hne
    rw [a j, b j]
    by_cases c : j < W
    · rw [if_pos c, if_pos c]
    · rw [if_neg c, if_neg c, if_neg hne, if_neg hne]
/-- One step of the division. -/
theorem div_step (m n i : Nat) (hn : 0 < n) : (n ≤ 2 * (m / 2 ^ (i + 1) % n) + m / 2 ^ i % 2 ∧ m / n / 2 ^ i % 2 = 1 ∧ m / 2 ^ i % n + n = 2 * (m / 2 ^ (i + 1) % n) + m / 2 ^ i % 2) ∨
    (2 * (m / 2 ^ (i + 1) % n) + m / 2 ^ i % 2 < n ∧ m / n / 2 ^ i % 2 = 0 ∧ m / 2 ^ i % n = 2 * (m / 2 ^ (i + 1) % n) + m / 2 ^ i % 2) := by
  have e1 : m / n / 2 ^ i = m / 2 ^ i / n := by rw [Nat.div_div_eq_div_mul, Nat.div_div_eq_div_mul, Nat.mul_comm]
  have e2 : m / 2 ^ (i + 1) = m / 2 ^ i / 2 := by rw [Nat.pow_succ, Nat.div_div_eq_div_mul]
  rw [e1, e2]
  generalize m / 2 ^ i = p
  have h1 := Nat.div_add_mod p 2
  have h2 := Nat.div_add_mod (p / 2) n
  have h3 := Nat.mod_lt (p / 2) hn
  generalize hr : p / 2 % n = r at *
  generalize hq : p / 2 / n = q at *
  have e3 : p = (2 * r + p % 2) + n * (2 * q) := by
    have : n * (2 * q) = 2 * (n * q) := by rw [Nat.mul_left_comm]
    omega
  have hp2 : p % 2 < 2 := Nat.mod_lt _ (by decide)
  generalize p % 2 = x at *
  by_cases c : n ≤ 2 * r + x
  · left
    have e4 : p = (2 * r + x - n) + n * (2 * q + 1) := by rw [Nat.mul_add, Nat.mul_one]; omega
    have e5 : p / n = 2 * q + 1 := by rw [e4, Nat.add_mul_div_left _ _ hn, Nat.div_eq_of_lt (by omega)]; omega
    have e6 : p % n = 2 * r + x - n := by rw [e4, Nat.add_mul_mod_self_left, Nat.mod_eq_of_lt (by omega)]
    rw [e5, e6]
    omega
  · right
    have e5 : p / n = 2 * q := by rw [e3, Nat.add_mul_div_left _ _ hn, Nat.div_eq_of_lt (by omega)]; omega
    have e6 : p % n = 2 * r + x := by rw [e3, Nat.add_mul_mod_self_left, Nat.mod_eq_of_lt (by omega)]
    rw [e5, e6]
    omega
theorem lim_bit (m i : Nat) : lim m (i / 64) / 2 ^ (i % 64) % 2 = m / 2 ^ i % 2 := by
  unfold lim
  have hp : (2 : Nat) ^ i = W64 ^ (i / 64) * 2 ^ (i % 64) := by
    rw [show W64 = 2 ^ 64 from rfl, ← Nat.pow_mul, ← Nat.pow_add]
    congr 1
    omega
  rw [hp, ← Nat.div_div_eq_div_mul]
  generalize m / W64 ^ (i / 64) = p
  have hs : i % 64 < 64 := Nat.mod_lt _ (by decide)
  generalize i % 64 = s at *
  have hW : W64 = 2 ^ s * (2 * 2 ^ (63 - s)) := by rw [← Nat.pow_succ', ← Nat.pow_add, show W64 = 2 ^ 64 from rfl]; congr 1; omega
  rw [hW, Nat.mod_mul_right_div_self, Nat.mod_mul_right_mod]
theorem lim_odd (r x : Nat) (hr : r % 2 = 0) (hx : x ≤ 1) : lim (r + x) 0 = lim r 0 + x ∧ ∀ j, 0 < j → lim (r + x) j = lim r j := by
  constructor
  · unfold lim
    simp only [Nat.pow_zero, Nat.div_one]
    unfold W64
    omega
  · intro j hj
    unfold lim
    have e : W64 ^ j = 2 * (2 ^ 63 * W64 ^ (j - 1)) := by
      rw [← Nat.mul_assoc, ← Nat.pow_succ', show (2 : Nat) ^ (63 + 1) = W64 from rfl, ← Nat.pow_succ']
      congr 1
      omega
    rw [e, ← Nat.div_div_eq_div_mul (r + x) 2, ← Nat.div_div_eq_div_mul r 2, show (r + x) / 2 = r / 2 by omega]
theorem bit_u64 (a s : Nat) (ha : a < W64) : bits .and .u64 ((a : Nat) / 2 ^ s : Int) 1 = ((a / 2 ^ s % 2 : Nat) : Int) := by
  have e1 : ((a : Nat) / 2 ^ s : Int) = ((a / 2 ^ s : Nat) : Int) := by push_cast; rfl
  have hle : a / 2 ^ s ≤ a := Nat.div_le_self _ _
  rw [e1]
  have e2 := u64_and_nat (a / 2 ^ s) 1 (by unfold W64 at ha; omega) (by omega)
  rw [show ((1 : Nat) : Int) = 1 from rfl] at e2
  rw [e2, Nat.and_one_is_mod]
theorem or_low (r x : Nat) (hr : r % 2 = 0) (hx : x ≤ 1) (hl : r < W64) : bits .or .u64 (r : Int) (x : Int) = ((r + x : Nat) : Int) := by
  have e2 := u64_or_nat r x (by unfold W64 at hl; omega) (by omega)
  rw [e2]
  congr 1
  have h1 : r = (r / 2) <<< 1 := by rw [Nat.shiftLeft_eq]; omega
  rw [h1, ← Nat.shiftLeft_add_eq_or_of_lt (by omega)]
theorem or_top (a s : Nat) (ha : a < W64) (hs : s < 64) (h : a % 2 ^ (s + 1) = 0) : bits .or .u64 (a : Int) (IntKind.u64.wrap (2 ^ s)) = ((a + 2 ^ s : Nat) : Int) := by
  have hp : (2 : Nat) ^ s < W64 := Nat.pow_lt_pow_right (by decide) hs
  have w1 : IntKind.u64.wrap (2 ^ s) = ((2 ^ s : Nat) : Int) := by
    have e : (2 : Int) ^ s = ((2 ^ s : Nat) : Int) := by push_cast; rfl
    rw [e]
    generalize 2 ^ s = y at *
    unfold W64 at hp
    simp [IntKind.wrap, IntKind.signed, IntKind.bits]; omega
  rw [w1, u64_or_nat a (2 ^ s) (by unfold W64 at ha; omega) (by unfold W64 at hp; omega)]
  congr 1
  exact or_bit a s h
/-- A block of four parts is filled. -/
def fillW (w : World) (g n : Nat) : World := (((w.setCell ⟨g, 0, none⟩ (.int .u64 (lim n 0))).setCell ⟨g, 1, none⟩ (.int .u64 (lim n 1))).setCell ⟨g, 2, none⟩ (.int .u64 (lim n 2))).setCell ⟨g, 3, none⟩ (.int .u64 (lim n 3))
theorem Blk.fillAt {w : World} {g : Nat} {t : TypeId} {m n : Nat} (h : Blk w g t (ucells m)) : Blk (fillW w g n) g t (ucells n) := h.fill rfl
theorem Blk.fillFar {w : World} {g b n : Nat} {t : TypeId} {cs : Array Value} (h : Blk w g t cs) (hne : g ≠ b) : Blk (fillW w b n) g t cs :=
  (((h.far hne _).far hne _).far hne _).far hne _
theorem fill_below {w0 w : World} {b n B : Nat} (h : Below B w0 w) (hb : B ≤ b) : Below B w0 (fillW w b n) := belowFill h hb
/-- Cells and their freedom, of a block of four parts. -/
theorem clf {w : World} {g : Nat} {t : TypeId} {n : Nat} (h : Blk w g t (ucells n)) : Cl w g n ∧ w.frozen? ⟨g, 0, none⟩ = false ∧ w.frozen? ⟨g, 1, none⟩ = false ∧ w.frozen? ⟨g, 2, none⟩ = false ∧ w.frozen? ⟨g, 3, none⟩ = false :=
  ⟨cl4 h, h.frozen 0, h.frozen 1, h.frozen 2, h.frozen 3⟩

theorem ucells_put (a b j : Nat) (h : j < 4) (ho : ∀ i, i < 4 → i ≠ j → lim b i = lim a i) : (ucells a).setIfInBounds j (.int .u64 (lim b j)) = ucells b := by
  have h0 := ho 0
  have h1 := ho 1
  have h2 := ho 2
  have h3 := ho 3
  rcases (show j = 0 ∨ j = 1 ∨ j = 2 ∨ j = 3 from by omega) with rfl | rfl | rfl | rfl <;> simp_all [ucells]
theorem ucells_ext {a b : Nat} (h : ∀ k, k < 4 → lim a k = lim b k) : ucells a = ucells b := by
  simp [ucells, h 0, h 1, h 2, h 3]

end Go.Proofs.YtlegcceaoglpoaaDoor

namespace Go.Proofs.YtlegcceaoglpoaaDoor
open Go.RowKit
set_option linter.unusedVariables false

/-- The number of bytes, the highest first. -/
def fbV (l : List UInt8) : Nat := l.foldl (fun a x => a * 256 + x.toNat) 0
theorem fbV_snoc (l : List UInt8) (c : UInt8) : fbV (l ++ [c]) = fbV l * 256 + c.toNat := by simp [fbV]
theorem take_snocD (l : List UInt8) (k : Nat) (h : k < l.length) : l.take (k + 1) = l.take k ++ [l.getD k 0] := by
  rw [List.take_succ_eq_append_getElem h]
  simp [List.getD, h]
theorem fbV_lt (l : List UInt8) : fbV l < 256 ^ l.length := by
  have key : ∀ k, k ≤ l.length → fbV (l.take k) < 256 ^ k := by
    intro k
    induction k with
    | zero => intro _; simp [fbV]
    | succ k ih =>
      intro h
      have h1 := ih (by omega)
      have h2 := (l.getD k 0).toNat_lt
      rw [take_snocD l k (by omega), fbV_snoc, Nat.pow_succ]
      omega
  have h := key l.length (Nat.le_refl _)
  rw [List.take_length] at h
  exact h
theorem fbV_T (l : List UInt8) (h : l.length ≤ 32) : fbV l < T := by
  have h1 := fbV_lt l
  have h2 : 256 ^ l.length ≤ 256 ^ 32 := Nat.pow_le_pow_right (by decide) h
  have h3 : (256 : Nat) ^ 32 = T := by decide
  omega
/-- What the first k bytes come to, at their places. -/
def fbP (l : List UInt8) (k : Nat) : Nat := fbV (l.take k) * 256 ^ (l.length - k)
theorem fbP_zero (l : List UInt8) : fbP l 0 = 0 := by simp [fbP, fbV]
theorem fbP_full (l : List UInt8) : fbP l l.length = fbV l := by simp [fbP]
theorem fbP_step (l : List UInt8) (k : Nat) (h : k < l.length) : fbP l (k + 1) = fbP l k + (l.getD k 0).toNat * 256 ^ (l.length - 1 - k) ∧ fbP l k % 256 ^ (l.length - 1 - k + 1) = 0 := by
  unfold fbP
  rw [take_snocD l k h, fbV_snoc, Nat.add_mul, show l.length - (k + 1) = l.length - 1 - k by omega, show l.length - k = l.length - 1 - k + 1 by omega, Nat.pow_succ, Nat.mul_assoc, Nat.mul_comm 256]
  exact ⟨rfl, Nat.mul_mod_left _ _⟩
theorem lim_up (C W j : Nat) : lim (W64 ^ W * C) j = if j < W then 0 else lim C (j - W) := by
  unfold lim
  by_cases h : j < W
  · rw [if_pos h]
    have e : W64 ^ W * C = W64 ^ (W - j - 1) * C * W64 * W64 ^ j := by
      rw [Nat.mul_assoc, ← Nat.pow_succ', Nat.mul_right_comm, ← Nat.pow_add]
      congr 2
      omega
    rw [e, Nat.mul_div_cancel _ (pow_pos' j), Nat.mul_mod_left]
  · rw [if_neg h]
    have e : W64 ^ j = W64 ^ W * W64 ^ (j - W) := by rw [← Nat.pow_add]; congr 1; omega
    rw [e, ← Nat.div_div_eq_div_mul, Nat.mul_div_cancel_left _ (pow_pos' W)]
/-- A byte is laid at its place. -/
theorem lim_byteAt (N x p : Nat) (hN : N % 256 ^ (p + 1) = 0) (hx : x < 256) :
    lim (N + x * 256 ^ p) (p / 8) = lim N (p / 8) + x * 2 ^ (8 * (p % 8)) ∧ lim N (p / 8) % 2 ^ (8 * (p % 8) + 8) = 0 ∧ ∀ j, j ≠ p / 8 → lim (N + x * 256 ^ p) j = lim N j := by
  obtain ⟨W, hW⟩ : ∃ W, W = p / 8 := ⟨_, rfl⟩
  obtain ⟨s, hs⟩ : ∃ s, s = 8 * (p % 8) := ⟨_, rfl⟩
  have hs6 : s ≤ 56 := by omega
  have hW6 : W64 = 2 ^ 64 := rfl
  have hp : (256 : Nat) ^ p = W64 ^ W * 2 ^ s := by
    rw [show (256 : Nat) = 2 ^ 8 from rfl, hW6, ← Nat.pow_mul, ← Nat.pow_mul, ← Nat.pow_add]
    congr 1
    omega
  have hp1 : (256 : Nat) ^ (p + 1) = W64 ^ W * 2 ^ (s + 8) := by rw [Nat.pow_succ, hp, Nat.mul_assoc, Nat.pow_add]
  obtain ⟨M, hM⟩ : ∃ M, N = W64 ^ W * (2 ^ (s + 8) * M) := ⟨N / 256 ^ (p + 1), by have := Nat.div_add_mod N (256 ^ (p + 1)); rw [← Nat.mul_assoc, ← hp1]; omega⟩
  rw [← hW, ← hs]
  have e2 : N + x * 256 ^ p = W64 ^ W * (2 ^ (s + 8) * M + x * 2 ^ s) := by rw [hM, hp, Nat.mul_add, Nat.mul_left_comm x]
  have h8 : (2 : Nat) ^ (s + 8) = 256 * 2 ^ s := by rw [Nat.pow_add, Nat.mul_comm]
  have hps : 0 < 2 ^ s := Nat.two_pow_pos s
  have hp8 : 0 < 2 ^ (s + 8) := Nat.two_pow_pos _
  have hxs : x * 2 ^ s < 2 ^ (s + 8) := by rw [h8]; exact Nat.mul_lt_mul_of_pos_right hx hps
  have hsp : W64 = 2 ^ (s + 8) * 2 ^ (56 - s) := by rw [hW6, ← Nat.pow_add]; congr 1; omega
  have g := fun C => lim_up C W W
  simp only [Nat.lt_irrefl, if_false, Nat.sub_self] at g
  have l0 : ∀ C, lim C 0 = C % W64 := fun C => by unfold lim; rw [Nat.pow_zero, Nat.div_one]
  have m1 : 2 ^ (s + 8) * M % W64 = 2 ^ (s + 8) * (M % 2 ^ (56 - s)) := by rw [hsp, Nat.mul_mod_mul_left]
  have m2 : (2 ^ (s + 8) * M + x * 2 ^ s) % W64 = 2 ^ (s + 8) * (M % 2 ^ (56 - s)) + x * 2 ^ s := by
    rw [hsp, Nat.mod_mul, Nat.mul_add_mod, Nat.mod_eq_of_lt hxs, Nat.mul_add_div hp8, Nat.div_eq_of_lt hxs, Nat.add_zero M, Nat.add_comm]
  refine ⟨?_, ?_, ?_⟩
  · rw [e2, hM, g, g, l0, l0, m1, m2]
  · rw [hM, g, l0, m1, Nat.mul_mod_right]
  · intro j hj
    rw [e2, hM, lim_up, lim_up]
    by_cases h : j < W
    · rw [if_pos h, if_pos h]
    · rw [if_neg h, if_neg h]
      unfold lim
      have e : W64 ^ (j - W) = 2 ^ (s + 8) * (2 ^ (56 - s) * W64 ^ (j - W - 1)) := by
        rw [← Nat.mul_assoc, ← hsp, ← Nat.pow_succ']
        congr 1
        omega
      rw [e, ← Nat.div_div_eq_div_mul (2 ^ (s + 8) * M + x * 2 ^ s), ← Nat.div_div_eq_div_mul (2 ^ (s + 8) * M), Nat.mul_add_div hp8, Nat.div_eq_of_lt hxs, Nat.add_zero M, Nat.mul_div_cancel_left _ hp8]
theorem or_byte (a x s : Nat) (ha : a % 2 ^ (s + 8) = 0) (hl : a < W64) (hx : x < 256) (hs : s ≤ 56) : bits .or .u64 (a : Int) (IntKind.u64.wrap ((x : Int) * 2 ^ s)) = ((a + x * 2 ^ s : Nat) : Int) := by
  have h56 : (2 : Nat) ^ s ≤ 2 ^ 56 := Nat.pow_le_pow_right (by decide) hs
  have hx2 : x * 2 ^ s ≤ 255 * 2 ^ 56 := Nat.mul_le_mul (by omega) h56
  have w2 : IntKind.u64.wrap ((x : Int) * 2 ^ s) = ((x * 2 ^ s : Nat) : Int) := by
    have e : (x : Int) * 2 ^ s = ((x * 2 ^ s : Nat) : Int) := by push_cast; rfl
    rw [e]
    generalize x * 2 ^ s = y at *
    simp [IntKind.wrap, IntKind.signed, IntKind.bits]; omega
  rw [w2]
  have e2 := u64_or_nat a (x * 2 ^ s) (by unfold W64 at hl; omega) (by omega)
  rw [e2]
  congr 1
  have h1 : a = (a / 2 ^ (s + 8)) <<< (s + 8) := by
    rw [Nat.shiftLeft_eq, Nat.mul_comm]
    have := Nat.div_add_mod a (2 ^ (s + 8))
    omega
  have hlt : x * 2 ^ s < 2 ^ (s + 8) := by
    rw [Nat.pow_add, Nat.mul_comm (2 ^ s)]
    exact Nat.mul_lt_mul_of_pos_right hx (Nat.two_pow_pos s)
  rw [h1, ← Nat.shiftLeft_add_eq_or_of_lt hlt]
/-- The bytes of a slice. -/
def Rd (w : World) (g off : Nat) (l : List UInt8) : Prop := ∀ i, i < l.length → w.cell? ⟨g, off + i, none⟩ = some (.int .u8 (l.getD i 0).toNat)
theorem Rd.calls {w w' : World} {g off : Nat} {l : List UInt8} (h : Rd w g off l) (hg : g < w.heap.size) (hb : Below w.heap.size w w') : Rd w' g off l :=
  fun i hi => (hb.cell (p := ⟨g, off + i, none⟩) hg).trans (h i hi)
theorem Rd.at {w w' : World} {g off : Nat} {l : List UInt8} {B : Nat} (h : Rd w g off l) (hb : Below B w w') (hg : g < B) (i : Nat) (hi : i < l.length) : w'.cell? ⟨g, off + i, none⟩ = some (.int .u8 (l.getD i 0).toNat) :=
  (hb.cell (p := ⟨g, off + i, none⟩) hg).trans (h i hi)
theorem ucells_sets (a b j : Nat) (h : j < 4) (v : Int) (hv : v = (lim b j : Nat)) (ho : ∀ i, i ≠ j → lim b i = lim a i) : (ucells a).setIfInBounds j (.int .u64 v) = ucells b := by
  rw [hv]
  exact ucells_put a b j h fun i _ hne => ho i hne

end Go.Proofs.YtlegcceaoglpoaaDoor

namespace Go.Proofs.YtlegcceaoglpoaaDoor
open Go.RowKit
set_option linter.unusedVariables false

def s0w (x : Wd) : Wd := rr x 7 ^^^ rr x 18 ^^^ x >>> 3
def s1w (y : Wd) : Wd := rr y 17 ^^^ rr y 19 ^^^ y >>> 10
def bw (c : UInt8) : Wd := BitVec.ofNat 32 c.toNat
theorem wn_bw (c : UInt8) : wn (bw c) = c.toNat := by
  have := c.toNat_lt
  unfold wn bw
  rw [BitVec.toNat_ofNat]
  omega
/-- Word i of a block's first sixteen. -/
def fw (b : List UInt8) (i : Nat) : Wd := bw (b.getD (4 * i) 0) <<< 24 ||| bw (b.getD (4 * i + 1) 0) <<< 16 ||| bw (b.getD (4 * i + 2) 0) <<< 8 ||| bw (b.getD (4 * i + 3) 0)
def firstW (b : List UInt8) (k : Nat) : List Wd := (List.range k).map (fw b)
def nextW (l : List Wd) : Wd := s1w (l.getD (l.length - 2) 0) + l.getD (l.length - 7) 0 + s0w (l.getD (l.length - 15) 0) + l.getD (l.length - 16) 0
def extW (b : List UInt8) : Nat → List Wd
  | 0 => firstW b 16
  | j + 1 => extW b j ++ [nextW (extW b j)]
def wordsOf (b : List UInt8) : List Wd := extW b 48
def rnd (k w : Wd) : List Wd → List Wd
  | [a, b, c, d, e, f, g, h] =>
    let t1 := h + (rr e 6 ^^^ rr e 11 ^^^ rr e 25) + (e &&& f ^^^ ~~~e &&& g) + k + w
    let t2 := (rr a 2 ^^^ rr a 13 ^^^ rr a 22) + (a &&& b ^^^ a &&& c ^^^ b &&& c)
    [t1 + t2, a, b, c, d + t1, e, f, g]
  | l => l
def KC : List Wd := [0x428a2f98, 0x71374491, 0xb5c0fbcf, 0xe9b5dba5, 0x3956c25b, 0x59f111f1, 0x923f82a4, 0xab1c5ed5, 0xd807aa98, 0x12835b01, 0x243185be, 0x550c7dc3, 0x72be5d74, 0x80deb1fe, 0x9bdc06a7, 0xc19bf174, 0xe49b69c1, 0xefbe4786, 0x0fc19dc6, 0x240ca1cc, 0x2de92c6f, 0x4a7484aa, 0x5cb0a9dc, 0x76f988da, 0x983e5152, 0xa831c66d, 0xb00327c8, 0xbf597fc7, 0xc6e00bf3, 0xd5a79147, 0x06ca6351, 0x14292967, 0x27b70a85, 0x2e1b2138, 0x4d2c6dfc, 0x53380d13, 0x650a7354, 0x766a0abb, 0x81c2c92e, 0x92722c85, 0xa2bfe8a1, 0xa81a664b, 0xc24b8b70, 0xc76c51a3, 0xd192e819, 0xd6990624, 0xf40e3585, 0x106aa070, 0x19a4c116, 0x1e376c08, 0x2748774c, 0x34b0bcb5, 0x391c0cb3, 0x4ed8aa4a, 0x5b9cca4f, 0x682e6ff3, 0x748f82ee, 0x78a5636f, 0x84c87814, 0x8cc70208, 0x90befffa, 0xa4506ceb, 0xbef9a3f7, 0xc67178f2]
def HI : List Wd := [0x6a09e667, 0xbb67ae85, 0x3c6ef372, 0xa54ff53a, 0x510e527f, 0x9b05688c, 0x1f83d9ab, 0x5be0cd19]
def rounds (W v : List Wd) : Nat → List Wd
  | 0 => v
  | n + 1 => rnd (KC.getD n 0) (W.getD n 0) (rounds W v n)
/-- The words behind a block. -/
def blk (h : List Wd) (b : List UInt8) : List Wd := if b.length = 64 then List.zipWith (· + ·) (rounds (wordsOf b) h 64) h else h
theorem firstW_length (b : List UInt8) (k : Nat) : (firstW b k).length = k := by simp [firstW]
theorem extW_length (b : List UInt8) (j : Nat) : (extW b j).length = 16 + j := by
  induction j with
  | zero => simp [extW, firstW]
  | succ j ih => rw [extW, List.length_append, ih]; simp; omega
theorem firstW_snoc (b : List UInt8) (k : Nat) : firstW b (k + 1) = firstW b k ++ [fw b k] := by simp [firstW, List.range_succ]
theorem rnd_length (k w : Wd) (l : List Wd) (h : l.length = 8) : (rnd k w l).length = 8 := by
  match l, h with
  | [a, b, c, d, e, f, g, h], _ => rfl
theorem rounds_length (W v : List Wd) (h : v.length = 8) (n : Nat) : (rounds W v n).length = 8 := by
  induction n with
  | zero => exact h
  | succ n ih => exact rnd_length _ _ _ ih
theorem blk_length (h : List Wd) (b : List UInt8) (hl : h.length = 8) : (blk h b).length = 8 := by
  unfold blk
  split
  · rw [List.length_zipWith, rounds_length _ _ hl, hl]; rfl
  · exact hl

/-! ## Cells -/
def u32c (l : List Wd) : Array Value := (l.map fun x => Value.int .u32 (wn x)).toArray
/-- With zeros behind, n in all. -/
def padW (n : Nat) (l : List Wd) : Array Value := u32c (l ++ List.replicate (n - l.length) 0)
theorem u32c_size (l : List Wd) : (u32c l).size = l.length := by simp [u32c]
theorem u32c_at (l : List Wd) (i : Nat) (h : i < l.length) : (u32c l)[i]? = some (.int .u32 (wn (l.getD i 0))) := by simp [u32c, h]
theorem u32c_one (l : List Wd) : (u32c l).all (·.oneCell') = true := by simp [u32c, Value.oneCell']
theorem padW_size (n : Nat) (l : List Wd) (h : l.length ≤ n) : (padW n l).size = n := by unfold padW; rw [u32c_size]; simp; omega
theorem padW_at (n : Nat) (l : List Wd) (i : Nat) (h : i < l.length) : (padW n l)[i]? = some (.int .u32 (wn (l.getD i 0))) := by
  unfold padW
  rw [u32c_at _ _ (by simp; omega)]
  simp [List.getD, List.getElem?_append_left h]
theorem padW_some (n : Nat) (l : List Wd) (i : Nat) (hl : l.length ≤ n) (h : i < n) : ∃ v, (padW n l)[i]? = some v := by
  have : i < (padW n l).size := by rw [padW_size n l hl]; exact h
  exact ⟨_, Array.getElem?_eq_getElem this⟩
theorem padW_set (n : Nat) (l : List Wd) (x : Wd) (h : l.length < n) : (padW n l).setIfInBounds l.length (.int .u32 (wn x)) = padW n (l ++ [x]) := by
  unfold padW u32c
  have e : n - l.length = (n - (l ++ [x]).length) + 1 := by simp; omega
  rw [e, List.replicate_succ]
  simp
theorem padW_full (n : Nat) (l : List Wd) (h : l.length = n) : padW n l = u32c l := by unfold padW; rw [h, Nat.sub_self]; simp
theorem z64_cells : padW 64 [] = #[.int .u32 0, .int .u32 0, .int .u32 0, .int .u32 0, .int .u32 0, .int .u32 0, .int .u32 0, .int .u32 0, .int .u32 0, .int .u32 0, .int .u32 0, .int .u32 0, .int .u32 0, .int .u32 0, .int .u32 0, .int .u32 0, .int .u32 0, .int .u32 0, .int .u32 0, .int .u32 0, .int .u32 0, .int .u32 0, .int .u32 0, .int .u32 0, .int .u32 0, .int .u32 0, .int .u32 0, .int .u32 0, .int .u32 0, .int .u32 0, .int .u32 0, .int .u32 0, .int .u32 0, .int .u32 0, .int .u32 0, .int .u32 0, .int .u32 0, .int .u32 0, .int .u32 0, .int .u32 0, .int .u32 0, .int .u32 0, .int .u32 0, .int .u32 0, .int .u32 0, .int .u32 0, .int .u32 0, .int .u32 0, .int .u32 0, .int .u32 0, .int .u32 0, .int .u32 0, .int .u32 0, .int .u32 0, .int .u32 0, .int .u32 0, .int .u32 0, .int .u32 0, .int .u32 0, .int .u32 0, .int .u32 0, .int .u32 0, .int .u32 0, .int .u32 0] := by kernel_rfl
theorem z8_cells : padW 8 [] = #[.int .u32 0, .int .u32 0, .int .u32 0, .int .u32 0, .int .u32 0, .int .u32 0, .int .u32 0, .int .u32 0] := by kernel_rfl
theorem is64 (c : Array Value) (h : c.size = 64) : (Tryd.prog.info? 99).map (·.size) = some c.size := by rw [h]; kernel_rfl
theorem is8 (c : Array Value) (h : c.size = 8) : (Tryd.prog.info? 81).map (·.size) = some c.size := by rw [h]; kernel_rfl
end Go.Proofs.YtlegcceaoglpoaaDoor

namespace Go.Proofs.YtlegcceaoglpoaaDoor
open Go.RowKit
set_option linter.unusedVariables false

theorem results_row {fn : Func} {p : Tmp} {ty : TypeId} (h : fn.results = #[.cell p ty]) {P : Program} (tmps : Array Value) (w : World) (g : Nat) (t : TypeId) (cs : Array Value) {n : Nat} {e : TypeId}
    (hp : tmps.getD p undef = .pointer (some ⟨g, 0, none⟩)) (hg : Blk w g t cs) (hu : P.underlying ty = some (.array n e)) (hi : (P.info? ty).map (·.size) = some cs.size) :
    (results fn tmps).run P w = .ok (.agg cs) w := results_cell_row h tmps w g t cs (0, 0) _ hp hg hu rfl hi

theorem shl_small (x : Wd) (h : wn x < 256) : ((wn x : Nat) : Int) * (16777216 : Int) = ((wn (x <<< 24) : Nat) : Int) ∧ ((wn x : Nat) : Int) * (65536 : Int) = ((wn (x <<< 16) : Nat) : Int) ∧ ((wn x : Nat) : Int) * (256 : Int) = ((wn (x <<< 8) : Nat) : Int) := by
  have a := shl_wd x 24
  have b := shl_wd x 16
  have c := shl_wd x 8
  rw [IntKind.wrap_u32] at a b c
  refine ⟨?_, ?_, ?_⟩ <;> omega

set_option maxRecDepth 100000 in
set_option maxHeartbeats 1600000 in
theorem words_any (g off c : Nat) (b : List UInt8) (w : World) (hr : Rd w g off b) (hg : g < w.heap.size) (hl : b.length = 64) :
    Calls Tryd.prog 58 #[.slice (some ⟨g, off, none⟩) 64 c] w fun e w' => e = .returned (.agg (u32c (wordsOf b))) ∧ Below w.heap.size w w' := by
  have HRd := Lib.hid (And.intro hr hl); clear hr hl
  go_enter Tryd.func58, Tryd.ntmps58
  go_wp2
  go_loopw [10] (fun i wr => ∃ k : Nat, k ≤ 16 ∧ i = .int .i64 k ∧ Blk wr (w.heap.size) 99 (padW 64 []) ∧ Blk wr (w.heap.size + 1) 99 (padW 64 (firstW b k)) ∧ Below w.heap.size w wr) (fun i _ => 16 - (intOf i).toNat)
  case atStart =>
    refine ⟨0, by omega, rfl, ?_, ?_, ?_⟩
    · rw [z64_cells]; exact (Blk.newAt _ _ _ rfl).alloc _
    · rw [show firstW b 0 = [] from rfl, z64_cells]; exact Blk.newAt _ _ _ (by simp)
    · exact ((Below.refl _ _).alloc (Nat.le_refl _) _).alloc (by simp) _
  case round =>
    obtain ⟨k, hk, rfl, h1, h2, hb⟩ := hrel
    by_cases hlt : k < 16
    · have hl := HRd.out.2
      obtain ⟨p0, hp0⟩ : ∃ p, p = 4 * k := ⟨_, rfl⟩
      obtain ⟨p1, hp1⟩ : ∃ p, p = p0 + 1 := ⟨_, rfl⟩
      obtain ⟨p2, hp2⟩ : ∃ p, p = p0 + 2 := ⟨_, rfl⟩
      obtain ⟨p3, hp3⟩ : ∃ p, p = p0 + 3 := ⟨_, rfl⟩
      have c0 := HRd.out.1.at hb hg p0 (by omega)
      have c1 := HRd.out.1.at hb hg p1 (by omega)
      have c2 := HRd.out.1.at hb hg p2 (by omega)
      have c3 := HRd.out.1.at hb hg p3 (by omega)
      obtain ⟨x0, hx0⟩ : ∃ x, x = bw (b.getD p0 0) := ⟨_, rfl⟩
      obtain ⟨x1, hx1⟩ : ∃ x, x = bw (b.getD p1 0) := ⟨_, rfl⟩
      obtain ⟨x2, hx2⟩ : ∃ x, x = bw (b.getD p2 0) := ⟨_, rfl⟩
      obtain ⟨x3, hx3⟩ : ∃ x, x = bw (b.getD p3 0) := ⟨_, rfl⟩
      rw [← wn_bw, ← hx0] at c0
      rw [← wn_bw, ← hx1] at c1
      rw [← wn_bw, ← hx2] at c2
      rw [← wn_bw, ← hx3] at c3
      have b0 : wn x0 < 256 := by rw [hx0, wn_bw]; exact UInt8.toNat_lt _
      have b1 : wn x1 < 256 := by rw [hx1, wn_bw]; exact UInt8.toNat_lt _
      have b2 : wn x2 < 256 := by rw [hx2, wn_bw]; exact UInt8.toNat_lt _
      have b3 : wn x3 < 256 := by rw [hx3, wn_bw]; exact UInt8.toNat_lt _
      obtain ⟨y, hy⟩ : ∃ y, y = fw b k := ⟨_, rfl⟩
      have hyy : x0 <<< 24 ||| x1 <<< 16 ||| x2 <<< 8 ||| x3 = y := by rw [hy, hx0, hx1, hx2, hx3, hp1, hp2, hp3, hp0]; rfl
      have i0 : 4 * (k : Int) = (p0 : Int) := by omega
      have i1 : (p0 : Int) + 1 = (p1 : Int) := by omega
      have i2 : (p0 : Int) + 2 = (p2 : Int) := by omega
      have i3 : (p0 : Int) + 3 = (p3 : Int) := by omega
      have q0 : p0 < 64 := by omega
      have q1 : p1 < 64 := by omega
      have q2 : p2 < 64 := by omega
      have q3 : p3 < 64 := by omega
      have v0 := (shl_small x0 b0).1
      have v1 := (shl_small x1 b1).2.1
      have v2 := (shl_small x2 b2).2.2
      have o1 := bor_wd (x0 <<< 24) (x1 <<< 16)
      have o2 := bor_wd (x0 <<< 24 ||| x1 <<< 16) (x2 <<< 8)
      have o3 := bor_wd (x0 <<< 24 ||| x1 <<< 16 ||| x2 <<< 8) x3
      rw [hyy] at o3
      have hw := firstW_length b k
      obtain ⟨v4, hv4⟩ := padW_some 64 (firstW b k) k (by omega) (by omega)
      have c4 := blk_get h2 k _ hv4
      have f4 := h2.frozen k
      have k64 : (k : Int) < 64 := by omega
      have H := Lib.hid (And.intro h1 (And.intro h2 (And.intro hb (And.intro hy hw)))); clear h1 h2 hb hy hw hyy hx0 hx1 hx2 hx3 hp0 hp1 hp2 hp3 hv4 hl
      go_wp2
      go_region
      go_wp2
      obtain ⟨h1, h2, hb, hy, hw⟩ := H.out
      go_roundw
      case rel =>
        refine ⟨k + 1, by omega, by go_num, (h1.far (by omega) _).drew, ?_, (hb.setCell (by simp) _).drew⟩
        have hs := padW_set 64 (firstW b k) y (by omega)
        rw [hw] at hs
        rw [firstW_snoc, ← hy, ← hs]
        exact (h2.set_ k _).drew
      case measure => simp [intOf]; omega
    · obtain rfl : k = 16 := by omega
      clear hlt
      have HB := Lib.hid (And.intro h1 (And.intro h2 hb)); clear h1 h2 hb
      rw [show ((16 : Nat) : Int) = 16 from rfl]
      go_wp2
      go_loopw [5] (fun i wr => ∃ n : Nat, 16 ≤ n ∧ n ≤ 64 ∧ i = .int .i64 n ∧ Blk wr (w.heap.size) 99 (padW 64 []) ∧ Blk wr (w.heap.size + 1) 99 (padW 64 (extW b (n - 16))) ∧ Below w.heap.size w wr) (fun i _ => 64 - (intOf i).toNat)
      case atStart =>
        obtain ⟨h1, h2, hb⟩ := HB.out
        exact ⟨16, by omega, by omega, rfl, h1, h2, hb⟩
      case round =>
        clear HB
        obtain ⟨n, hn16, hn64, rfl, h1, h2, hb⟩ := hrel
        by_cases hlt : n < 64
        · obtain ⟨l, hl⟩ : ∃ l, l = extW b (n - 16) := ⟨_, rfl⟩
          have hln : l.length = n := by rw [hl, extW_length]; omega
          rw [← hl] at h2
          obtain ⟨p, hp⟩ : ∃ p, p = n - 15 := ⟨_, rfl⟩
          obtain ⟨q, hq⟩ : ∃ q, q = n - 2 := ⟨_, rfl⟩
          obtain ⟨r, hr⟩ : ∃ r, r = n - 7 := ⟨_, rfl⟩
          obtain ⟨t, ht⟩ : ∃ t, t = n - 16 := ⟨_, rfl⟩
          obtain ⟨x, hx⟩ : ∃ x, x = l.getD p 0 := ⟨_, rfl⟩
          obtain ⟨y, hy⟩ : ∃ y, y = l.getD q 0 := ⟨_, rfl⟩
          obtain ⟨z, hz⟩ : ∃ z, z = l.getD r 0 := ⟨_, rfl⟩
          obtain ⟨u, hu⟩ : ∃ u, u = l.getD t 0 := ⟨_, rfl⟩
          have cx := blk_get h2 p _ (padW_at 64 l p (by omega))
          have cy := blk_get h2 q _ (padW_at 64 l q (by omega))
          have cz := blk_get h2 r _ (padW_at 64 l r (by omega))
          have cu := blk_get h2 t _ (padW_at 64 l t (by omega))
          rw [← hx] at cx
          rw [← hy] at cy
          rw [← hz] at cz
          rw [← hu] at cu
          have ip : (n : Int) - 15 = (p : Int) := by omega
          have iq : (n : Int) - 2 = (q : Int) := by omega
          have ir : (n : Int) - 7 = (r : Int) := by omega
          have it : (n : Int) - 16 = (t : Int) := by omega
          have p64 : (p : Int) < 64 := by omega
          have q64 : (q : Int) < 64 := by omega
          have r64 : (r : Int) < 64 := by omega
          have t64 : (t : Int) < 64 := by omega
          have n64 : (n : Int) < 64 := by omega
          obtain ⟨v4, hv4⟩ := padW_some 64 l n (by omega) hlt
          have c4 := blk_get h2 n _ hv4
          have f4 := h2.frozen n
          obtain ⟨e0, he0⟩ : ∃ e, e = s0w x := ⟨_, rfl⟩
          obtain ⟨e1, he1⟩ : ∃ e, e = s1w y := ⟨_, rfl⟩
          have a1 := bxor_wd (rr x 7) (rr x 18)
          have a2 := bxor_wd (rr x 7 ^^^ rr x 18) (x >>> 3)
          have a3 : ((wn x : Nat) : Int) / (8 : Int) = ((wn (x >>> 3) : Nat) : Int) := shr_wd x 3
          have a4 : rr x 7 ^^^ rr x 18 ^^^ x >>> 3 = e0 := he0.symm
          rw [a4] at a2
          have d1 := bxor_wd (rr y 17) (rr y 19)
          have d2 := bxor_wd (rr y 17 ^^^ rr y 19) (y >>> 10)
          have d3 : ((wn y : Nat) : Int) / (1024 : Int) = ((wn (y >>> 10) : Nat) : Int) := shr_wd y 10
          have d4 : rr y 17 ^^^ rr y 19 ^^^ y >>> 10 = e1 := he1.symm
          rw [d4] at d2
          have H := Lib.hid (And.intro h1 (And.intro h2 (And.intro hb (And.intro hl (And.intro hln (And.intro he0 (And.intro he1 (And.intro hx (And.intro hy (And.intro hz (And.intro hu (And.intro hp (And.intro hq (And.intro hr ht))))))))))))))
          clear h1 h2 hb hl hln he0 he1 hx hy hz hu hp hq hr ht a4 d4 hv4
          go_wp2
          go_region
          go_wp2_with (go_at_call 59; (first | (with_reducible refine (turned_is x 7 7 rfl (by decide) (by decide) _).mono ?_) | (with_reducible refine (turned_is x 18 18 rfl (by decide) (by decide) _).mono ?_) | (with_reducible refine (turned_is y 17 17 rfl (by decide) (by decide) _).mono ?_) | (with_reducible refine (turned_is y 19 19 rfl (by decide) (by decide) _).mono ?_)); rintro e w' ⟨rfl, rfl⟩)
          go_region
          go_wp2
          obtain ⟨h1, h2, hb, hl, hln, he0, he1, hx, hy, hz, hu, hp, hq, hr, ht⟩ := H.out
          go_roundw
          case rel =>
            refine ⟨n + 1, by omega, by omega, by go_num, (h1.far (by omega) _).drew.drew, ?_, (hb.setCell (by simp) _).drew.drew⟩
            have hs := padW_set 64 l (e1 + z + e0 + u) (by omega)
            have hnx : nextW l = e1 + z + e0 + u := by
              unfold nextW
              rw [hln, ← hp, ← hq, ← hr, ← ht, ← hx, ← hy, ← hz, ← hu, ← he0, ← he1]
            rw [hln] at hs
            have hext : extW b (n + 1 - 16) = l ++ [e1 + z + e0 + u] := by
              rw [show n + 1 - 16 = (n - 16) + 1 by omega, extW, ← hl, hnx]
            rw [hext, ← hs]
            rw [add4_wd]
            exact (h2.set_ n _).drew.drew
          case measure => simp [intOf]; omega
        · obtain rfl : n = 64 := by omega
          have hfull : padW 64 (extW b 48) = u32c (wordsOf b) := padW_full 64 _ (extW_length b 48)
          rw [show 64 - 16 = 48 from rfl, hfull] at h2
          have hz : (padW 64 []).size = 64 := padW_size 64 [] (by simp)
          have hlen : (wordsOf b).length = 64 := extW_length b 48
          obtain ⟨ws, hws⟩ : ∃ ws, ws = wordsOf b := ⟨_, rfl⟩
          rw [← hws] at h2 hlen
          have HW := Lib.hid hws; clear hws
          have s2 : (u32c ws).size = 64 := by rw [u32c_size, hlen]
          have i2 := is64 (u32c ws) s2
          have s0 : (padW 64 []).size = (u32c ws).size := by rw [hz, s2]
          have a2 := u32c_one ws
          have H := Lib.hid (And.intro h1 (And.intro h2 hb)); clear h1 h2 hb hfull hz hlen s2
          go_wp2_with (first | with_reducible refine wl_row H.out.2.1 _ _ rfl rfl rfl _ _ Tryd.underlying99 i2 ?_ | with_reducible refine ws_row H.out.1 _ _ _ _ rfl rfl rfl rfl i2 s0 a2 ?_)
          obtain ⟨h1, h2, hb⟩ := H.out
          refine bodyPost_ret (v := .agg (u32c ws)) ?_ rfl ⟨by rw [HW.out], setRow_below hb (by omega) _⟩
          exact results_row rfl _ _ _ _ _ rfl (h1.row _) Tryd.underlying99 i2
end Go.Proofs.YtlegcceaoglpoaaDoor

namespace Go.Proofs.YtlegcceaoglpoaaDoor
open Go.RowKit
set_option linter.unusedVariables false

/-- The two tables stand in memory. -/
def Laid (w : World) : Prop := (∀ i, i < 64 → w.cell? ⟨1, i, none⟩ = some (.int .u32 (wn (KC.getD i 0)))) ∧ (∀ i, i < 8 → w.cell? ⟨0, i, none⟩ = some (.int .u32 (wn (HI.getD i 0))))
theorem Laid.lt {w : World} (h : Laid w) : 1 < w.heap.size ∧ 0 < w.heap.size :=
  ⟨World.block_lt_of_cell? w _ (h.1 0 (by omega)), World.block_lt_of_cell? w _ (h.2 0 (by omega))⟩
theorem Laid.below {w w' : World} (h : Laid w) {B : Nat} (hb : Below B w w') (hB : w.heap.size ≤ B) : Laid w' :=
  ⟨fun i hi => (hb.cell (p := ⟨_, i, none⟩) (Nat.lt_of_lt_of_le h.lt.1 hB)).trans (h.1 i hi), fun i hi => (hb.cell (p := ⟨_, i, none⟩) (Nat.lt_of_lt_of_le h.lt.2 hB)).trans (h.2 i hi)⟩
theorem Laid.calls {w w' : World} (h : Laid w) (hb : Below w.heap.size w w') : Laid w' := h.below hb (Nat.le_refl _)
theorem Laid.drewN {w : World} (h : Laid w) (n : Nat) : Laid (w.drewN n) := h

set_option maxHeartbeats 400000 in
theorem Constant_any (i : Nat) (hi : i < 64) (k : Wd) (hk : KC.getD i 0 = k) (w : World) (hL : Laid w) :
    Calls Tryd.prog 60 #[.int .i64 i] w fun e w' => e = .returned (.int .u32 (wn k)) ∧ w' = w := by
  have c := hL.1 i hi
  rw [hk] at c
  have h1 : (i : Int) ≤ 63 := by omega
  clear hL hk
  go_enter Tryd.func60, Tryd.ntmps60
  go_wp2
  go_ret
  exact ⟨rfl, rfl⟩
set_option maxHeartbeats 400000 in
theorem Initial_any (i : Nat) (hi : i < 8) (k : Wd) (hk : HI.getD i 0 = k) (w : World) (hL : Laid w) :
    Calls Tryd.prog 51 #[.int .i64 i] w fun e w' => e = .returned (.int .u32 (wn k)) ∧ w' = w := by
  have c := hL.2 i hi
  rw [hk] at c
  have h1 : (i : Int) ≤ 7 := by omega
  clear hL hk
  go_enter Tryd.func51, Tryd.ntmps51
  go_wp2
  go_ret
  exact ⟨rfl, rfl⟩
set_option maxHeartbeats 400000 in
theorem Constant_no (i : Int) (hi : i < 0 ∨ 63 < i) (w : World) :
    Calls Tryd.prog 60 #[.int .i64 i] w fun e w' => e = .returned (.int .u32 0) ∧ w' = w := by
  go_enter Tryd.func60, Tryd.ntmps60
  by_cases h : i < 0
  · clear hi
    go_wp2
    go_ret
    exact ⟨rfl, rfl⟩
  · have h1 : 63 < i := by omega
    have h0 : decide (i < 0) = false := by simpa using h
    clear hi
    go_wp2
    go_ret
    exact ⟨rfl, rfl⟩
set_option maxHeartbeats 400000 in
theorem Initial_no (i : Int) (hi : i < 0 ∨ 7 < i) (w : World) :
    Calls Tryd.prog 51 #[.int .i64 i] w fun e w' => e = .returned (.int .u32 0) ∧ w' = w := by
  go_enter Tryd.func51, Tryd.ntmps51
  by_cases h : i < 0
  · clear hi
    go_wp2
    go_ret
    exact ⟨rfl, rfl⟩
  · have h1 : 7 < i := by omega
    have h0 : decide (i < 0) = false := by simpa using h
    clear hi
    go_wp2
    go_ret
    exact ⟨rfl, rfl⟩
end Go.Proofs.YtlegcceaoglpoaaDoor

namespace Go.Proofs.YtlegcceaoglpoaaDoor
open Go.ChangeShapes Go.WideShapes Go.ChangeAt Go.RowKit
set_option linter.unusedVariables false

def KZ : List Int := KC.map fun x => (wn x : Int)
def HZ : List Int := HI.map fun x => (wn x : Int)
theorem laid_K : (Rows.laid_florin_sha2_constants : DataW Unit) = .agg (KZ.map fun z => .lit (.int .u32 z)) := by kernel_rfl
theorem laid_H : (Rows.laid_florin_sha2_initials : DataW Unit) = .agg (HZ.map fun z => .lit (.int .u32 z)) := by kernel_rfl
theorem gK : Tryd.prog.globalNamed "florin/sha2.constants" = some 1 := by kernel_rfl
theorem gH : Tryd.prog.globalNamed "florin/sha2.initials" = some 0 := by kernel_rfl
theorem gKt : (Tryd.prog.globals[1]?).map (·.type) = some 99 := by kernel_rfl
theorem gHt : (Tryd.prog.globals[0]?).map (·.type) = some 81 := by kernel_rfl

theorem ints_laid {H : Type} {enc : TypeId × Value → H} {P : Program} {w : World} {base : Nat} {spare : Nat → Bool} {held : Bool} {fuel n : Nat} {t e : TypeId} {k : IntKind} {cs : List Value} {p : List MemPlace} (ht : P.underlying t = some (.array n e)) (he : P.underlying e = some (.int k)) (hce : P.cellsOf e = 1) (hct : P.cellsOf t = n)
    (zs : List Int) (h : DataW.trod enc P w base spare held fuel t cs = some (.agg (zs.map fun z => .lit (.int k z)), p)) : cs = zs.map (Value.int k) := by
  obtain ⟨xs, m, _, hx, hl, hxl, hg⟩ := DataW.trod_array ht h
  have hx1 : (zs.map fun z => (DataW.lit (.int k z) : DataW H)) = xs.map (·.1) := by
    have := congrArg Prod.fst hx
    simpa using this
  have hzl : zs.length = n := by
    have := congrArg List.length hx1
    simpa [hxl] using this
  apply List.ext_getElem
  · rw [hl, hct, List.length_map, hzl]
  · intro i h1 h2
    have hi : i < n := by rw [hl, hct] at h1; exact h1
    have hgi := hg i hi
    rw [hce, Nat.mul_one, List.drop_eq_getElem_cons h1, List.getElem?_eq_getElem (by omega)] at hgi
    obtain ⟨z, hz1, hz2, _⟩ := DataW.trod_int he hgi
    have hz1' : cs[i] = .int k z := by
      have h3 : [cs[i]] = [.int k z] := hz1
      injection h3
    have hxi : (xs.map (·.1))[i]? = some (.lit (.int k z)) := by
      rw [List.getElem?_map, List.getElem?_eq_getElem (by omega), hz2]
      rfl
    rw [← hx1, List.getElem?_map, List.getElem?_eq_getElem (by omega)] at hxi
    have hzz : zs[i] = z := by simpa using hxi
    rw [hz1', List.getElem_map, hzz]
abbrev laidRows : List (String × DataW Unit) := [("florin/sha2.constants", Rows.laid_florin_sha2_constants), ("florin/sha2.initials", Rows.laid_florin_sha2_initials)]
abbrev cellsK : Array Value := (KZ.map (Value.int .u32)).toArray
abbrev cellsH : Array Value := (HZ.map (Value.int .u32)).toArray
theorem rows_of_laid {W : World} (h : laidMet Tryd.prog laidRows W) : W.var? Tryd.prog "florin/sha2.constants" = some cellsK ∧ W.var? Tryd.prog "florin/sha2.initials" = some cellsH := by
  obtain ⟨ps, ⟨g, t, cs, fuel, p, q, hg, ht, hvar, hd, ⟨g2, t2, cs2, fuel2, p2, q2, hg2, ht2, hvar2, hd2, _, _⟩, _⟩, _⟩ := h
  obtain rfl := Option.some.inj (gK.symm.trans hg)
  obtain rfl := Option.some.inj (gKt.symm.trans ht)
  obtain rfl := Option.some.inj (gH.symm.trans hg2)
  obtain rfl := Option.some.inj (gHt.symm.trans ht2)
  rw [laid_K] at hd
  rw [laid_H] at hd2
  have e1 := ints_laid Tryd.underlying99 Tryd.underlying22 (by kernel_rfl) (by kernel_rfl) KZ hd
  have e2 := ints_laid Tryd.underlying81 Tryd.underlying22 (by kernel_rfl) (by kernel_rfl) HZ hd2
  refine ⟨by rw [hvar]; congr 1; exact Array.ext' e1, by rw [hvar2]; congr 1; exact Array.ext' e2⟩
theorem laid_of_rows {W : World} (h : W.var? Tryd.prog "florin/sha2.constants" = some cellsK ∧ W.var? Tryd.prog "florin/sha2.initials" = some cellsH) : Laid W := by
  refine ⟨fun i hi => ?_, fun i hi => ?_⟩
  · rw [World.var?_cell gK h.1 i]
    have : i < KC.length := hi
    simp [KZ, this]
  · rw [World.var?_cell gH h.2 i]
    have : i < HI.length := hi
    simp [HZ, this]
theorem laidMet_of_H {W : World} (h : laidMetH Tryd.prog laidRows W) : laidMet Tryd.prog laidRows W := h
theorem Laid_of {W : World} (h : laidMetH Tryd.prog laidRows W) : Laid W := laid_of_rows (rows_of_laid (laidMet_of_H h))

def layCells (c : Array Value) : Obj → Obj
  | .cells _ t frozen => .cells c t frozen
  | o => o
/-- A world in which both tables are laid. -/
noncomputable def laidWorld (os : Os) : World :=
  { World.holding Tryd.prog os ⟨#[], #[], []⟩ with heap := ((World.holding Tryd.prog os ⟨#[], #[], []⟩).heap.modify 1 (layCells cellsK)).modify 0 (layCells cellsH) }
/-- What every card of this seat asks besides. -/
theorem plain_of {name : String} {f0 : FuncId} {fn0 : Func} (hn : Tryd.prog.funcNamed name = some f0) (h0 : Tryd.prog.funcs[f0]? = some fn0) (hp : (fn0.params.toList.all fun t => !Tryd.prog.wantsStandIn t) = true) (f : FuncId) (fn : Func) (hf : Tryd.pinned.checked.prog.funcNamed name = some f) (hfn : Tryd.pinned.checked.prog.funcs[f]? = some fn) :
    false = Tryd.pinned.checked.prog.looks [] ∧ ∀ (j : Nat) t, fn.params[j]? = some t → Tryd.pinned.checked.prog.wantsStandIn t = false := by
  obtain rfl : f = f0 := Option.some.inj (hn.symm.trans hf) |>.symm
  obtain rfl : fn = fn0 := (Option.some.inj (h0.symm.trans hfn)).symm
  refine ⟨by kernel_rfl, fun j t ht => ?_⟩
  have h := List.all_eq_true.1 hp t (by simpa using Array.mem_of_getElem? ht)
  have h' : Tryd.prog.wantsStandIn t = false := by simpa using h
  exact h'
end Go.Proofs.YtlegcceaoglpoaaDoor

namespace Go.Proofs.YtlegcceaoglpoaaDoor
open Go.ChangeShapes Go.WideShapes Go.ChangeAt Go.RowKit
set_option linter.unusedVariables false
abbrev laidRowsF : List (String × DataW Unit) := [("unicode/utf8.acceptRanges", Rows.laid_unicode_utf8_acceptRanges), ("florin/sha2.constants", Rows.laid_florin_sha2_constants), ("florin/sha2.initials", Rows.laid_florin_sha2_initials), ("unicode/utf8.first", Rows.laid_unicode_utf8_first)]
theorem rows_of_laidF {W : World} (h : laidMet Tryd.prog laidRowsF W) : W.var? Tryd.prog "florin/sha2.constants" = some cellsK ∧ W.var? Tryd.prog "florin/sha2.initials" = some cellsH := by
  obtain ⟨ps, ⟨g0, t0, cs0, fuel0, p0, q0, hg0, ht0, hvar0, hd0, ⟨g, t, cs, fuel, p, q, hg, ht, hvar, hd, ⟨g2, t2, cs2, fuel2, p2, q2, hg2, ht2, hvar2, hd2, _, _⟩, _⟩, _⟩, _⟩ := h
  obtain rfl := Option.some.inj (gK.symm.trans hg)
  obtain rfl := Option.some.inj (gKt.symm.trans ht)
  obtain rfl := Option.some.inj (gH.symm.trans hg2)
  obtain rfl := Option.some.inj (gHt.symm.trans ht2)
  rw [laid_K] at hd
  rw [laid_H] at hd2
  have e1 := ints_laid Tryd.underlying99 Tryd.underlying22 (by kernel_rfl) (by kernel_rfl) KZ hd
  have e2 := ints_laid Tryd.underlying81 Tryd.underlying22 (by kernel_rfl) (by kernel_rfl) HZ hd2
  refine ⟨by rw [hvar]; congr 1; exact Array.ext' e1, by rw [hvar2]; congr 1; exact Array.ext' e2⟩
theorem laidMet_of_HF {W : World} (h : laidMetH Tryd.prog laidRowsF W) : laidMet Tryd.prog laidRowsF W := h
theorem LaidF_of {W : World} (h : laidMetH Tryd.prog laidRowsF W) : Laid W := laid_of_rows (rows_of_laidF (laidMet_of_HF h))
abbrev cellsFirst : Array Value := (Go.Pinned.utf8FirstZ.map fun (n : Nat) => Value.int .u8 (n : Int)).toArray
abbrev cellsAcc : Array Value := #[.int .u8 128, .int .u8 191, .int .u8 160, .int .u8 191, .int .u8 128, .int .u8 159, .int .u8 144, .int .u8 191, .int .u8 128, .int .u8 143, .int .u8 0, .int .u8 0, .int .u8 0, .int .u8 0, .int .u8 0, .int .u8 0, .int .u8 0, .int .u8 0, .int .u8 0, .int .u8 0, .int .u8 0, .int .u8 0, .int .u8 0, .int .u8 0, .int .u8 0, .int .u8 0, .int .u8 0, .int .u8 0, .int .u8 0, .int .u8 0, .int .u8 0, .int .u8 0]
/-- A world in which the four tables are laid. -/
noncomputable def laidWorldF (os : Os) : World :=
  { World.holding Tryd.prog os ⟨#[], #[], []⟩ with heap := ((((World.holding Tryd.prog os ⟨#[], #[], []⟩).heap.modify 1 (layCells cellsK)).modify 0 (layCells cellsH)).modify 2 (layCells cellsFirst)).modify 3 (layCells cellsAcc) }
end Go.Proofs.YtlegcceaoglpoaaDoor
