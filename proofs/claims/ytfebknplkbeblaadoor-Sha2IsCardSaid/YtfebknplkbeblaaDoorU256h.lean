/- What u256.Div comes to. -/
import Derived.Test.YtfebknplkbeblaaDoorU256g
namespace Go.Proofs.YtfebknplkbeblaaDoor
open Go.RowKit
set_option linter.unusedVariables false

theorem or_bit (m s : Nat) (h : m % 2 ^ (s + 1) = 0) : m ||| 2 ^ s = m + 2 ^ s := by
  have h1 : m = (m / 2 ^ (s + 1)) <<< (s + 1) := by
    rw [Nat.shiftLeft_eq, Nat.mul_comm]
    have := Nat.div_add_mod m (2 ^ (s + 1))
    omega
  have hlt : 2 ^ s < 2 ^ (s + 1) := Nat.pow_lt_pow_right (by decide) (by omega)
  rw [h1, ← Nat.shiftLeft_add_eq_or_of_lt hlt]
/-- q without its lowest i digits of two. -/
def topq (q i : Nat) : Nat := q / 2 ^ i * 2 ^ i
theorem topq_zero (q : Nat) : topq q 0 = q := by simp [topq]
theorem topq_none (q i : Nat) (h : q < 2 ^ i) : topq q i = 0 := by unfold topq; rw [Nat.div_eq_of_lt h, Nat.zero_mul]
theorem lim_topq (q W s j : Nat) (hs : s < 64) : lim (topq q (64 * W + s)) j = if j < W then 0 else if j = W then lim q j / 2 ^ s * 2 ^ s else lim q j := by
  have hp : (2 : Nat) ^ (64 * W + s) = W64 ^ W * 2 ^ s := by rw [show W64 = 2 ^ 64 from rfl, ← Nat.pow_mul, ← Nat.pow_add]
  have hps : 0 < 2 ^ s := Nat.two_pow_pos s
  unfold topq lim
  rw [hp]
  by_cases h1 : j < W
  · rw [if_pos h1]
    have e : W64 ^ W * 2 ^ s = W64 ^ (W - j - 1) * 2 ^ s * W64 * W64 ^ j := by
      rw [Nat.mul_assoc, ← Nat.pow_succ', Nat.mul_right_comm, ← Nat.pow_add]
      congr 2
      omega
    rw [e, ← Nat.mul_assoc, Nat.mul_div_cancel _ (pow_pos' j), ← Nat.mul_assoc, Nat.mul_mod_left]
  · rw [if_neg h1]
    by_cases h2 : j = W
    · subst h2
      rw [if_pos rfl]
      have e : q / (W64 ^ j * 2 ^ s) * (W64 ^ j * 2 ^ s) / W64 ^ j = q / W64 ^ j / 2 ^ s * 2 ^ s := by
        rw [Nat.div_div_eq_div_mul, Nat.mul_comm (W64 ^ j) (2 ^ s), ← Nat.mul_assoc, Nat.mul_div_cancel _ (pow_pos' j)]
      rw [e]
      generalize q / W64 ^ j = p
      have hW : W64 = 2 ^ s * 2 ^ (64 - s) := by rw [show W64 = 2 ^ 64 from rfl, ← Nat.pow_add]; congr 1; omega
      rw [hW, Nat.mod_mul_right_div_self, Nat.mul_comm (2 ^ s) (2 ^ (64 - s)), Nat.mul_mod_mul_right]
    · rw [if_neg h2]
      have e : W64 ^ j = W64 ^ W * 2 ^ s * 2 ^ (64 * (j - W) - s) := by
        rw [Nat.mul_assoc, ← Nat.pow_add, show s + (64 * (j - W) - s) = 64 * (j - W) by omega, Nat.pow_mul, show (2 : Nat) ^ 64 = W64 from rfl, ← Nat.pow_add]
        congr 1
        omega
      rw [e, ← Nat.div_div_eq_div_mul, Nat.mul_div_cancel _ (Nat.mul_pos (pow_pos' W) hps), Nat.div_div_eq_div_mul]
/-- One digit more. -/
theorem topq_step (q i : Nat) (hi : i < 256) : lim (topq q (i + 1)) (i / 64) % 2 ^ (i % 64 + 1) = 0 ∧ lim (topq q i) (i / 64) = lim (topq q (i + 1)) (i / 64) + q / 2 ^ i % 2 * 2 ^ (i % 64) ∧
    ∀ j, j < 4 → j ≠ i / 64 → lim (topq q i) j = lim (topq q (i + 1)) j := by
  obtain ⟨W, hW⟩ : ∃ W, W = i / 64 := ⟨_, rfl⟩
  obtain ⟨s, hs⟩ : ∃ s, s = i % 64 := ⟨_, rfl⟩
  have hi' : i = 64 * W + s := by omega
  have hs6 : s < 64 := by omega
  rw [← hW, ← hs]
  have a := fun j => lim_topq q W s j hs6
  rw [← hi'] at a
  have hbit : q / 2 ^ i % 2 = lim q W / 2 ^ s % 2 := by
    unfold lim
    have hp : (2 : Nat) ^ i = W64 ^ W * 2 ^ s := by rw [hi', show W64 = 2 ^ 64 from rfl, ← Nat.pow_mul, ← Nat.pow_add]
    rw [hp, ← Nat.div_div_eq_div_mul]
    generalize q / W64 ^ W = p
    have hW : W64 = 2 ^ s * (2 * 2 ^ (63 - s)) := by rw [← Nat.pow_succ', ← Nat.pow_add, show W64 = 2 ^ 64 from rfl]; congr 1; omega
    rw [hW, Nat.mod_mul_right_div_self, Nat.mod_mul_right_mod]
  have hsplit : ∀ x : Nat, x / 2 ^ s * 2 ^ s = x / 2 ^ (s + 1) * 2 ^ (s + 1) + x / 2 ^ s % 2 * 2 ^ s := by
    intro x
    have h := Nat.div_add_mod (x / 2 ^ s) 2
    rw [Nat.pow_succ, ← Nat.div_div_eq_div_mul, ← Nat.mul_assoc, Nat.mul_right_comm, ← Nat.add_mul]
    congr 1
    omega
  have hl := lim_lt q W
  have b : ∀ j, lim (topq q (i + 1)) j = if j < W then 0 else if j = W then lim q j / 2 ^ (s + 1) * 2 ^ (s + 1) else lim q j := by
    intro j
    by_cases h63 : s = 63
    · have e := lim_topq q (W + 1) 0 j (by omega)
      rw [show 64 * (W + 1) + 0 = i + 1 by omega] at e
      rw [e]
      by_cases c1 : j < W
      · rw [if_pos (by omega), if_pos c1]
      · rw [if_neg c1]
        by_cases c2 : j = W
        · rw [if_pos (by omega), if_pos c2, c2, h63, Nat.div_eq_of_lt (by have : W64 = 2 ^ (63 + 1) := rfl; omega), Nat.zero_mul]
        · rw [if_neg (by omega), if_neg c2]
          split
          · simp
          · rfl
    · have e := lim_topq q W (s + 1) j (by omega)
      rw [show 64 * W + (s + 1) = i + 1 by omega] at e
      exact e
  refine ⟨?_, ?_, ?_⟩
  · rw [b W, if_neg (by omega), if_pos rfl, Nat.mul_mod_left]
  · rw [a W, b W, if_neg (by omega), if_pos rfl, if_neg (by omega), if_pos rfl, hbit]
    exact hsplit _
  · intro j _ hne
    rw [a j, b j]
    by_cases c : j < W
    · rw [if_pos c, if_pos c]
    · rw [if_neg c, if_neg c, if_neg hne, if_neg hne]
/-- One step of the division. -/
theorem div_step (m n i : Nat) (hn : 0 < n) : (n ≤ 2 * (m / 2 ^ (i + 1) % n) + m / 2 ^ i % 2 ∧ m / n / 2 ^ i % 2 = 1 ∧ m / 2 ^ i % n + n = 2 * (m / 2 ^ (i + 1) % n) + m / 2 ^ i % 2) ∨
    (2 * (m / 2 ^ (i + 1) % n) + m / 2 ^ i % 2 < n ∧ m / n / 2 ^ i % 2 = 0 ∧ m / 2 ^ i % n = 2 * (m / 2 ^ (i + 1) % n) + m / 2 ^ i % 2) := by
  have e1 : m / n / 2 ^ i = m / 2 ^ i / n := by rw [Nat.div_div_eq_div_mul, Nat.div_div_eq_div_mul, Nat.mul_comm]
  have e2 : m / 2 ^ (i + 1) = m / 2 ^ i / 2 := by rw [Nat.pow_succ, Nat.div_div_eq_div_mul]
  rw [e1, e2]
  generalize m / 2 ^ i = p
  have h1 := Nat.div_add_mod p 2
  have h2 := Nat.div_add_mod (p / 2) n
  have h3 := Nat.mod_lt (p / 2) hn
  generalize hr : p / 2 % n = r at *
  generalize hq : p / 2 / n = q at *
  have e3 : p = (2 * r + p % 2) + n * (2 * q) := by
    have : n * (2 * q) = 2 * (n * q) := by rw [Nat.mul_left_comm]
    omega
  have hp2 : p % 2 < 2 := Nat.mod_lt _ (by decide)
  generalize p % 2 = x at *
  by_cases c : n ≤ 2 * r + x
  · left
    have e4 : p = (2 * r + x - n) + n * (2 * q + 1) := by rw [Nat.mul_add, Nat.mul_one]; omega
    have e5 : p / n = 2 * q + 1 := by rw [e4, Nat.add_mul_div_left _ _ hn, Nat.div_eq_of_lt (by omega)]; omega
    have e6 : p % n = 2 * r + x - n := by rw [e4, Nat.add_mul_mod_self_left, Nat.mod_eq_of_lt (by omega)]
    rw [e5, e6]
    omega
  · right
    have e5 : p / n = 2 * q := by rw [e3, Nat.add_mul_div_left _ _ hn, Nat.div_eq_of_lt (by omega)]; omega
    have e6 : p % n = 2 * r + x := by rw [e3, Nat.add_mul_mod_self_left, Nat.mod_eq_of_lt (by omega)]
    rw [e5, e6]
    omega
theorem lim_bit (m i : Nat) : lim m (i / 64) / 2 ^ (i % 64) % 2 = m / 2 ^ i % 2 := by
  unfold lim
  have hp : (2 : Nat) ^ i = W64 ^ (i / 64) * 2 ^ (i % 64) := by
    rw [show W64 = 2 ^ 64 from rfl, ← Nat.pow_mul, ← Nat.pow_add]
    congr 1
    omega
  rw [hp, ← Nat.div_div_eq_div_mul]
  generalize m / W64 ^ (i / 64) = p
  have hs : i % 64 < 64 := Nat.mod_lt _ (by decide)
  generalize i % 64 = s at *
  have hW : W64 = 2 ^ s * (2 * 2 ^ (63 - s)) := by rw [← Nat.pow_succ', ← Nat.pow_add, show W64 = 2 ^ 64 from rfl]; congr 1; omega
  rw [hW, Nat.mod_mul_right_div_self, Nat.mod_mul_right_mod]
theorem lim_odd (r x : Nat) (hr : r % 2 = 0) (hx : x ≤ 1) : lim (r + x) 0 = lim r 0 + x ∧ ∀ j, 0 < j → lim (r + x) j = lim r j := by
  constructor
  · unfold lim
    simp only [Nat.pow_zero, Nat.div_one]
    unfold W64
    omega
  · intro j hj
    unfold lim
    have e : W64 ^ j = 2 * (2 ^ 63 * W64 ^ (j - 1)) := by
      rw [← Nat.mul_assoc, ← Nat.pow_succ', show (2 : Nat) ^ (63 + 1) = W64 from rfl, ← Nat.pow_succ']
      congr 1
      omega
    rw [e, ← Nat.div_div_eq_div_mul (r + x) 2, ← Nat.div_div_eq_div_mul r 2, show (r + x) / 2 = r / 2 by omega]
theorem bit_u64 (a s : Nat) (ha : a < W64) : bits .and .u64 ((a : Nat) / 2 ^ s : Int) 1 = ((a / 2 ^ s % 2 : Nat) : Int) := by
  have e1 : ((a : Nat) / 2 ^ s : Int) = ((a / 2 ^ s : Nat) : Int) := by push_cast; rfl
  have hle : a / 2 ^ s ≤ a := Nat.div_le_self _ _
  rw [e1]
  have e2 := u64_and_nat (a / 2 ^ s) 1 (by unfold W64 at ha; omega) (by omega)
  rw [show ((1 : Nat) : Int) = 1 from rfl] at e2
  rw [e2, Nat.and_one_is_mod]
theorem or_low (r x : Nat) (hr : r % 2 = 0) (hx : x ≤ 1) (hl : r < W64) : bits .or .u64 (r : Int) (x : Int) = ((r + x : Nat) : Int) := by
  have e2 := u64_or_nat r x (by unfold W64 at hl; omega) (by omega)
  rw [e2]
  congr 1
  have h1 : r = (r / 2) <<< 1 := by rw [Nat.shiftLeft_eq]; omega
  rw [h1, ← Nat.shiftLeft_add_eq_or_of_lt (by omega)]
theorem or_top (a s : Nat) (ha : a < W64) (hs : s < 64) (h : a % 2 ^ (s + 1) = 0) : bits .or .u64 (a : Int) (IntKind.u64.wrap (2 ^ s)) = ((a + 2 ^ s : Nat) : Int) := by
  have hp : (2 : Nat) ^ s < W64 := Nat.pow_lt_pow_right (by decide) hs
  have w1 : IntKind.u64.wrap (2 ^ s) = ((2 ^ s : Nat) : Int) := by
    have e : (2 : Int) ^ s = ((2 ^ s : Nat) : Int) := by push_cast; rfl
    rw [e]
    generalize 2 ^ s = y at *
    unfold W64 at hp
    simp [IntKind.wrap, IntKind.signed, IntKind.bits]; omega
  rw [w1, u64_or_nat a (2 ^ s) (by unfold W64 at ha; omega) (by unfold W64 at hp; omega)]
  congr 1
  exact or_bit a s h
/-- A block of four parts is filled. -/
def fillW (w : World) (g n : Nat) : World := (((w.setCell ⟨g, 0, none⟩ (.int .u64 (lim n 0))).setCell ⟨g, 1, none⟩ (.int .u64 (lim n 1))).setCell ⟨g, 2, none⟩ (.int .u64 (lim n 2))).setCell ⟨g, 3, none⟩ (.int .u64 (lim n 3))
theorem Blk.fillAt {w : World} {g : Nat} {t : TypeId} {m n : Nat} (h : Blk w g t (ucells m)) : Blk (fillW w g n) g t (ucells n) := h.fill rfl
theorem Blk.fillFar {w : World} {g b n : Nat} {t : TypeId} {cs : Array Value} (h : Blk w g t cs) (hne : g ≠ b) : Blk (fillW w b n) g t cs :=
  (((h.far hne _).far hne _).far hne _).far hne _
theorem fill_below {w0 w : World} {b n B : Nat} (h : Below B w0 w) (hb : B ≤ b) : Below B w0 (fillW w b n) := belowFill h hb
/-- Cells and their freedom, of a block of four parts. -/
theorem clf {w : World} {g : Nat} {t : TypeId} {n : Nat} (h : Blk w g t (ucells n)) : Cl w g n ∧ w.frozen? ⟨g, 0, none⟩ = false ∧ w.frozen? ⟨g, 1, none⟩ = false ∧ w.frozen? ⟨g, 2, none⟩ = false ∧ w.frozen? ⟨g, 3, none⟩ = false :=
  ⟨cl4 h, h.frozen 0, h.frozen 1, h.frozen 2, h.frozen 3⟩

theorem ucells_put (a b j : Nat) (h : j < 4) (ho : ∀ i, i < 4 → i ≠ j → lim b i = lim a i) : (ucells a).setIfInBounds j (.int .u64 (lim b j)) = ucells b := by
  have h0 := ho 0
  have h1 := ho 1
  have h2 := ho 2
  have h3 := ho 3
  rcases (show j = 0 ∨ j = 1 ∨ j = 2 ∨ j = 3 from by omega) with rfl | rfl | rfl | rfl <;> simp_all [ucells]
theorem ucells_ext {a b : Nat} (h : ∀ k, k < 4 → lim a k = lim b k) : ucells a = ucells b := by
  simp [ucells, h 0, h 1, h 2, h 3]

end Go.Proofs.YtfebknplkbeblaaDoor
