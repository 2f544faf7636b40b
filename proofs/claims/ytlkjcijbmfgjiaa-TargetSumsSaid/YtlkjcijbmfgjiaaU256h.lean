/- What u256.Div comes to. -/
import Derived.Test.YtlkjcijbmfgjiaaU256g
namespace Go.Proofs.Ytlkjcijbmfgjiaa
open Go.RowKit
set_option linter.unusedVariables false

theorem or_bit (m s : Nat) (h : m % 2 ^ (s + 1) = 0) : m ||| 2 ^ s = m + 2 ^ s := by
  have h1 : m = (m / 2 ^ (s + 1)) <<< (s + 1) := by
    rw [Nat.shiftLeft_eq, Nat.mul_comm]
    have := Nat.div_add_mod m (2 ^ (s + 1))
    omega
  have hlt : 2 ^ s < 2 ^ (s + 1) := Nat.pow_lt_pow_right (by decide) (by omega)
  rw [h1, ← Nat.shiftLeft_add_eq_or_of_lt hlt]
/-- q without its lowest i digits of two. -/
def topq (q i : Nat) : Nat := q / 2 ^ i * 2 ^ i
theorem topq_zero (q : Nat) : topq q 0 = q := by simp [topq]
theorem topq_none (q i : Nat) (h : q < 2 ^ i) : topq q i = 0 := by unfold topq; rw [Nat.div_eq_of_lt h, Nat.zero_mul]
theorem lim_topq (q W s j : Nat) (hs : s < 64) : lim (topq q (64 * W + s)) j = if j < W then 0 else if j = W then lim q j / 2 ^ s * 2 ^ s else lim q j := by
  have hp : (2 : Nat) ^ (64 * W + s) = W64 ^ W * 2 ^ s := by rw [show W64 = 2 ^ 64 from rfl, ← Nat.pow_mul, ← Nat.pow_add]
  have hps : 0 < 2 ^ s := Nat.two_pow_pos s
  unfold topq lim
  rw [hp]
  by_cases h1 : j < W
  · rw [if_pos h1]
    have e : W64 ^ W * 2 ^ s = W64 ^ (W - j - 1) * 2 ^ s * W64 * W64 ^ j := by
      rw [Nat.mul_assoc, ← Nat.pow_succ', Nat.mul_right_comm, ← Nat.pow_add]
      congr 2
      omega
    rw [e, ← Nat.mul_assoc, Nat.mul_div_cancel _ (pow_pos' j), ← Nat.mul_assoc, Nat.mul_mod_left]
  · rw [if_neg h1]
    by_cases h2 : j = W
    · subst h2
      rw [if_pos rfl]
      have e : q / (W64 ^ j * 2 ^ s) * (W64 ^ j * 2 ^ s) / W64 ^ j = q / W64 ^ j / 2 ^ s * 2 ^ s := by
        rw [Nat.div_div_eq_div_mul, Nat.mul_comm (W64 ^ j) (2 ^ s), ← Nat.mul_assoc, Nat.mul_div_cancel _ (pow_pos' j)]
      rw [e]
      generalize q / W64 ^ j = p
      have hW : W64 = 2 ^ s * 2 ^ (64 - s) := by rw [show W64 = 2 ^ 64 from rfl, ← Nat.pow_add]; congr 1; omega
      rw [hW, Nat.mod_mul_right_div_self, Nat.mul_comm (2 ^ s) (2 ^ (64 - s)), Nat.mul_mod_mul_right]
    · rw [if_neg h2]
      have e : W64 ^ j = W64 ^ W * 2 ^ s * 2 ^ (64 * (j - W) - s) := by
        rw [Nat.mul_assoc, ← Nat.pow_add, show s + (64 * (j - W) - s) = 64 * (j - W) by omega, Nat.pow_mul, show (2 : Nat) ^ 64 = W64 from rfl, ← Nat.pow_add]
        congr 1
        omega
      rw [e, ← Nat.div_div_eq_div_mul, Nat.mul_div_cancel _ (Nat.mul_pos (pow_pos' W) hps), Nat.div_div_eq_div_mul]
/-- One digit more. -/
theorem topq_step (q i : Nat) (hi : i < 256) : lim (topq q (i + 1)) (i / 64) % 2 ^ (i % 64 + 1) = 0 ∧ lim (topq q i) (i / 64) = lim (topq q (i + 1)) (i / 64) + q / 2 ^ i % 2 * 2 ^ (i % 64) ∧
    ∀ j, j < 4 → j ≠ i / 64 → lim (topq q i) j = lim (topq q (i + 1)) j := by
  obtain ⟨W, hW⟩ : ∃ W, W = i / 64 := ⟨_, rfl⟩
  obtain ⟨s, hs⟩ : ∃ s, s = i % 64 := ⟨_, rfl⟩
  have hi' : i = 64 * W + s := by omega
  have hs6 : s < 64 := by omega
  rw [← hW, ← hs]
  have a := fun j => lim_topq q W s j hs6
  rw [← hi'] at a
  have hbit : q / 2 ^ i % 2 = lim q W / 2 ^ s % 2 := by
    unfold lim
    have hp : (2 : Nat) ^ i = W64 ^ W * 2 ^ s := by rw [hi', show W64 = 2 ^ 64 from rfl, ← Nat.pow_mul, ← Nat.pow_add]
    rw [hp, ← Nat.div_div_eq_div_mul]
    generalize q / W64 ^ W = p
    have hW : W64 = 2 ^ s * (2 * 2 ^ (63 - s)) := by rw [← Nat.pow_succ', ← Nat.pow_add, show W64 = 2 ^ 64 from rfl]; congr 1; omega
    rw [hW, Nat.mod_mul_right_div_self, Nat.mod_mul_right_mod]
  have hsplit : ∀ x : Nat, x / 2 ^ s * 2 ^ s = x / 2 ^ (s + 1) * 2 ^ (s + 1) + x / 2 ^ s % 2 * 2 ^ s := by
    intro x
    have h := Nat.div_add_mod (x / 2 ^ s) 2
    rw [Nat.pow_succ, ← Nat.div_div_eq_div_mul, ← Nat.mul_assoc, Nat.mul_right_comm, ← Nat.add_mul]
    congr 1
    omega
  have hl := lim_lt q W
  have b : ∀ j, lim (topq q (i + 1)) j = if j < W then 0 else if j = W then lim q j / 2 ^ (s + 1) * 2 ^ (s + 1) else lim q j := by
    intro j
    by_cases h63 : s = 63
    · have e := lim_topq q (W + 1) 0 j (by omega)
      rw [show 64 * (W + 1) + 0 = i + 1 by omega] at e
      rw [e]
      by_cases c1 : j < W
      · rw [if_pos (by omega), if_pos c1]
      · rw [if_neg c1]
        by_cases c2 : j = W
        · rw [if_pos (by omega), if_pos c2, c2, h63, Nat.div_eq_of_lt (by have : W64 = 2 ^ (63 + 1) := rfl; omega), Nat.zero_mul]
        · rw [if_neg (by omega), if_neg c2]
          split
          · simp
          · rfl
    · have e := lim_topq q W (s + 1) j (by omega)
      rw [show 64 * W + (s + 1) = i + 1 by omega] at e
      exact e
  refine ⟨?_, ?_, ?_⟩
  · rw [b W, if_neg (by omega), if_pos rfl, Nat.mul_mod_left]
  · rw [a W, b W, if_neg (by omega), if_pos rfl, if_neg (by omega), if_pos rfl, hbit]
    exact hsplit _
  · intro j _ hne
    rw [a j, b j]
    by_cases c : j < W
    · rw [if_pos c, if_pos c]
    · rw [if_neg c, if_neg c, if_neg hne, if_neg hne]
/-- One step of the division. -/
theorem div_step (m n i : Nat) (hn : 0 < n) : (n ≤ 2 * (m / 2 ^ (i + 1) % n) + m / 2 ^ i % 2 ∧ m / n / 2 ^ i % 2 = 1 ∧ m / 2 ^ i % n + n = 2 * (m / 2 ^ (i + 1) % n) + m / 2 ^ i % 2) ∨
    (2 * (m / 2 ^ (i + 1) % n) + m / 2 ^ i % 2 < n ∧ m / n / 2 ^ i % 2 = 0 ∧ m / 2 ^ i % n = 2 * (m / 2 ^ (i + 1) % n) + m / 2 ^ i % 2) := by
  have e1 : m / n / 2 ^ i = m / 2 ^ i / n := by rw [Nat.div_div_eq_div_mul, Nat.div_div_eq_div_mul, Nat.mul_comm]
  have e2 : m / 2 ^ (i + 1) = m / 2 ^ i / 2 := by rw [Nat.pow_succ, Nat.div_div_eq_div_mul]
  rw [e1, e2]
  generalize m / 2 ^ i = p
  have h1 := Nat.div_add_mod p 2
  have h2 := Nat.div_add_mod (p / 2) n
  have h3 := Nat.mod_lt (p / 2) hn
  generalize hr : p / 2 % n = r at *
  generalize hq : p / 2 / n = q at *
  have e3 : p = (2 * r + p % 2) + n * (2 * q) := by
    have : n * (2 * q) = 2 * (n * q) := by rw [Nat.mul_left_comm]
    omega
  have hp2 : p % 2 < 2 := Nat.mod_lt _ (by decide)
  generalize p % 2 = x at *
  by_cases c : n ≤ 2 * r + x
  · left
    have e4 : p = (2 * r + x - n) + n * (2 * q + 1) := by rw [Nat.mul_add, Nat.mul_one]; omega
    have e5 : p / n = 2 * q + 1 := by rw [e4, Nat.add_mul_div_left _ _ hn, Nat.div_eq_of_lt (by omega)]; omega
    have e6 : p % n = 2 * r + x - n := by rw [e4, Nat.add_mul_mod_self_left, Nat.mod_eq_of_lt (by omega)]
    rw [e5, e6]
    omega
  · right
    have e5 : p / n = 2 * q := by rw [e3, Nat.add_mul_div_left _ _ hn, Nat.div_eq_of_lt (by omega)]; omega
    have e6 : p % n = 2 * r + x := by rw [e3, Nat.add_mul_mod_self_left, Nat.mod_eq_of_lt (by omega)]
    rw [e5, e6]
    omega
theorem lim_bit (m i : Nat) : lim m (i / 64) / 2 ^ (i % 64) % 2 = m / 2 ^ i % 2 := by
  unfold lim
  have hp : (2 : Nat) ^ i = W64 ^ (i / 64) * 2 ^ (i % 64) := by
    rw [show W64 = 2 ^ 64 from rfl, ← Nat.pow_mul, ← Nat.pow_add]
    congr 1
    omega
  rw [hp, ← Nat.div_div_eq_div_mul]
  generalize m / W64 ^ (i / 64) = p
  have hs : i % 64 < 64 := Nat.mod_lt _ (by decide)
  generalize i % 64 = s at *
  have hW : W64 = 2 ^ s * (2 * 2 ^ (63 - s)) := by rw [← Nat.pow_succ', ← Nat.pow_add, show W64 = 2 ^ 64 from rfl]; congr 1; omega
  rw [hW, Nat.mod_mul_right_div_self, Nat.mod_mul_right_mod]
theorem lim_odd (r x : Nat) (hr : r % 2 = 0) (hx : x ≤ 1) : lim (r + x) 0 = lim r 0 + x ∧ ∀ j, 0 < j → lim (r + x) j = lim r j := by
  constructor
  · unfold lim
    simp only [Nat.pow_zero, Nat.div_one]
    unfold W64
    omega
  · intro j hj
    unfold lim
    have e : W64 ^ j = 2 * (2 ^ 63 * W64 ^ (j - 1)) := by
      rw [← Nat.mul_assoc, ← Nat.pow_succ', show (2 : Nat) ^ (63 + 1) = W64 from rfl, ← Nat.pow_succ']
      congr 1
      omega
    rw [e, ← Nat.div_div_eq_div_mul (r + x) 2, ← Nat.div_div_eq_div_mul r 2, show (r + x) / 2 = r / 2 by omega]
theorem bit_u64 (a s : Nat) (ha : a < W64) : bits .and .u64 ((a : Nat) / 2 ^ s : Int) 1 = ((a / 2 ^ s % 2 : Nat) : Int) := by
  have e1 : ((a : Nat) / 2 ^ s : Int) = ((a / 2 ^ s : Nat) : Int) := by push_cast; rfl
  have hle : a / 2 ^ s ≤ a := Nat.div_le_self _ _
  rw [e1]
  have e2 := u64_and_nat (a / 2 ^ s) 1 (by unfold W64 at ha; omega) (by omega)
  rw [show ((1 : Nat) : Int) = 1 from rfl] at e2
  rw [e2, Nat.and_one_is_mod]
theorem or_low (r x : Nat) (hr : r % 2 = 0) (hx : x ≤ 1) (hl : r < W64) : bits .or .u64 (r : Int) (x : Int) = ((r + x : Nat) : Int) := by
  have e2 := u64_or_nat r x (by unfold W64 at hl; omega) (by omega)
  rw [e2]
  congr 1
  have h1 : r = (r / 2) <<< 1 := by rw [Nat.shiftLeft_eq]; omega
  rw [h1, ← Nat.shiftLeft_add_eq_or_of_lt (by omega)]
theorem or_top (a s : Nat) (ha : a < W64) (hs : s < 64) (h : a % 2 ^ (s + 1) = 0) : bits .or .u64 (a : Int) (IntKind.u64.wrap (2 ^ s)) = ((a + 2 ^ s : Nat) : Int) := by
  have hp : (2 : Nat) ^ s < W64 := Nat.pow_lt_pow_right (by decide) hs
  have w1 : IntKind.u64.wrap (2 ^ s) = ((2 ^ s : Nat) : Int) := by
    have e : (2 : Int) ^ s = ((2 ^ s : Nat) : Int) := by push_cast; rfl
    rw [e]
    generalize 2 ^ s = y at *
    unfold W64 at hp
    simp [IntKind.wrap, IntKind.signed, IntKind.bits]; omega
  rw [w1, u64_or_nat a (2 ^ s) (by unfold W64 at ha; omega) (by unfold W64 at hp; omega)]
  congr 1
  exact or_bit a s h
/-- A block of four parts is filled. -/
def fillW (w : World) (g n : Nat) : World := (((w.setCell ⟨g, 0, none⟩ (.int .u64 (lim n 0))).setCell ⟨g, 1, none⟩ (.int .u64 (lim n 1))).setCell ⟨g, 2, none⟩ (.int .u64 (lim n 2))).setCell ⟨g, 3, none⟩ (.int .u64 (lim n 3))
theorem Blk.fillAt {w : World} {g : Nat} {t : TypeId} {m n : Nat} (h : Blk w g t (ucells m)) : Blk (fillW w g n) g t (ucells n) := h.fill rfl
theorem Blk.fillFar {w : World} {g b n : Nat} {t : TypeId} {cs : Array Value} (h : Blk w g t cs) (hne : g ≠ b) : Blk (fillW w b n) g t cs :=
  (((h.far hne _).far hne _).far hne _).far hne _
theorem fill_below {w0 w : World} {b n B : Nat} (h : Below B w0 w) (hb : B ≤ b) : Below B w0 (fillW w b n) := belowFill h hb
/-- Cells and their freedom, of a block of four parts. -/
theorem clf {w : World} {g : Nat} {t : TypeId} {n : Nat} (h : Blk w g t (ucells n)) : Cl w g n ∧ w.frozen? ⟨g, 0, none⟩ = false ∧ w.frozen? ⟨g, 1, none⟩ = false ∧ w.frozen? ⟨g, 2, none⟩ = false ∧ w.frozen? ⟨g, 3, none⟩ = false :=
  ⟨cl4 h, h.frozen 0, h.frozen 1, h.frozen 2, h.frozen 3⟩

theorem ucells_put (a b j : Nat) (h : j < 4) (ho : ∀ i, i < 4 → i ≠ j → lim b i = lim a i) : (ucells a).setIfInBounds j (.int .u64 (lim b j)) = ucells b := by
  have h0 := ho 0
  have h1 := ho 1
  have h2 := ho 2
  have h3 := ho 3
  rcases (show j = 0 ∨ j = 1 ∨ j = 2 ∨ j = 3 from by omega) with rfl | rfl | rfl | rfl <;> simp_all [ucells]
theorem ucells_ext {a b : Nat} (h : ∀ k, k < 4 → lim a k = lim b k) : ucells a = ucells b := by
  simp [ucells, h 0, h 1, h 2, h 3]
set_option maxHeartbeats 400000 in
theorem Div_none (m : Nat) (w : World) (hm : m < T) :
    Calls Try.prog 22 #[uval m, uval 0] w fun e w' => e = .returned (.tuple #[uval 0, uval 0, .bool false]) ∧ Below w.heap.size w w' := by
  have q := fun w => eqU0 0 true (by decide) (by decide) w
  unfold uval
  go_enter Try.func22, Try.ntmps22
  go_wp2
  refine bodyPost_ret (v := .tuple #[uval 0, uval 0, .bool false]) ?_ rfl ⟨rfl, ?_⟩
  · simp [results, Try.results22, go_sem, uval_zero0]
  · exact ((((Below.refl _ _).alloc (Nat.le_refl _) _).alloc (by simp) _).alloc (by simp; omega) _).alloc (by simp; omega) _

set_option maxHeartbeats 4000000 in
theorem DivU_any (m n : Nat) (w : World) (hm : m < T) (hn : n < T) (hn0 : 0 < n) :
    Calls Try.prog 22 #[uval m, uval n] w fun e w' => e = .returned (.tuple #[uval (m / n), uval (m % n), .bool true]) ∧ Below w.heap.size w w' := by
  have q := fun w => eqU0 n false hn (by simp; omega) w
  have hbl : bl m ≤ 256 := (bl_lt m 256).2 hm
  have hbl2 : m < 2 ^ bl m := (bl_lt m (bl m)).1 (Nat.le_refl _)
  have hlq : m / n ≤ m := Nat.div_le_self _ _
  unfold uval
  go_enter Try.func22, Try.ntmps22
  go_wp2_with fail
  refine (Len_any m _ hm).mono ?_
  rintro e w1 ⟨rfl, hb1⟩
  have A0 : Blk w1 (w.heap.size) 26 (ucells m) := ((((((Blk.newAt _ 26 (ucells m) (by simp)).alloc _).alloc _).alloc _).alloc _).alloc _).calls hb1
  have A1 : Blk w1 (w.heap.size + 1) 26 (ucells n) := (((((Blk.newAt _ 26 (ucells n) (by simp)).alloc _).alloc _).alloc _).alloc _).calls hb1
  have A2 : Blk w1 (w.heap.size + 1 + 1) 26 (zero4) := ((((Blk.newAt _ 26 (zero4) (by simp)).alloc _).alloc _).alloc _).calls hb1
  have A3 : Blk w1 (w.heap.size + 1 + 1 + 1) 26 (zero4) := (((Blk.newAt _ 26 (zero4) (by simp)).alloc _).alloc _).calls hb1
  have A4 : Blk w1 (w.heap.size + 1 + 1 + 1 + 1) 26 (zero4) := ((Blk.newAt _ 26 (zero4) (by simp)).alloc _).calls hb1
  have A5 : Blk w1 (w.heap.size + 1 + 1 + 1 + 1 + 1) 26 (zero4) := (Blk.newAt _ 26 (zero4) (by simp)).calls hb1
  have AB := bt (ba (ba (ba (ba (ba (ba (Below.refl w.heap.size w) _) _) _) _) _) _) hb1
  have HI := Lib.hid (And.intro hbl2 hlq)
  have HA := Lib.hid (And.intro A0 (And.intro A1 (And.intro A2 (And.intro A3 (And.intro A4 (And.intro A5 AB))))))
  clear hb1 A0 A1 A2 A3 A4 A5 AB q hbl2 hlq
  go_wp2_with fail
  go_loopw [9] (fun i wr => ∃ j : Nat, j ≤ 256 ∧ i = .int .i64 ((j : Int) - 1) ∧ Blk wr (w.heap.size) 26 (ucells m) ∧ Blk wr (w.heap.size + 1) 26 (ucells n) ∧ Blk wr (w.heap.size + 1 + 1) 26 (zero4) ∧ Blk wr (w.heap.size + 1 + 1 + 1) 26 (zero4) ∧ Blk wr (w.heap.size + 1 + 1 + 1 + 1) 26 (ucells (topq (m / n) j)) ∧ Blk wr (w.heap.size + 1 + 1 + 1 + 1 + 1) 26 (ucells (m / 2 ^ j % n)) ∧ Below w.heap.size w wr) (fun i _ => (intOf i + 1).toNat)
  case atStart =>
    obtain ⟨A0, A1, A2, A3, A4, A5, AB⟩ := HA.out
    obtain ⟨hbl2, hlq⟩ := HI.out
    refine ⟨bl m, hbl, by go_num, A0, A1, A2, A3, ?_, ?_, AB⟩
    · rw [topq_none _ _ (by omega)]; exact A4
    · rw [Nat.div_eq_of_lt hbl2, Nat.zero_mod]; exact A5
  case round =>
    obtain ⟨j, hj, rfl, h0, h1, h2, h3, h4, h5, hb⟩ := hrel
    clear HA
    by_cases hlt : 0 < j
    · obtain ⟨i, hij⟩ : ∃ i, i = j - 1 := ⟨_, rfl⟩
      have hji : j = i + 1 := by omega
      subst hji
      have hi : i < 256 := by omega
      clear hij
      obtain ⟨L, hL⟩ : ∃ L, L = m / 2 ^ (i + 1) % n := ⟨_, rfl⟩
      obtain ⟨x, hx⟩ : ∃ x, x = m / 2 ^ i % 2 := ⟨_, rfl⟩
      have hx1 : x ≤ 1 := by omega
      have hLn : L < n := by rw [hL]; exact Nat.mod_lt _ hn0
      have st := div_step m n i hn0
      have tq := topq_step (m / n) i hi
      rw [← hL, ← hx] at st
      rw [← hL] at h5
      obtain ⟨r, ov, hsum⟩ := sum_ex L L (by omega) (by omega)
      have hsum' := hsum
      obtain ⟨_, _, hrT, hre⟩ := hsum'
      have hr2 : r % 2 = 0 := by unfold T at hre; omega
      have hrx : r + x < T := by unfold T at hrT hr2 ⊢; omega
      have lo := lim_odd r x hr2 hx1
      have vb : bits .and .u64 ((lim m (i / 64) : Nat) / 2 ^ (i % 64) : Int) 1 = (x : Int) := by
        rw [bit_u64 _ _ (lim_lt _ _), lim_bit, hx]
      have vo : bits .or .u64 (lim r 0 : Int) (x : Int) = (lim (r + x) 0 : Nat) := by
        rw [or_low _ _ (by have : lim r 0 = r % W64 := by unfold lim; rw [Nat.pow_zero, Nat.div_one]
                           rw [this]; unfold W64; omega) hx1 (lim_lt _ _), lo.1]
      obtain ⟨c, hc⟩ := cmp_ex (r + x) n hrx hn
      have hcf := cmp_facts hc
      obtain ⟨tb, hd⟩ : ∃ tb, n ≤ 2 * L + x → DiffIs (r + x) n (m / 2 ^ i % n) tb := by
        by_cases g : n ≤ r + x
        · refine ⟨false, fun h => ⟨hrx, hn, Nat.lt_trans (Nat.mod_lt _ hn0) hn, ?_⟩⟩
          cases ov <;> simp at hre ⊢ <;> omega
        · refine ⟨true, fun h => ⟨hrx, hn, Nat.lt_trans (Nat.mod_lt _ hn0) hn, ?_⟩⟩
          cases ov <;> simp at hre ⊢ <;> omega
      have hv : n ≤ 2 * L + x ↔ ov = true ∨ 0 ≤ c := by
        cases ov <;> simp at hre ⊢ <;> omega
      have hii : ((i + 1 : Nat) : Int) - 1 = (i : Int) := by omega
      rw [hii]
      have F := Lib.hid (And.intro st (And.intro tq (And.intro hsum (And.intro lo (And.intro hc (And.intro hd (And.intro hv (And.intro hre (And.intro hL hx)))))))))
      clear st tq hsum lo hc hd hv hre hL hx hr2 hcf hlt hj hii
      have c5 := clf h5
      have G := Lib.hid (And.intro h0 (And.intro h1 (And.intro h2 (And.intro h3 (And.intro h4 (And.intro h5 hb))))))
      clear h0 h1 h2 h3 h4 h5 hb
      go_wp2_with fail
      refine (Add_any L L r ov _ F.out.2.2.1).mono ?_
      rintro e w2 ⟨rfl, hb2⟩
      simp only [uval]
      obtain ⟨h0, h1, h2, h3, h4, h5, hb⟩ := G.out
      have B0 := h0.calls hb2; have B1 := h1.calls hb2; have B2 := h2.calls hb2; have B3 := h3.calls hb2; have B4 := h4.calls hb2; have B5 := h5.calls hb2; have BB := bt hb hb2
      clear h0 h1 h2 h3 h4 h5 hb hb2 G c5
      have c5 := clf B5
      have G := Lib.hid (And.intro B0 (And.intro B1 (And.intro B2 (And.intro B3 (And.intro B4 (And.intro B5 BB))))))
      clear B0 B1 B2 B3 B4 B5 BB
      go_wp2_with fail
      change Code.wp _ _ _ _ (fillW w2 (w.heap.size + 1 + 1 + 1 + 1 + 1) r)
      obtain ⟨h0, h1, h2, h3, h4, h5, hb⟩ := G.out
      have B0 := h0.fillFar (b := (w.heap.size + 1 + 1 + 1 + 1 + 1)) (n := r) (by omega); have B1 := h1.fillFar (b := (w.heap.size + 1 + 1 + 1 + 1 + 1)) (n := r) (by omega); have B2 := h2.fillFar (b := (w.heap.size + 1 + 1 + 1 + 1 + 1)) (n := r) (by omega); have B3 := h3.fillFar (b := (w.heap.size + 1 + 1 + 1 + 1 + 1)) (n := r) (by omega); have B4 := h4.fillFar (b := (w.heap.size + 1 + 1 + 1 + 1 + 1)) (n := r) (by omega); have B5 := h5.fillAt (n := r); have BB := fill_below (n := r) hb (b := (w.heap.size + 1 + 1 + 1 + 1 + 1)) (by omega)
      clear h0 h1 h2 h3 h4 h5 hb G c5
      generalize fillW w2 (w.heap.size + 1 + 1 + 1 + 1 + 1) r = w3 at *
      have c5 := clf B5
      have G := Lib.hid (And.intro B0 (And.intro B1 (And.intro B2 (And.intro B3 (And.intro B4 (And.intro B5 BB))))))
      have ca := blk_get B0 (i / 64) _ (ucells_at m (i / 64) (by omega))
      have i4 : i / 64 < 4 := by omega
      clear B0 B1 B2 B3 B4 B5 BB
      go_region
      have hset := ucells_put r (r + x) 0 (by decide) (fun k hk h0 => F.out.2.2.2.1.2 k (by omega))
      change Exit.then _ _ _ _ ((w3.setCell ⟨(w.heap.size + 1 + 1 + 1 + 1 + 1), 0, none⟩ (.int .u64 (lim (r + x) 0))).drew)
      obtain ⟨h0, h1, h2, h3, h4, h5, hb⟩ := G.out
      have B0 : Blk ((w3.setCell ⟨(w.heap.size + 1 + 1 + 1 + 1 + 1), 0, none⟩ (.int .u64 (lim (r + x) 0))).drew) (w.heap.size) 26 (_) := (h0.far (b := (w.heap.size + 1 + 1 + 1 + 1 + 1)) (i := 0) (by omega) _).drew
      have B1 : Blk ((w3.setCell ⟨(w.heap.size + 1 + 1 + 1 + 1 + 1), 0, none⟩ (.int .u64 (lim (r + x) 0))).drew) (w.heap.size + 1) 26 (_) := (h1.far (b := (w.heap.size + 1 + 1 + 1 + 1 + 1)) (i := 0) (by omega) _).drew
      have B2 : Blk ((w3.setCell ⟨(w.heap.size + 1 + 1 + 1 + 1 + 1), 0, none⟩ (.int .u64 (lim (r + x) 0))).drew) (w.heap.size + 1 + 1) 26 (_) := (h2.far (b := (w.heap.size + 1 + 1 + 1 + 1 + 1)) (i := 0) (by omega) _).drew
      have B3 : Blk ((w3.setCell ⟨(w.heap.size + 1 + 1 + 1 + 1 + 1), 0, none⟩ (.int .u64 (lim (r + x) 0))).drew) (w.heap.size + 1 + 1 + 1) 26 (_) := (h3.far (b := (w.heap.size + 1 + 1 + 1 + 1 + 1)) (i := 0) (by omega) _).drew
      have B4 : Blk ((w3.setCell ⟨(w.heap.size + 1 + 1 + 1 + 1 + 1), 0, none⟩ (.int .u64 (lim (r + x) 0))).drew) (w.heap.size + 1 + 1 + 1 + 1) 26 (_) := (h4.far (b := (w.heap.size + 1 + 1 + 1 + 1 + 1)) (i := 0) (by omega) _).drew
      have B5 : Blk ((w3.setCell ⟨(w.heap.size + 1 + 1 + 1 + 1 + 1), 0, none⟩ (.int .u64 (lim (r + x) 0))).drew) (w.heap.size + 1 + 1 + 1 + 1 + 1) 26 (_) := ((h5.set_ 0 _).to hset).drew
      have BB : Below w.heap.size w ((w3.setCell ⟨(w.heap.size + 1 + 1 + 1 + 1 + 1), 0, none⟩ (.int .u64 (lim (r + x) 0))).drew) := (hb.setCell (p := ⟨(w.heap.size + 1 + 1 + 1 + 1 + 1), 0, none⟩) (by simp; omega) _).drew
      clear h0 h1 h2 h3 h4 h5 hb G c5
      generalize (w3.setCell ⟨(w.heap.size + 1 + 1 + 1 + 1 + 1), 0, none⟩ (.int .u64 (lim (r + x) 0))).drew = w4 at *
      have c5 := clf B5
      have G := Lib.hid (And.intro B0 (And.intro B1 (And.intro B2 (And.intro B3 (And.intro B4 (And.intro B5 BB))))))
      clear ca hset
      have c1 := clf B1
      clear B0 B1 B2 B3 B4 B5 BB
      cases hov : ov
      · have hov' := Lib.hid hov; clear hov
        go_wp2_with fail
        refine (Cmp_any (r + x) n c _ F.out.2.2.2.2.1).mono ?_
        rintro e w5 ⟨rfl, hb5⟩
        obtain ⟨h0, h1, h2, h3, h4, h5, hb⟩ := G.out
        have B0 := h0.calls hb5; have B1 := h1.calls hb5; have B2 := h2.calls hb5; have B3 := h3.calls hb5; have B4 := h4.calls hb5; have B5 := h5.calls hb5; have BB := bt hb hb5
        clear h0 h1 h2 h3 h4 h5 hb hb5 G c5 c1
        have c5 := clf B5
        have c1 := clf B1
        have G := Lib.hid (And.intro B0 (And.intro B1 (And.intro B2 (And.intro B3 (And.intro B4 (And.intro B5 BB))))))
        clear B0 B1 B2 B3 B4 B5 BB
        by_cases hc0 : 0 ≤ c
        · have hge : n ≤ 2 * L + x := F.out.2.2.2.2.2.2.1.2 (.inr hc0)
          obtain ⟨d, hd0⟩ : ∃ d, d = m / 2 ^ i % n := ⟨_, rfl⟩
          have hdd := F.out.2.2.2.2.2.1 hge
          rw [← hd0] at hdd
          have HD := Lib.hid (And.intro hdd (And.intro hge hd0)); clear hdd hge hd0
          go_wp2_with fail
          refine (Sub_any (r + x) n d tb _ HD.out.1).mono ?_
          rintro e w6 ⟨rfl, hb6⟩
          simp only [uval]
          obtain ⟨h0, h1, h2, h3, h4, h5, hb⟩ := G.out
          have B0 := h0.calls hb6; have B1 := h1.calls hb6; have B2 := h2.calls hb6; have B3 := h3.calls hb6; have B4 := h4.calls hb6; have B5 := h5.calls hb6; have BB := bt hb hb6
          clear h0 h1 h2 h3 h4 h5 hb hb6 G c5 c1
          have c5 := clf B5
          have G := Lib.hid (And.intro B0 (And.intro B1 (And.intro B2 (And.intro B3 (And.intro B4 (And.intro B5 BB))))))
          clear B0 B1 B2 B3 B4 B5 BB
          go_wp2_with fail
          change Code.wp _ _ _ _ (fillW w6 (w.heap.size + 1 + 1 + 1 + 1 + 1) d)
          obtain ⟨h0, h1, h2, h3, h4, h5, hb⟩ := G.out
          have B0 := h0.fillFar (b := (w.heap.size + 1 + 1 + 1 + 1 + 1)) (n := d) (by omega); have B1 := h1.fillFar (b := (w.heap.size + 1 + 1 + 1 + 1 + 1)) (n := d) (by omega); have B2 := h2.fillFar (b := (w.heap.size + 1 + 1 + 1 + 1 + 1)) (n := d) (by omega); have B3 := h3.fillFar (b := (w.heap.size + 1 + 1 + 1 + 1 + 1)) (n := d) (by omega); have B4 := h4.fillFar (b := (w.heap.size + 1 + 1 + 1 + 1 + 1)) (n := d) (by omega); have B5 := h5.fillAt (n := d); have BB := fill_below (n := d) hb (b := (w.heap.size + 1 + 1 + 1 + 1 + 1)) (by omega)
          clear h0 h1 h2 h3 h4 h5 hb G c5
          generalize fillW w6 (w.heap.size + 1 + 1 + 1 + 1 + 1) d = w7 at *
          have c5 := clf B5
          have G := Lib.hid (And.intro B0 (And.intro B1 (And.intro B2 (And.intro B3 (And.intro B4 (And.intro B5 BB))))))
          have hq1 : m / n / 2 ^ i % 2 = 1 := by rcases F.out.1 with s | s; exact s.2.1; exact absurd HD.out.2.1 (by omega)
          obtain ⟨t1, t2, t3⟩ := F.out.2.1
          rw [hq1, Nat.one_mul] at t2
          have vt := or_top (lim (topq (m / n) (i + 1)) (i / 64)) (i % 64) (lim_lt _ _) (Nat.mod_lt _ (by decide)) t1
          rw [← t2] at vt
          have cq := blk_get B4 (i / 64) _ (ucells_at (topq (m / n) (i + 1)) (i / 64) (by omega))
          have fq := B4.frozen (i / 64)
          have T3 := Lib.hid t3; clear t1 t2 t3 hq1 c5 B0 B1 B2 B3 B4 B5 BB
          have il : (i : Int) < 256 := by omega
          go_region
          obtain ⟨h0, h1, h2, h3, h4, h5, hb⟩ := G.out
          have hset2 := ucells_put (topq (m / n) (i + 1)) (topq (m / n) i) (i / 64) i4 (fun k hk hne => T3.out k hk hne)
          go_wp2
          go_roundw
          case rel =>
            have hd0 := HD.out.2.2
            rw [hd0] at h5
            exact ⟨i, by omega, rfl, (h0.far (by omega) _).drew, (h1.far (by omega) _).drew, (h2.far (by omega) _).drew, (h3.far (by omega) _).drew, ((h4.set_ (i / 64) _).to hset2).drew, (h5.far (by omega) _).drew, (hb.setCell (by simp; omega) _).drew⟩
          case measure => simp [intOf]
        · have hlt2 : c < 0 := by omega
          have hnot : ¬ n ≤ 2 * L + x := fun h => by rcases F.out.2.2.2.2.2.2.1.1 h with k | k; rw [hov'.out] at k; cases k; exact hc0 k
          have HN := Lib.hid hnot; clear hnot hc0
          go_wp2
          obtain ⟨h0, h1, h2, h3, h4, h5, hb⟩ := G.out
          have hst : m / n / 2 ^ i % 2 = 0 ∧ m / 2 ^ i % n = 2 * L + x := by rcases F.out.1 with s | s; exact absurd s.1 HN.out; exact s.2
          obtain ⟨t1, t2, t3⟩ := F.out.2.1
          rw [hst.1, Nat.zero_mul, Nat.add_zero] at t2
          have htop : ucells (topq (m / n) (i + 1)) = ucells (topq (m / n) i) := ucells_ext fun k hk => by by_cases e : k = i / 64; rw [e]; exact t2.symm; exact (t3 k hk e).symm
          have hre := F.out.2.2.2.2.2.2.2.1
          rw [hov'.out] at hre
          have hLx : m / 2 ^ i % n = r + x := by rw [hst.2]; simp at hre; omega
          go_roundw
          case rel =>
            exact ⟨i, by omega, rfl, h0, h1, h2, h3, by rw [← htop]; exact h4, by rw [hLx]; exact h5, hb⟩
          case measure => simp [intOf]
      · have hge : n ≤ 2 * L + x := F.out.2.2.2.2.2.2.1.2 (.inl hov)
        have hov' := Lib.hid hov; clear hov
        obtain ⟨d, hd0⟩ : ∃ d, d = m / 2 ^ i % n := ⟨_, rfl⟩
        have hdd := F.out.2.2.2.2.2.1 hge
        rw [← hd0] at hdd
        have HD := Lib.hid (And.intro hdd (And.intro hge hd0)); clear hdd hge hd0
        go_wp2_with fail
        refine (Sub_any (r + x) n d tb _ HD.out.1).mono ?_
        rintro e w6 ⟨rfl, hb6⟩
        simp only [uval]
        obtain ⟨h0, h1, h2, h3, h4, h5, hb⟩ := G.out
        have B0 := h0.calls hb6; have B1 := h1.calls hb6; have B2 := h2.calls hb6; have B3 := h3.calls hb6; have B4 := h4.calls hb6; have B5 := h5.calls hb6; have BB := bt hb hb6
        clear h0 h1 h2 h3 h4 h5 hb hb6 G c5 c1
        have c5 := clf B5
        have G := Lib.hid (And.intro B0 (And.intro B1 (And.intro B2 (And.intro B3 (And.intro B4 (And.intro B5 BB))))))
        clear B0 B1 B2 B3 B4 B5 BB
        go_wp2_with fail
        change Code.wp _ _ _ _ (fillW w6 (w.heap.size + 1 + 1 + 1 + 1 + 1) d)
        obtain ⟨h0, h1, h2, h3, h4, h5, hb⟩ := G.out
        have B0 := h0.fillFar (b := (w.heap.size + 1 + 1 + 1 + 1 + 1)) (n := d) (by omega); have B1 := h1.fillFar (b := (w.heap.size + 1 + 1 + 1 + 1 + 1)) (n := d) (by omega); have B2 := h2.fillFar (b := (w.heap.size + 1 + 1 + 1 + 1 + 1)) (n := d) (by omega); have B3 := h3.fillFar (b := (w.heap.size + 1 + 1 + 1 + 1 + 1)) (n := d) (by omega); have B4 := h4.fillFar (b := (w.heap.size + 1 + 1 + 1 + 1 + 1)) (n := d) (by omega); have B5 := h5.fillAt (n := d); have BB := fill_below (n := d) hb (b := (w.heap.size + 1 + 1 + 1 + 1 + 1)) (by omega)
        clear h0 h1 h2 h3 h4 h5 hb G c5
        generalize fillW w6 (w.heap.size + 1 + 1 + 1 + 1 + 1) d = w7 at *
        have c5 := clf B5
        have G := Lib.hid (And.intro B0 (And.intro B1 (And.intro B2 (And.intro B3 (And.intro B4 (And.intro B5 BB))))))
        have hq1 : m / n / 2 ^ i % 2 = 1 := by rcases F.out.1 with s | s; exact s.2.1; exact absurd HD.out.2.1 (by omega)
        obtain ⟨t1, t2, t3⟩ := F.out.2.1
        rw [hq1, Nat.one_mul] at t2
        have vt := or_top (lim (topq (m / n) (i + 1)) (i / 64)) (i % 64) (lim_lt _ _) (Nat.mod_lt _ (by decide)) t1
        rw [← t2] at vt
        have cq := blk_get B4 (i / 64) _ (ucells_at (topq (m / n) (i + 1)) (i / 64) (by omega))
        have fq := B4.frozen (i / 64)
        have T3 := Lib.hid t3; clear t1 t2 t3 hq1 c5 B0 B1 B2 B3 B4 B5 BB
        have il : (i : Int) < 256 := by omega
        go_region
        obtain ⟨h0, h1, h2, h3, h4, h5, hb⟩ := G.out
        have hset2 := ucells_put (topq (m / n) (i + 1)) (topq (m / n) i) (i / 64) i4 (fun k hk hne => T3.out k hk hne)
        go_wp2
        go_roundw
        case rel =>
          have hd0 := HD.out.2.2
          rw [hd0] at h5
          exact ⟨i, by omega, rfl, (h0.far (by omega) _).drew, (h1.far (by omega) _).drew, (h2.far (by omega) _).drew, (h3.far (by omega) _).drew, ((h4.set_ (i / 64) _).to hset2).drew, (h5.far (by omega) _).drew, (hb.setCell (by simp; omega) _).drew⟩
        case measure => simp [intOf]
    · obtain rfl : j = 0 := by omega
      rw [topq_zero] at h4
      rw [Nat.pow_zero, Nat.div_one] at h5
      have c4 := clf h4
      have c5 := clf h5
      have c2 := clz h2
      have c3 := clz h3
      have G := Lib.hid hb
      have H2 := Lib.hid (And.intro h2 h3)
      clear h0 h1 h2 h3 h4 h5 hb
      go_wp2
      go_region
      all_goals
        go_wp2
        refine bodyPost_ret (v := .tuple #[uval (m / n), uval (m % n), .bool true]) ?_ rfl ⟨rfl, ?_⟩
        · simp [results, Try.results22, go_sem, uval, c2, c3]
        · exact (belowFill (belowFill G.out (by omega)) (by omega)).drew
end Go.Proofs.Ytlkjcijbmfgjiaa
