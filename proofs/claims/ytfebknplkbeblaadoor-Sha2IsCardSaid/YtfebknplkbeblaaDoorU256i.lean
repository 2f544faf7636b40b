/- What u256.FromBytes comes to. -/
import Derived.Test.YtfebknplkbeblaaDoorU256h
namespace Go.Proofs.YtfebknplkbeblaaDoor
open Go.RowKit
set_option linter.unusedVariables false

/-- The number of bytes, the highest first. -/
def fbV (l : List UInt8) : Nat := l.foldl (fun a x => a * 256 + x.toNat) 0
theorem fbV_snoc (l : List UInt8) (c : UInt8) : fbV (l ++ [c]) = fbV l * 256 + c.toNat := by simp [fbV]
theorem take_snocD (l : List UInt8) (k : Nat) (h : k < l.length) : l.take (k + 1) = l.take k ++ [l.getD k 0] := by
  rw [List.take_succ_eq_append_getElem h]
  simp [List.getD, h]
theorem fbV_lt (l : List UInt8) : fbV l < 256 ^ l.length := by
  have key : ∀ k, k ≤ l.length → fbV (l.take k) < 256 ^ k := by
    intro k
    induction k with
    | zero => intro _; simp [fbV]
    | succ k ih =>
      intro h
      have h1 := ih (by omega)
      have h2 := (l.getD k 0).toNat_lt
      rw [take_snocD l k (by omega), fbV_snoc, Nat.pow_succ]
      omega
  have h := key l.length (Nat.le_refl _)
  rw [List.take_length] at h
  exact h
theorem fbV_T (l : List UInt8) (h : l.length ≤ 32) : fbV l < T := by
  have h1 := fbV_lt l
  have h2 : 256 ^ l.length ≤ 256 ^ 32 := Nat.pow_le_pow_right (by decide) h
  have h3 : (256 : Nat) ^ 32 = T := by decide
  omega
/-- What the first k bytes come to, at their places. -/
def fbP (l : List UInt8) (k : Nat) : Nat := fbV (l.take k) * 256 ^ (l.length - k)
theorem fbP_zero (l : List UInt8) : fbP l 0 = 0 := by simp [fbP, fbV]
theorem fbP_full (l : List UInt8) : fbP l l.length = fbV l := by simp [fbP]
theorem fbP_step (l : List UInt8) (k : Nat) (h : k < l.length) : fbP l (k + 1) = fbP l k + (l.getD k 0).toNat * 256 ^ (l.length - 1 - k) ∧ fbP l k % 256 ^ (l.length - 1 - k + 1) = 0 := by
  unfold fbP
  rw [take_snocD l k h, fbV_snoc, Nat.add_mul, show l.length - (k + 1) = l.length - 1 - k by omega, show l.length - k = l.length - 1 - k + 1 by omega, Nat.pow_succ, Nat.mul_assoc, Nat.mul_comm 256]
  exact ⟨rfl, Nat.mul_mod_left _ _⟩
theorem lim_up (C W j : Nat) : lim (W64 ^ W * C) j = if j < W then 0 else lim C (j - W) := by
  unfold lim
  by_cases h : j < W
  · rw [if_pos h]
    have e : W64 ^ W * C = W64 ^ (W - j - 1) * C * W64 * W64 ^ j := by
      rw [Nat.mul_assoc, ← Nat.pow_succ', Nat.mul_right_comm, ← Nat.pow_add]
      congr 2
      omega
    rw [e, Nat.mul_div_cancel _ (pow_pos' j), Nat.mul_mod_left]
  · rw [if_neg h]
    have e : W64 ^ j = W64 ^ W * W64 ^ (j - W) := by rw [← Nat.pow_add]; congr 1; omega
    rw [e, ← Nat.div_div_eq_div_mul, Nat.mul_div_cancel_left _ (pow_pos' W)]
/-- A byte is laid at its place. -/
theorem lim_byteAt (N x p : Nat) (hN : N % 256 ^ (p + 1) = 0) (hx : x < 256) :
    lim (N + x * 256 ^ p) (p / 8) = lim N (p / 8) + x * 2 ^ (8 * (p % 8)) ∧ lim N (p / 8) % 2 ^ (8 * (p % 8) + 8) = 0 ∧ ∀ j, j ≠ p / 8 → lim (N + x * 256 ^ p) j = lim N j := by
  obtain ⟨W, hW⟩ : ∃ W, W = p / 8 := ⟨_, rfl⟩
  obtain ⟨s, hs⟩ : ∃ s, s = 8 * (p % 8) := ⟨_, rfl⟩
  have hs6 : s ≤ 56 := by omega
  have hW6 : W64 = 2 ^ 64 := rfl
  have hp : (256 : Nat) ^ p = W64 ^ W * 2 ^ s := by
    rw [show (256 : Nat) = 2 ^ 8 from rfl, hW6, ← Nat.pow_mul, ← Nat.pow_mul, ← Nat.pow_add]
    congr 1
    omega
  have hp1 : (256 : Nat) ^ (p + 1) = W64 ^ W * 2 ^ (s + 8) := by rw [Nat.pow_succ, hp, Nat.mul_assoc, Nat.pow_add]
  obtain ⟨M, hM⟩ : ∃ M, N = W64 ^ W * (2 ^ (s + 8) * M) := ⟨N / 256 ^ (p + 1), by have := Nat.div_add_mod N (256 ^ (p + 1)); rw [← Nat.mul_assoc, ← hp1]; omega⟩
  rw [← hW, ← hs]
  have e2 : N + x * 256 ^ p = W64 ^ W * (2 ^ (s + 8) * M + x * 2 ^ s) := by rw [hM, hp, Nat.mul_add, Nat.mul_left_comm x]
  have h8 : (2 : Nat) ^ (s + 8) = 256 * 2 ^ s := by rw [Nat.pow_add, Nat.mul_comm]
  have hps : 0 < 2 ^ s := Nat.two_pow_pos s
  have hp8 : 0 < 2 ^ (s + 8) := Nat.two_pow_pos _
  have hxs : x * 2 ^ s < 2 ^ (s + 8) := by rw [h8]; exact Nat.mul_lt_mul_of_pos_right hx hps
  have hsp : W64 = 2 ^ (s + 8) * 2 ^ (56 - s) := by rw [hW6, ← Nat.pow_add]; congr 1; omega
  have g := fun C => lim_up C W W
  simp only [Nat.lt_irrefl, if_false, Nat.sub_self] at g
  have l0 : ∀ C, lim C 0 = C % W64 := fun C => by unfold lim; rw [Nat.pow_zero, Nat.div_one]
  have m1 : 2 ^ (s + 8) * M % W64 = 2 ^ (s + 8) * (M % 2 ^ (56 - s)) := by rw [hsp, Nat.mul_mod_mul_left]
  have m2 : (2 ^ (s + 8) * M + x * 2 ^ s) % W64 = 2 ^ (s + 8) * (M % 2 ^ (56 - s)) + x * 2 ^ s := by
    rw [hsp, Nat.mod_mul, Nat.mul_add_mod, Nat.mod_eq_of_lt hxs, Nat.mul_add_div hp8, Nat.div_eq_of_lt hxs, Nat.add_zero M, Nat.add_comm]
  refine ⟨?_, ?_, ?_⟩
  · rw [e2, hM, g, g, l0, l0, m1, m2]
  · rw [hM, g, l0, m1, Nat.mul_mod_right]
  · intro j hj
    rw [e2, hM, lim_up, lim_up]
    by_cases h : j < W
    · rw [if_pos h, if_pos h]
    · rw [if_neg h, if_neg h]
      unfold lim
      have e : W64 ^ (j - W) = 2 ^ (s + 8) * (2 ^ (56 - s) * W64 ^ (j - W - 1)) := by
        rw [← Nat.mul_assoc, ← hsp, ← Nat.pow_succ']
        congr 1
        omega
      rw [e, ← Nat.div_div_eq_div_mul (2 ^ (s + 8) * M + x * 2 ^ s), ← Nat.div_div_eq_div_mul (2 ^ (s + 8) * M), Nat.mul_add_div hp8, Nat.div_eq_of_lt hxs, Nat.add_zero M, Nat.mul_div_cancel_left _ hp8]
theorem or_byte (a x s : Nat) (ha : a % 2 ^ (s + 8) = 0) (hl : a < W64) (hx : x < 256) (hs : s ≤ 56) : bits .or .u64 (a : Int) (IntKind.u64.wrap ((x : Int) * 2 ^ s)) = ((a + x * 2 ^ s : Nat) : Int) := by
  have h56 : (2 : Nat) ^ s ≤ 2 ^ 56 := Nat.pow_le_pow_right (by decide) hs
  have hx2 : x * 2 ^ s ≤ 255 * 2 ^ 56 := Nat.mul_le_mul (by omega) h56
  have w2 : IntKind.u64.wrap ((x : Int) * 2 ^ s) = ((x * 2 ^ s : Nat) : Int) := by
    have e : (x : Int) * 2 ^ s = ((x * 2 ^ s : Nat) : Int) := by push_cast; rfl
    rw [e]
    generalize x * 2 ^ s = y at *
    simp [IntKind.wrap, IntKind.signed, IntKind.bits]; omega
  rw [w2]
  have e2 := u64_or_nat a (x * 2 ^ s) (by unfold W64 at hl; omega) (by omega)
  rw [e2]
  congr 1
  have h1 : a = (a / 2 ^ (s + 8)) <<< (s + 8) := by
    rw [Nat.shiftLeft_eq, Nat.mul_comm]
    have := Nat.div_add_mod a (2 ^ (s + 8))
    omega
  have hlt : x * 2 ^ s < 2 ^ (s + 8) := by
    rw [Nat.pow_add, Nat.mul_comm (2 ^ s)]
    exact Nat.mul_lt_mul_of_pos_right hx (Nat.two_pow_pos s)
  rw [h1, ← Nat.shiftLeft_add_eq_or_of_lt hlt]
/-- The bytes of a slice. -/
def Rd (w : World) (g off : Nat) (l : List UInt8) : Prop := ∀ i, i < l.length → w.cell? ⟨g, off + i, none⟩ = some (.int .u8 (l.getD i 0).toNat)
theorem Rd.calls {w w' : World} {g off : Nat} {l : List UInt8} (h : Rd w g off l) (hg : g < w.heap.size) (hb : Below w.heap.size w w') : Rd w' g off l :=
  fun i hi => (hb.cell (p := ⟨g, off + i, none⟩) hg).trans (h i hi)
theorem Rd.at {w w' : World} {g off : Nat} {l : List UInt8} {B : Nat} (h : Rd w g off l) (hb : Below B w w') (hg : g < B) (i : Nat) (hi : i < l.length) : w'.cell? ⟨g, off + i, none⟩ = some (.int .u8 (l.getD i 0).toNat) :=
  (hb.cell (p := ⟨g, off + i, none⟩) hg).trans (h i hi)
theorem ucells_sets (a b j : Nat) (h : j < 4) (v : Int) (hv : v = (lim b j : Nat)) (ho : ∀ i, i ≠ j → lim b i = lim a i) : (ucells a).setIfInBounds j (.int .u64 v) = ucells b := by
  rw [hv]
  exact ucells_put a b j h fun i _ hne => ho i hne

end Go.Proofs.YtfebknplkbeblaaDoor
