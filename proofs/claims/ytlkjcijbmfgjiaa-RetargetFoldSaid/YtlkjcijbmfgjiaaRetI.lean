/- RetargetFold: its walk, for all arguments. -/
import Derived.Test.YtlkjcijbmfgjiaaRetH
namespace Go.Proofs.Ytlkjcijbmfgjiaa
open Go.RowKit
set_option linter.unusedVariables false
theorem fold_low (t k d : Nat) (h1 : d ≤ 7 * k) (hd : 0 < d) : t ≤ 7 * (t * k / d) + 6 := by
  have hm := Nat.div_add_mod (t * k) d
  have hr := Nat.mod_lt (t * k) hd
  generalize t * k / d = o at *
  generalize t * k % d = r at *
  apply Nat.le_of_lt_succ
  apply Nat.lt_of_mul_lt_mul_left (a := d)
  have e1 : d * t ≤ 7 * k * t := Nat.mul_le_mul_right t h1
  have e2 : 7 * k * t = 7 * (t * k) := by rw [Nat.mul_assoc, Nat.mul_comm k]
  have e3 : d * (7 * o + 6 + 1) = 7 * (d * o) + 7 * d := by rw [show 7 * o + 6 + 1 = 7 * (o + 1) by omega, Nat.mul_left_comm, Nat.mul_add, Nat.mul_one]; omega
  rw [e3]
  omega
theorem fold_high (t k d : Nat) (h1 : k ≤ 4 * d) (hd : 0 < d) : t * k / d ≤ 4 * t := by
  apply Nat.div_le_of_le_mul
  have := Nat.mul_le_mul_left t h1
  have e : d * (4 * t) = t * (4 * d) := by rw [Nat.mul_left_comm, Nat.mul_comm d, Nat.mul_left_comm]
  omega
theorem fold_fact (t l o y m : Nat) (h1 : 549755813888 ≤ t) (h2 : 4 * t < T) (h3 : t ≤ l) (ho1 : o ≤ 4 * t) (ho2 : t ≤ 7 * o + 6) (hm : m = if T ≤ o ∨ o = 0 ∨ l < o then l else o) (hy : y ≤ m) (hy2 : m - y ≤ m / 16384) : y ≤ 4 * t ∧ t ≤ 8 * y ∧ m ≠ 0 := by
  by_cases h : T ≤ o ∨ o = 0 ∨ l < o
  · rw [if_pos h] at hm
    subst hm
    omega
  · rw [if_neg h] at hm
    subst hm
    clear h h2
    omega
theorem RFold_walk (lim : Nat) (iv sp fu ix op : Int) (a : Option Addr) (n c : Nat) (hl : lim < 4294967296) (hiv : (Lit.int .i64 iv).wf = true) (hs : Array Value) (ti bi : Nat) (h65 : hs[65]? = some (.int .u32 ti)) (h66 : hs[66]? = some (.int .u32 bi)) (hti : ti < 4294967296) (hbi : bi < 4294967296) (hsz : hs.size = 68) (fi : Int) (hfi : (Lit.int .u32 fi).wf = true) (w : World) :
    Calls Try.prog 9 #[.agg (pcells lim iv sp fu ix op a n c), .agg hs, .int .u32 fi] w fun e w' => e = .returned (.bool true) ∧ Below w.heap.size w w' := by
  obtain ⟨fi, rfl, kf⟩ := u32_natW hfi
  obtain ⟨b, hb⟩ : ∃ b, nextR lim iv sp fu ix op n iv ti bi fi = b := ⟨_, rfl⟩
  obtain ⟨s, hsn⟩ : ∃ s, saneR lim iv sp fu ix op n = s := ⟨_, rfl⟩
  have hblt : b < 4294967296 := by rw [← hb]; exact next_lt lim iv sp fu ix op n iv ti bi fi hl hbi
  have c1 := fun w => Next_any lim bi ti fi iv sp fu ix op iv a n c hs h65 h66 hl hbi hti kf b hb w
  have c2 := fun w => Sane_any lim iv sp fu ix op a n c hl s hsn w
  have ht := expR_lt bi
  have hs' := expR_lt b
  have hlT := expR_lt lim
  obtain ⟨d1, hd1⟩ := cmp_ex (expR bi).1 (expR lim).1 ht hlT
  obtain ⟨m4, b4, hp4⟩ := prod_ex (expR bi).1 4 ht (by decide)
  obtain ⟨m8, b8, hp8⟩ := prod_ex (expR b).1 8 hs' (by decide)
  obtain ⟨d2, hd2⟩ := cmp_ex (expR b).1 m4 hs' hp4.2.2.1
  obtain ⟨d3, hd3⟩ := cmp_ex m8 (expR bi).1 hp8.2.2.1 ht
  refine RFold_core lim (expR lim).1 b (expR bi).1 (expR b).1 ti bi fi (bl (expR bi).1) m4 m8 (expR bi).2 (expR lim).2 (expR b).2 d1 d2 d3 s b4 b8 iv sp fu ix op a n c hs (by rw [hsz]; kernel_rfl) (Lib.hid h66) ⟨c2, c1, hbi, rfl, hl, rfl, hblt, rfl⟩ (Lib.hid fun w => Len_any _ w ht) ⟨hd1, fun _ => hd2, fun _ => hd3, fun _ => hp4, fun _ => hp8⟩ (Lib.hid ?_) w
  intro h hc hn1 hn2
  subst h
  obtain ⟨f1, f2, f3, f4⟩ := sane_facts lim iv sp fu ix op n hsn
  have g1 := (bl_lt (expR bi).1 200).1 hn1
  have g2 : ¬ (expR bi).1 < 2 ^ 39 := fun k => by have := (bl_lt (expR bi).1 39).2 k; omega
  have he : (expR bi).2 = 0 := by
    by_cases h : (expR bi).2 = 0
    · exact h
    · exfalso
      have := (show (expR bi).1 = 0 from by
        revert h
        unfold expR
        split
        · intro _; rfl
        · split
          · intro _; rfl
          · intro h; exact absurd rfl h)
      omega
  have htm : Int.tmod iv iv = 0 := Int.tmod_self
  have hbs : b = scaleR bi (clampR ((ti : Int) - (fi : Int)) sp).toNat sp.toNat lim := by
    rw [← hb]; unfold nextR; rw [if_neg (by rw [hsn]; decide), if_neg (by intro k; rcases k with k | k; omega; exact k htm)]
  obtain ⟨_, q1, q2⟩ := clamp_facts ((ti : Int) - (fi : Int)) sp f2
  generalize clampR ((ti : Int) - (fi : Int)) sp = K at *
  obtain ⟨k, rfl⟩ : ∃ k : Nat, K = k := ⟨K.toNat, by omega⟩
  obtain ⟨d, rfl⟩ : ∃ d : Nat, sp = d := ⟨sp.toNat, by omega⟩
  rw [Int.toNat_natCast, Int.toNat_natCast] at hbs
  have k1 : k ≤ 4 * d := by omega
  have k2 : d ≤ 7 * k := by omega
  have hd0 : 0 < d := by omega
  have ho1 := fold_high (expR bi).1 k d k1 hd0
  have ho2 := fold_low (expR bi).1 k d k2 hd0
  have fc1 := (cmp_facts hd1).2.1
  have hle : (expR bi).1 ≤ (expR lim).1 := by
    apply Nat.le_of_not_lt
    intro hh
    have := fc1.2 hh
    omega
  have h4T : 4 * (expR bi).1 < T := by
    have e1 : 4 * (expR bi).1 < 2 ^ 202 := by rw [show (2 : Nat) ^ 202 = 4 * 2 ^ 200 from rfl]; omega
    exact Nat.lt_trans e1 (by decide +kernel)
  have h32T : 32 * (expR bi).1 < T := by
    have e1 : 32 * (expR bi).1 < 2 ^ 205 := by rw [show (2 : Nat) ^ 205 = 32 * 2 ^ 200 from rfl]; omega
    exact Nat.lt_trans e1 (by decide +kernel)
  have h39 : 549755813888 ≤ (expR bi).1 := Nat.le_of_not_lt g2
  have hsc : b = shrR (scaleT bi k d lim) := by
    rw [hbs]; unfold scaleR; rw [if_neg (by rw [he, f3]; omega)]
  obtain ⟨m, hm⟩ : ∃ m, m = scaleT bi k d lim := ⟨_, rfl⟩
  rw [← hm] at hsc
  unfold scaleT at hm
  clear g1 g2 hc hn1 hn2 fc1
  have hmT : m < T ∧ m ≠ 0 := by
    generalize (expR bi).1 * k / d = o at *
    generalize (expR bi).1 = t at *
    generalize (expR lim).1 = l at *
    clear hd1 hd2 hd3 hp4 hp8 hsc
    split at hm <;> omega
  obtain ⟨y, e1, e2, _, _, e5, _⟩ := back_any m hmT.2 hmT.1
  rw [← hsc] at e1
  obtain ⟨r1, r2, _⟩ := fold_fact (expR bi).1 (expR lim).1 ((expR bi).1 * k / d) y m h39 h4T hle ho1 ho2 hm e2 e5
  have ey : (expR b).1 = y := by rw [e1]
  have v4 : m4 = (expR bi).1 * 4 := by rw [hp4.2.2.2.1]; exact Nat.mod_eq_of_lt (by omega)
  have v8 : m8 = y * 8 := by rw [hp8.2.2.2.1, ey]; exact Nat.mod_eq_of_lt (by omega)
  have u2 := (cmp_facts hd2).2.1
  have u3 := (cmp_facts hd3).1
  rw [ey, v4] at u2
  rw [v8] at u3
  refine ⟨by rw [e1], ?_, ?_⟩
  · apply Int.not_lt.1
    intro hh
    have := u2.1 hh
    omega
  · apply Int.not_lt.1
    intro hh
    have := u3.1 hh
    omega
end Go.Proofs.Ytlkjcijbmfgjiaa
