/- What is written is read again: the walk of U256Back. -/
import Derived.Test.YtfebknplkbeblaaDoorLaw01a
import Derived.Test.YtfebknplkbeblaaDoorU256j
namespace Go.Proofs.YtfebknplkbeblaaDoor
open Go.RowKit
set_option linter.unusedVariables false

/-- Digits put together again. -/
theorem digits_back (B m L k : Nat) (hB : 0 < B) (h : m < B ^ L) (hk : k ≤ L) (f : Nat → Nat) (h0 : f 0 = 0) (hs : ∀ k, k < L → f (k + 1) = f k * B + m / B ^ (L - 1 - k) % B) : f k = m / B ^ (L - k) := by
  induction k with
  | zero => rw [h0, Nat.sub_zero, Nat.div_eq_of_lt h]
  | succ k ih =>
    rw [hs k (by omega), ih (by omega), show L - k = (L - 1 - k) + 1 by omega, show L - (k + 1) = L - 1 - k by omega, Nat.pow_succ, ← Nat.div_div_eq_div_mul]
    have := Nat.div_add_mod (m / B ^ (L - 1 - k)) B
    rw [Nat.mul_comm] at this
    omega
theorem fbV_byB (m : Nat) (h : m < T) : fbV (byB m 32) = m := by
  have hl := byB_length m 32
  have key := digits_back 256 m 32 32 (by decide) (by have : (256 : Nat) ^ 32 = T := by decide
                                                      omega) (Nat.le_refl _) (fun k => fbV ((byB m 32).take k)) (by simp [fbV]) (fun k hk => by
    show fbV ((byB m 32).take (k + 1)) = _
    rw [take_snocD _ k (by omega), fbV_snoc, byB_at m 32 k hk]
    simp)
  have e : (byB m 32).take 32 = byB m 32 := List.take_of_length_le (by omega)
  simp only [Nat.sub_self, Nat.pow_zero, Nat.div_one] at key
  rw [← e]
  exact key
theorem hx_dgv (d : Nat) (h : d < 16) : dg (hx d).toNat = some d ∧ (hx d = 48 → d = 0) := by
  have all : ∀ d : Fin 16, dg (hx d.val).toNat = some d.val ∧ (hx d.val = 48 → d.val = 0) := by decide +kernel
  exact all ⟨d, h⟩
theorem hexB_length (m L : Nat) : (hexB m L).length = L := by simp [hexB]
theorem hexB_at (m L i : Nat) (h : i < L) : (hexB m L).getD i 0 = hx (m / 16 ^ (L - 1 - i) % 16) := by simp [hexB, h]
theorem hexV_hexB (m L : Nat) (h : m < 16 ^ L) : hexV (hexB m L) = m := by
  have hl := hexB_length m L
  have key := digits_back 16 m L L (by decide) h (Nat.le_refl _) (fun k => hexV ((hexB m L).take k)) (by simp [hexV]) (fun k hk => by
    show hexV ((hexB m L).take (k + 1)) = _
    rw [take_snocD _ k (by omega), hexV_snoc, hexB_at m L k hk, (hx_dgv _ (Nat.mod_lt _ (by decide))).1]
    rfl)
  have e : (hexB m L).take L = hexB m L := List.take_of_length_le (by omega)
  simp only [Nat.sub_self, Nat.pow_zero, Nat.div_one] at key
  rw [← e]
  exact key
theorem allD_hexB (m L : Nat) : allD (hexB m L) = true := (allD_at _).2 fun i hi => by
  rw [hexB_length] at hi
  rw [hexB_at m L i hi, (hx_dgv _ (Nat.mod_lt _ (by decide))).1]
  rfl
theorem hexLen_lt (m : Nat) : m < 16 ^ hexLen m := by
  unfold hexLen
  by_cases h : m = 0
  · rw [if_pos h, h]; decide
  · rw [if_neg h]
    have h1 : m < 2 ^ bl m := (bl_lt m (bl m)).1 (Nat.le_refl _)
    have h2 : (2 : Nat) ^ bl m ≤ 2 ^ (4 * ((bl m + 3) / 4)) := Nat.pow_le_pow_right (by decide) (by omega)
    rw [Nat.pow_mul] at h2
    have : (2 : Nat) ^ 4 = 16 := rfl
    rw [this] at h2
    omega
theorem hexLen_pos (m : Nat) : 0 < hexLen m := by
  unfold hexLen
  by_cases h : m = 0
  · rw [if_pos h]; decide
  · rw [if_neg h]
    have : ¬ bl m ≤ 0 := by rw [bl_lt]; omega
    omega
theorem hexLen_le (m : Nat) (h : m < T) : hexLen m ≤ 64 := by
  unfold hexLen
  have := (bl_lt m 256).2 h
  split <;> omega
/-- No zero stands ahead. -/
theorem hexB_head (m : Nat) (h : hexLen m ≠ 1) : (hexB m (hexLen m)).getD 0 0 ≠ 48 := by
  have hp := hexLen_pos m
  rw [hexB_at m _ 0 hp, Nat.sub_zero]
  intro e
  have h0 := (hx_dgv _ (Nat.mod_lt _ (by decide))).2 e
  have hlt := hexLen_lt m
  unfold hexLen at *
  by_cases hm : m = 0
  · rw [if_pos hm] at h; exact h rfl
  · rw [if_neg hm] at h h0 hlt hp
    obtain ⟨L, hL⟩ : ∃ L, L = (bl m + 3) / 4 := ⟨_, rfl⟩
    rw [← hL] at h h0 hlt hp
    have hb : ¬ bl m ≤ 4 * (L - 1) := by omega
    rw [bl_lt, Nat.pow_mul, show (2 : Nat) ^ 4 = 16 from rfl] at hb
    have hpw : (16 : Nat) ^ L = 16 ^ (L - 1) * 16 := by rw [← Nat.pow_succ]; congr 1; omega
    have hp16 : 0 < (16 : Nat) ^ (L - 1) := Nat.pow_pos (by decide)
    rw [hpw] at hlt
    have h1 : m / 16 ^ (L - 1) < 16 := Nat.div_lt_of_lt_mul hlt
    rw [Nat.mod_eq_of_lt h1] at h0
    have h2 : 1 ≤ m / 16 ^ (L - 1) := (Nat.le_div_iff_mul_le hp16).2 (by omega)
    omega
theorem hexR_of (l : List UInt8) (m : Nat) (hne : l ≠ []) (ha : allD l = true) (hv : hexV l = m) (hm : m < T) : hexR l = (m, 0) := by
  unfold hexR
  rw [if_neg (by rintro (h | h); exact hne h; rw [ha] at h; cases h), hv, if_neg (by omega)]
theorem ne_nil_of (l : List UInt8) (h : 0 < l.length) : l ≠ [] := by rintro rfl; cases h
theorem hexR_back (m : Nat) (hm : m < T) : hexR (hexB m (hexLen m)) = (m, 0) :=
  hexR_of _ m (ne_nil_of _ (by rw [hexB_length]; exact hexLen_pos m)) (allD_hexB _ _) (hexV_hexB _ _ (hexLen_lt m)) hm
theorem hexR_zeros (m : Nat) (hm : m < T) : hexR (48 :: 48 :: hexB m (hexLen m)) = (m, 0) := by
  refine hexR_of _ m (by simp) ?_ ?_ hm
  · have := allD_hexB m (hexLen m)
    simp only [allD, List.all_cons] at this ⊢
    rw [this]
    rfl
  · refine Eq.trans ?_ (hexV_hexB m _ (hexLen_lt m))
    generalize hexB m (hexLen m) = l
    unfold hexV
    rw [List.foldl_cons, List.foldl_cons]
    rfl
theorem FromHex_is (l : List UInt8) (m : Nat) (h : hexR l = (m, 0)) (w : World) : Calls Tryd.prog 60 #[.string (bstr l)] w fun e w' => e = .returned (.tuple #[uval m, .int .i64 0]) ∧ Below w.heap.size w w' := by
  have hne : l ≠ [] := by
    rintro rfl
    have : hexR [] = (0, 2) := rfl
    rw [this] at h
    injection h with _ h2
    cases h2
  have hh := FromHex_some l w hne
  rw [h] at hh
  exact hh
theorem bstr_append (l k : List UInt8) : bstr l ++ bstr k = bstr (l ++ k) := by
  apply ByteArray.ext
  simp [bstr]
theorem bstr_size' (l : List UInt8) : (bstr l).size = l.length := by simp [bstr, ByteArray.size]
theorem u8cells_at' (l : List UInt8) (i : Nat) (h : i < l.length) : (u8cells l)[i]? = some (.int .u8 (l.getD i 0).toNat) := by
  simp [u8cells, h]
theorem Blk.rd {w : World} {g : Nat} {t : TypeId} {l : List UInt8} (h : Blk w g t (u8cells l)) : Rd w g 0 l := fun i hi => by
  rw [Nat.zero_add]
  exact blk_get h i _ (u8cells_at' l i hi)

theorem z32_cells : u8cells (List.replicate 32 0) = #[.int .u8 0, .int .u8 0, .int .u8 0, .int .u8 0, .int .u8 0, .int .u8 0, .int .u8 0, .int .u8 0, .int .u8 0, .int .u8 0, .int .u8 0, .int .u8 0, .int .u8 0, .int .u8 0, .int .u8 0, .int .u8 0, .int .u8 0, .int .u8 0, .int .u8 0, .int .u8 0, .int .u8 0, .int .u8 0, .int .u8 0, .int .u8 0, .int .u8 0, .int .u8 0, .int .u8 0, .int .u8 0, .int .u8 0, .int .u8 0, .int .u8 0, .int .u8 0] := by kernel_rfl
theorem u8cells_size' (l : List UInt8) : (u8cells l).size = l.length := by simp [u8cells]
theorem u8cells_one' (l : List UInt8) : (u8cells l).all (·.oneCell') = true := by simp [u8cells, Value.oneCell']
theorem is32 (l : List UInt8) (hl : l.length = 32) : (Tryd.prog.info? 37).map (·.size) = some (u8cells l).size := by rw [u8cells_size', hl]; kernel_rfl
theorem below_row {w0 w : World} {B g : Nat} (h : Below B w0 w) (hg : B ≤ g) (c : Array Value) : Below B w0 (w.setRow g c) :=
  h.trans ⟨rfl, rfl, rfl, by simp [World.setRow], fun k hk => by simp [World.setRow, Array.getElem?_modify, show g ≠ k by omega]⟩

end Go.Proofs.YtfebknplkbeblaaDoor
