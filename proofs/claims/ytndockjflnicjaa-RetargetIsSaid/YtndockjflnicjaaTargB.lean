/- target.Shrink. -/
import Derived.Test.YtndockjflnicjaaTargA
namespace Go.Proofs.Ytndockjflnicjaa
open Go.RowKit
set_option linter.unusedVariables false
/-- The bits of a size e and the digits V below 2^24. -/
def shrE (e V : Nat) : Nat := if V < 8388608 then e * 16777216 + V else (e + 1) * 16777216 + V / 256
def shrV (m e : Nat) : Nat := if e < 3 then m * 2 ^ (8 * (3 - e)) else m / 2 ^ (8 * (e - 3))
def shrR (m : Nat) : Nat := if m = 0 then 0 else shrE ((bl m + 7) / 8) (shrV m ((bl m + 7) / 8))
theorem and_23 (V : Nat) (h : V < 4294967296) : bits .and .u32 (V : Int) 8388608 = ((V &&& 8388608 : Nat) : Int) ∧ True := ⟨by
  have := u32_and_nat V 8388608 h (by omega)
  simpa using this, trivial⟩
theorem shrV_lt (m e : Nat) (hm : bl m ≤ 8 * e) : shrV m e < 16777216 := by
  have h := (bl_lt m (8 * e)).1 hm
  unfold shrV
  have h24 : (16777216 : Nat) = 2 ^ 24 := rfl
  split
  · have h2 : (2 : Nat) ^ 24 = 2 ^ (8 * e) * 2 ^ (8 * (3 - e)) := by rw [← Nat.pow_add, show 8 * e + 8 * (3 - e) = 24 by omega]
    rw [h24, h2]
    exact Nat.mul_lt_mul_of_pos_right h (Nat.two_pow_pos _)
  · rw [Nat.div_lt_iff_lt_mul (Nat.two_pow_pos _), h24, ← Nat.pow_add, show 24 + 8 * (e - 3) = 8 * e by omega]
    exact h
theorem or_24 (e k : Nat) (he : e < 256) (hk : k < 16777216) : bits .or .u32 ((e : Int) * 16777216) (k : Int) = ((e * 16777216 + k : Nat) : Int) := by
  have e2 := u32_or_nat (e * 16777216) k (by omega) (by omega)
  rw [show ((e : Int) * 16777216) = ((e * 16777216 : Nat) : Int) by omega, e2]
  congr 1
  have h1 : e * 16777216 = e <<< 24 := by rw [Nat.shiftLeft_eq]
  rw [h1]
  exact (Nat.shiftLeft_add_eq_or_of_lt (by omega) e).symm
theorem and_23b (V : Nat) (h : V < 16777216) : V &&& 8388608 = if V < 8388608 then 0 else 8388608 := by
  have key : ∀ b : Bool, V.testBit 23 = b → V &&& 2 ^ 23 = if b then 2 ^ 23 else 0 := by
    intro b hb
    apply Nat.eq_of_testBit_eq
    intro i
    rw [Nat.testBit_and, Nat.testBit_two_pow]
    by_cases hi : 23 = i
    · subst hi
      rw [hb]
      cases b
      · rfl
      · rw [if_pos rfl, Nat.testBit_two_pow]; rfl
    · rw [decide_eq_false hi, Bool.and_false]
      cases b
      · exact (Nat.zero_testBit i).symm
      · rw [if_pos rfl, Nat.testBit_two_pow, decide_eq_false hi]
  by_cases hs : V < 8388608
  · have := key false (by rw [Nat.testBit_eq_decide_div_mod_eq, Nat.div_eq_of_lt (by omega)]; rfl)
    rw [if_pos hs]
    exact this
  · have := key true (by rw [Nat.testBit_eq_decide_div_mod_eq, show V / 2 ^ 23 = 1 by omega]; rfl)
    rw [if_neg hs]
    exact this
theorem and_23c (V : Nat) (h : V < 16777216) : bits .and .u32 (V : Int) 8388608 = if V < 8388608 then (0 : Int) else 8388608 := by
  rw [(and_23 V (by omega)).1, and_23b V h]
  split <;> rfl
set_option maxRecDepth 100000 in
set_option maxHeartbeats 1000000 in
theorem Shrink_any (m x : Nat) (hm : m < T) (hx : shrR m = x) (w : World) :
    Calls Try.prog 36 #[uval m] w fun q w' => q = .returned (.int .u32 x) ∧ Below w.heap.size w w' := by
  unfold uval
  unfold shrR at hx
  by_cases hm0 : m = 0
  · rw [if_pos hm0] at hx
    have q0 := fun w => eqU0 m true hm (by simp [hm0]) w
    subst hx
    have HM := Lib.hid hm0; clear hm0
    go_enter Try.func36, Try.ntmps36
    go_wp2
    go_ret
    exact ⟨rfl, ba (Below.refl _ _) _⟩
  · rw [if_neg hm0] at hx
    have q0 := fun w => eqU0 m false hm (by simp [hm0]) w
    have hbl : bl m ≤ 256 := (bl_lt m 256).2 hm
    have hle : bl m ≤ 8 * ((bl m + 7) / 8) := by omega
    obtain ⟨e, he⟩ : ∃ e, e = (bl m + 7) / 8 := ⟨_, rfl⟩
    rw [← he] at hx hle
    have he' : ((bl m : Int) + 7) / 8 = (e : Int) := by omega
    have he32 : e ≤ 32 := by omega
    have hV := shrV_lt m e hle
    have iL : (Try.prog.info? 34).map (·.size) = some (#[.int .u64 (lim (shrV m e) 0), .int .u64 (lim (shrV m e) 1), .int .u64 (lim (shrV m e) 2), .int .u64 (lim (shrV m e) 3)] : Array Value).size := by kernel_rfl
    have aL : (#[.int .u64 (lim (shrV m e) 0), .int .u64 (lim (shrV m e) 1), .int .u64 (lim (shrV m e) 2), .int .u64 (lim (shrV m e) 3)] : Array Value).all (·.oneCell') = true := by simp [Value.oneCell']
    have HE := Lib.hid (And.intro he hle); clear he hle
    go_enter Try.func36, Try.ntmps36
    go_wp2_with fail
    refine (Len_any m _ hm).mono ?_
    rintro q w1 ⟨rfl, hb1⟩
    have B1 : Blk w1 w.heap.size 34 #[.int .u64 (lim m 0), .int .u64 (lim m 1), .int .u64 (lim m 2), .int .u64 (lim m 3)] := (Blk.newAt w _ #[.int .u64 (lim m 0), .int .u64 (lim m 1), .int .u64 (lim m 2), .int .u64 (lim m 3)] rfl).calls hb1
    have bb := bt (ba (Below.refl w.heap.size w) _) hb1
    clear hb1 q0
    have c0 := blk_get B1 0 _ rfl; have c1 := blk_get B1 1 _ rfl; have c2 := blk_get B1 2 _ rfl; have c3 := blk_get B1 3 _ rfl
    by_cases he3 : e < 3
    · have he3' : (e : Int) < 3 := by omega
      go_wp2_with fail
      refine (Shl_any m (8 * (3 - (e : Int))) _ hm (by omega)).mono ?_
      have hsh : shlN m (8 * (3 - (e : Int))) = shrV m e := by
        have e1 : (8 * (3 - (e : Int))).toNat = 8 * (3 - e) := by omega
        have hv := hV
        unfold shrV at hv
        rw [if_pos he3] at hv
        unfold shlN shrV
        rw [if_neg (by omega), if_pos he3, e1, Nat.mod_eq_of_lt (Nat.lt_trans hv (by decide))]
      rw [hsh]
      generalize shlB m (8 * (3 - (e : Int))) = lost
      rintro q w2 ⟨rfl, hb2⟩
      clear hsh
      generalize shrV m e = V at *
      simp only [uval, he']
      clear he'
      replace B1 := B1.calls hb2
      replace bb := bt bb hb2
      clear hb2 c0 c1 c2 c3
      have C1 := B1.row #[.int .u64 (lim V 0), .int .u64 (lim V 1), .int .u64 (lim V 2), .int .u64 (lim V 3)]
      have bx := setRow_below bb (Nat.le_refl _) #[.int .u64 (lim V 0), .int .u64 (lim V 1), .int .u64 (lim V 2), .int .u64 (lim V 3)]
      have BX := Lib.hid bx
      clear bx
      have hl : lim V 0 = V := by unfold lim; rw [Nat.pow_zero, Nat.div_one, Nat.mod_eq_of_lt (by unfold W64; omega)]
      have d0 : (w2.setRow w.heap.size #[.int .u64 (lim V 0), .int .u64 (lim V 1), .int .u64 (lim V 2), .int .u64 (lim V 3)]).cell? ⟨w.heap.size, 0, none⟩ = some (.int .u64 V) := blk_get C1 0 (.int .u64 V) (by rw [hl]; rfl)
      clear C1 hl
      have hVi : (V : Int) < 16777216 := by omega
      have HX := Lib.hid hx; clear hx
      by_cases hs : V < 8388608
      · have hand := and_23c V hV
        rw [if_pos hs] at hand
        have hor := or_24 e V (by omega) hV
        obtain ⟨X, hX⟩ : ∃ X, X = e * 16777216 + V := ⟨_, rfl⟩
        have hxX : X = x := by rw [← HX.out, shrE, if_pos hs, hX]
        rw [← hX] at hor
        have HXX := Lib.hid hxX; clear hX hxX hs
        have HVV := Lib.hid hV; clear hV
        go_wp2_with (with_reducible refine ws_row B1 _ _ _ _ rfl rfl rfl rfl iL rfl aL ?_)
        go_ret
        exact ⟨by have := HXX.out; subst this; rfl, BX.out⟩
      · have hand := and_23c V hV
        rw [if_neg hs] at hand
        obtain ⟨k, hk⟩ : ∃ k, k = V / 256 := ⟨_, rfl⟩
        have hk' : (V : Int) / 256 = (k : Int) := by omega
        have hor := or_24 (e + 1) k (by omega) (by omega)
        rw [show ((e + 1 : Nat) : Int) = (e : Int) + 1 by omega] at hor
        obtain ⟨X, hX⟩ : ∃ X, X = (e + 1) * 16777216 + k := ⟨_, rfl⟩
        have hxX : X = x := by rw [← HX.out, shrE, if_neg hs, hX, hk]
        rw [← hX] at hor
        have HXX := Lib.hid hxX; clear hX hxX hk hs
        have hki : (k : Int) < 65536 := by omega
        have HVV := Lib.hid hV; clear hV
        go_wp2_with (with_reducible refine ws_row B1 _ _ _ _ rfl rfl rfl rfl iL rfl aL ?_)
        go_ret
        exact ⟨by have := HXX.out; subst this; rfl, BX.out⟩
    · have he3' : ¬ (e : Int) < 3 := by omega
      go_wp2_with fail
      refine (Shr_any m (8 * ((e : Int) - 3)) _ hm).mono ?_
      have hsh : shrN m (8 * ((e : Int) - 3)) = shrV m e := by
        have e1 : (8 * ((e : Int) - 3)).toNat = 8 * (e - 3) := by omega
        unfold shrN shrV
        rw [if_neg he3, e1]
        split
        · rw [show 8 * (e - 3) = 0 by omega, Nat.pow_zero, Nat.div_one]
        · rfl
      rw [hsh]
      rintro q w2 ⟨rfl, hb2⟩
      clear hsh
      generalize shrV m e = V at *
      simp only [uval, he']
      clear he'
      replace B1 := B1.calls hb2
      replace bb := bt bb hb2
      clear hb2 c0 c1 c2 c3
      have C1 := B1.row #[.int .u64 (lim V 0), .int .u64 (lim V 1), .int .u64 (lim V 2), .int .u64 (lim V 3)]
      have bx := setRow_below bb (Nat.le_refl _) #[.int .u64 (lim V 0), .int .u64 (lim V 1), .int .u64 (lim V 2), .int .u64 (lim V 3)]
      have BX := Lib.hid bx
      clear bx
      have hl : lim V 0 = V := by unfold lim; rw [Nat.pow_zero, Nat.div_one, Nat.mod_eq_of_lt (by unfold W64; omega)]
      have d0 : (w2.setRow w.heap.size #[.int .u64 (lim V 0), .int .u64 (lim V 1), .int .u64 (lim V 2), .int .u64 (lim V 3)]).cell? ⟨w.heap.size, 0, none⟩ = some (.int .u64 V) := blk_get C1 0 (.int .u64 V) (by rw [hl]; rfl)
      clear C1 hl
      have hVi : (V : Int) < 16777216 := by omega
      have HX := Lib.hid hx; clear hx
      by_cases hs : V < 8388608
      · have hand := and_23c V hV
        rw [if_pos hs] at hand
        have hor := or_24 e V (by omega) hV
        obtain ⟨X, hX⟩ : ∃ X, X = e * 16777216 + V := ⟨_, rfl⟩
        have hxX : X = x := by rw [← HX.out, shrE, if_pos hs, hX]
        rw [← hX] at hor
        have HXX := Lib.hid hxX; clear hX hxX hs
        have HVV := Lib.hid hV; clear hV
        go_wp2_with (with_reducible refine ws_row B1 _ _ _ _ rfl rfl rfl rfl iL rfl aL ?_)
        go_ret
        exact ⟨by have := HXX.out; subst this; rfl, BX.out⟩
      · have hand := and_23c V hV
        rw [if_neg hs] at hand
        obtain ⟨k, hk⟩ : ∃ k, k = V / 256 := ⟨_, rfl⟩
        have hk' : (V : Int) / 256 = (k : Int) := by omega
        have hor := or_24 (e + 1) k (by omega) (by omega)
        rw [show ((e + 1 : Nat) : Int) = (e : Int) + 1 by omega] at hor
        obtain ⟨X, hX⟩ : ∃ X, X = (e + 1) * 16777216 + k := ⟨_, rfl⟩
        have hxX : X = x := by rw [← HX.out, shrE, if_neg hs, hX, hk]
        rw [← hX] at hor
        have HXX := Lib.hid hxX; clear hX hxX hk hs
        have hki : (k : Int) < 65536 := by omega
        have HVV := Lib.hid hV; clear hV
        go_wp2_with (with_reducible refine ws_row B1 _ _ _ _ rfl rfl rfl rfl iL rfl aL ?_)
        go_ret
        exact ⟨by have := HXX.out; subst this; rfl, BX.out⟩
end Go.Proofs.Ytndockjflnicjaa
