/- target.Expand. -/
import Derived.Test.YtndockjflnicjaaU256g
import Derived.Test.YtndockjflnicjaaU256f
import Derived.Test.YtndockjflnicjaaRefB
namespace Go.Proofs.Ytndockjflnicjaa
open Go.RowKit
set_option linter.unusedVariables false
theorem shlB_over (m : Nat) (k : Nat) (hm : m < T) : shlB m k = decide (T ≤ m * 2 ^ k) := by
  have hT : T = 2 ^ 256 := rfl
  unfold shlB
  by_cases h0 : (k : Int) ≤ 0
  · rw [if_pos h0, show k = 0 by omega, Nat.pow_zero, Nat.mul_one]
    simp; omega
  · rw [if_neg h0]
    by_cases h1 : (256 : Int) ≤ (k : Int)
    · rw [if_pos h1, decide_eq_decide, hT]
      constructor
      · intro h
        have h2 : 2 ^ 256 ≤ 2 ^ k := Nat.pow_le_pow_right (by decide) (by omega)
        have h3 := Nat.mul_le_mul (show 1 ≤ m by omega) h2
        omega
      · rintro h rfl
        rw [Nat.zero_mul] at h
        exact absurd h (by decide)
    · rw [if_neg h1, decide_eq_decide, hT]
      have e : 2 ^ 256 = 2 ^ (256 - k) * 2 ^ k := by rw [← Nat.pow_add, show 256 - k + k = 256 by omega]
      have h2 := bl_lt m (256 - k)
      have h3 : m < 2 ^ (256 - k) ↔ m * 2 ^ k < 2 ^ 256 := by
        rw [e]
        exact (Nat.mul_lt_mul_right (Nat.two_pow_pos k)).symm
      rw [h3] at h2
      omega
/-- A target told by bits, and what was wrong with them. -/
def expV (e m : Nat) : Nat := if e < 3 then m / 2 ^ (8 * (3 - e)) else m * 2 ^ (8 * (e - 3))
def expR (b : Nat) : Nat × Int :=
  if b % 8388608 ≠ 0 ∧ b / 8388608 % 2 = 1 then (0, 7) else if T ≤ expV (b / 16777216) (b % 8388608) ∨ expV (b / 16777216) (b % 8388608) = 0 then (0, 7) else (expV (b / 16777216) (b % 8388608), 0)
theorem expR_lt (b : Nat) : (expR b).1 < T := by
  unfold expR
  split
  · decide
  · split
    · decide
    · rename_i h; simp only; omega
set_option maxRecDepth 100000 in
set_option maxHeartbeats 1000000 in
theorem Expand_great (b e m v : Nat) (r : Int) (w : World) (he' : (b : Int) / 16777216 = (e : Int)) (hs' : bits .and .u32 ((b : Int) / 8388608) 1 = ((0 : Nat) : Int)) (hm' : bits .and .u32 (b : Int) 8388607 = (m : Int)) (he256 : e < 256) (hm23 : m < 8388608) (he3 : ¬ e < 3) (hm0 : m ≠ 0)
    (h : (if T ≤ expV e m ∨ expV e m = 0 then ((0, 7) : Nat × Int) else (expV e m, 0)) = (v, r)) :
    Calls Try.prog 10 #[.int .u32 b] w fun q w' => q = .returned (.tuple #[uval v, .int .i64 r]) ∧ Below w.heap.size w w' := by
  have iZ : (Try.prog.info? 34).map (·.size) = some (#[.int .u64 0, .int .u64 0, .int .u64 0, .int .u64 0] : Array Value).size := by kernel_rfl
  have iL : ∀ v, (Try.prog.info? 34).map (·.size) = some (#[.int .u64 (lim v 0), .int .u64 (lim v 1), .int .u64 (lim v 2), .int .u64 (lim v 3)] : Array Value).size := fun v => iZ
  have aZ : (#[.int .u64 0, .int .u64 0, .int .u64 0, .int .u64 0] : Array Value).all (·.oneCell') = true := by simp [Value.oneCell']
  have aL : ∀ v, (#[.int .u64 (lim v 0), .int .u64 (lim v 1), .int .u64 (lim v 2), .int .u64 (lim v 3)] : Array Value).all (·.oneCell') = true := fun v => by simp [Value.oneCell']
  have hA1 : ¬ (m : Int) = 0 := by omega
  have hmT : m < T := by unfold T; omega
  go_enter Try.func10, Try.ntmps10
  go_wp2_with fail
  refine (Of_any m _ (by unfold W64; omega)).mono ?_
  rintro q w1 ⟨rfl, hb1⟩
  simp only [uval]
  have B0 : Blk w1 w.heap.size 34 #[.int .u64 0, .int .u64 0, .int .u64 0, .int .u64 0] := (Blk.newAt w _ #[.int .u64 0, .int .u64 0, .int .u64 0, .int .u64 0] rfl).calls hb1
  have bb := bt (ba (Below.refl w.heap.size w) _) hb1
  have lt0 := B0.lt
  clear hb1
  have he3' : ¬ (e : Int) < 3 := by omega
  obtain ⟨k, hk⟩ : ∃ k, k = 8 * (e - 3) := ⟨_, rfl⟩
  have hk' : (8 * ((e : Int) - 3)) = (k : Int) := by omega
  have HK := Lib.hid hk; clear hk
  go_wp2_with fail
  refine (Shl_any m (k : Int) _ hmT (by omega)).mono ?_
  have ho := shlB_over m k hmT
  have hsh : expV e m = m * 2 ^ k := by
    unfold expV
    rw [if_neg he3, HK.out]
  have hsN : ¬ T ≤ m * 2 ^ k → shlN m (k : Int) = m * 2 ^ k := by
    intro hlt
    unfold shlN
    by_cases h0 : (k : Int) ≤ 0
    · rw [if_pos h0, show k = 0 by omega, Nat.pow_zero, Nat.mul_one]
    · rw [if_neg h0, Int.toNat_natCast, Nat.mod_eq_of_lt (by omega)]
  rw [hsh] at h
  rw [ho]
  generalize hX : shlN m (k : Int) = X at *
  generalize m * 2 ^ k = V at *
  clear hX hk' ho hsh
  rintro q w2 ⟨rfl, hb2⟩
  simp only [uval]
  replace B0 := (B0.alloc (.cells #[.int .u64 (lim m 0), .int .u64 (lim m 1), .int .u64 (lim m 2), .int .u64 (lim m 3)] 34)).calls hb2
  have B1 : Blk w2 w1.heap.size 34 #[.int .u64 (lim m 0), .int .u64 (lim m 1), .int .u64 (lim m 2), .int .u64 (lim m 3)] := (Blk.newAt w1 _ #[.int .u64 (lim m 0), .int .u64 (lim m 1), .int .u64 (lim m 2), .int .u64 (lim m 3)] rfl).calls hb2
  replace bb := bt (ba bb (.cells #[.int .u64 (lim m 0), .int .u64 (lim m 1), .int .u64 (lim m 2), .int .u64 (lim m 3)] 34)) hb2
  clear hb2
  by_cases hov : T ≤ V
  · rw [decide_eq_true hov]
    rw [if_pos (.inl hov)] at h
    injection h with h1 h2
    subst h1 h2
    have lt1 := B1.lt
    have lt0 := B0.lt
    have bx := setRow_below bb (Nat.le_of_lt (show w.heap.size < w1.heap.size by omega)) #[.int .u64 (lim X 0), .int .u64 (lim X 1), .int .u64 (lim X 2), .int .u64 (lim X 3)]
    have C1 := B1.row #[.int .u64 (lim X 0), .int .u64 (lim X 1), .int .u64 (lim X 2), .int .u64 (lim X 3)]
    have G3 := Lib.hid (And.intro (B0.rowFar (show w.heap.size ≠ w1.heap.size by omega) #[.int .u64 (lim X 0), .int .u64 (lim X 1), .int .u64 (lim X 2), .int .u64 (lim X 3)]) bx)
    have d0 := blk_get C1 0 _ rfl; have d1 := blk_get C1 1 _ rfl; have d2 := blk_get C1 2 _ rfl; have d3 := blk_get C1 3 _ rfl
    clear C1 bx
    go_wp2_with (first | with_reducible refine ws_row B1 _ _ _ _ rfl rfl rfl rfl (iL X) rfl (aL X) ?_ | with_reducible refine ws_row G3.out.1 _ _ _ _ rfl rfl rfl rfl iZ rfl aZ ?_)
    refine bodyPost_ret (v := .tuple #[.agg #[.int .u64 0, .int .u64 0, .int .u64 0, .int .u64 0], .int .i64 7]) ?_ rfl ⟨by rw [uval_zero0], setRow_below G3.out.2 (Nat.le_refl _) _⟩
    exact results_cs (p := 2) (s := 3) rfl _ _ _ _ _ rfl (G3.out.1.row _) Try.underlying34 iZ
  · rw [decide_eq_false hov]
    have hXV := hsN hov
    rw [hXV]
    have hVT : V < T := by omega
    simp only [show (T ≤ V ∨ V = 0) ↔ (V = 0) from ⟨fun hh => hh.resolve_left (by omega), .inr⟩] at h
    clear hsN hXV
    by_cases hV0 : V = 0
    · rw [if_pos hV0] at h
      injection h with h1 h2
      subst h1 h2
      subst hV0
      have q0 := fun w => eqU0 0 true hVT (by simp) w
      have lt1 := B1.lt
      have lt0 := B0.lt
      have bx := setRow_below bb (Nat.le_of_lt (show w.heap.size < w1.heap.size by omega)) #[.int .u64 (lim 0 0), .int .u64 (lim 0 1), .int .u64 (lim 0 2), .int .u64 (lim 0 3)]
      have C1 := B1.row #[.int .u64 (lim 0 0), .int .u64 (lim 0 1), .int .u64 (lim 0 2), .int .u64 (lim 0 3)]
      have G3 := Lib.hid (And.intro (B0.rowFar (show w.heap.size ≠ w1.heap.size by omega) #[.int .u64 (lim 0 0), .int .u64 (lim 0 1), .int .u64 (lim 0 2), .int .u64 (lim 0 3)]) bx)
      have d0 := blk_get C1 0 _ rfl; have d1 := blk_get C1 1 _ rfl; have d2 := blk_get C1 2 _ rfl; have d3 := blk_get C1 3 _ rfl
      clear C1 bx
      go_wp2_with (first | with_reducible refine ws_row B1 _ _ _ _ rfl rfl rfl rfl (iL 0) rfl (aL 0) ?_ | with_reducible refine ws_row G3.out.1 _ _ _ _ rfl rfl rfl rfl iZ rfl aZ ?_)
      refine bodyPost_ret (v := .tuple #[.agg #[.int .u64 0, .int .u64 0, .int .u64 0, .int .u64 0], .int .i64 7]) ?_ rfl ⟨by rw [uval_zero0], setRow_below G3.out.2 (Nat.le_refl _) _⟩
      exact results_cs (p := 2) (s := 3) rfl _ _ _ _ _ rfl (G3.out.1.row _) Try.underlying34 iZ
    · rw [if_neg hV0] at h
      injection h with h1 h2
      subst h1 h2
      have q0 := fun w => eqU0 V false hVT (by simp [hV0]) w
      have lt1 := B1.lt
      have lt0 := B0.lt
      have bx := setRow_below bb (Nat.le_of_lt (show w.heap.size < w1.heap.size by omega)) #[.int .u64 (lim V 0), .int .u64 (lim V 1), .int .u64 (lim V 2), .int .u64 (lim V 3)]
      have C1 := B1.row #[.int .u64 (lim V 0), .int .u64 (lim V 1), .int .u64 (lim V 2), .int .u64 (lim V 3)]
      have G3 := Lib.hid (And.intro (B0.rowFar (show w.heap.size ≠ w1.heap.size by omega) #[.int .u64 (lim V 0), .int .u64 (lim V 1), .int .u64 (lim V 2), .int .u64 (lim V 3)]) bx)
      have d0 := blk_get C1 0 _ rfl; have d1 := blk_get C1 1 _ rfl; have d2 := blk_get C1 2 _ rfl; have d3 := blk_get C1 3 _ rfl
      clear C1 bx
      go_wp2_with (first | with_reducible refine ws_row B1 _ _ _ _ rfl rfl rfl rfl (iL V) rfl (aL V) ?_ | with_reducible refine ws_row G3.out.1 _ _ _ _ rfl rfl rfl rfl (iL V) rfl (aL V) ?_)
      refine bodyPost_ret (v := .tuple #[.agg #[.int .u64 (lim V 0), .int .u64 (lim V 1), .int .u64 (lim V 2), .int .u64 (lim V 3)], .int .i64 0]) ?_ rfl ⟨rfl, setRow_below G3.out.2 (Nat.le_refl _) _⟩
      exact results_cs (p := 2) (s := 3) rfl _ _ _ _ _ rfl (G3.out.1.row _) Try.underlying34 iZ

set_option maxRecDepth 100000 in
set_option maxHeartbeats 2000000 in
theorem Expand_any (b v : Nat) (r : Int) (hb : b < 4294967296) (h : expR b = (v, r)) (w : World) :
    Calls Try.prog 10 #[.int .u32 b] w fun q w' => q = .returned (.tuple #[uval v, .int .i64 r]) ∧ Below w.heap.size w w' := by
  obtain ⟨e, he⟩ : ∃ e, e = b / 16777216 := ⟨_, rfl⟩
  obtain ⟨s, hs⟩ : ∃ s, s = b / 8388608 % 2 := ⟨_, rfl⟩
  obtain ⟨m, hm⟩ : ∃ m, m = b % 8388608 := ⟨_, rfl⟩
  unfold expR at h
  rw [← he, ← hs, ← hm] at h
  have he' : (b : Int) / 16777216 = (e : Int) := by omega
  have hs' : bits .and .u32 ((b : Int) / 8388608) 1 = (s : Int) := by
    rw [show (b : Int) / 8388608 = ((b / 8388608 : Nat) : Int) by omega]
    have := u32_and_nat (b / 8388608) 1 (by omega) (by omega)
    rw [show ((1 : Nat) : Int) = 1 from rfl] at this
    rw [this, show (b / 8388608) &&& 1 = (b / 8388608) % 2 from Nat.and_two_pow_sub_one_eq_mod _ 1, hs]
  have hm' : bits .and .u32 (b : Int) 8388607 = (m : Int) := by
    have := u32_and_nat b 8388607 (by omega) (by omega)
    rw [show ((8388607 : Nat) : Int) = 8388607 from rfl] at this
    rw [this, show b &&& 8388607 = b % 8388608 from Nat.and_two_pow_sub_one_eq_mod _ 23, hm]
  have he256 : e < 256 := by omega
  have hm23 : m < 8388608 := by omega
  have hs2 : s < 2 := by omega
  clear he hs hm
  have iZ : (Try.prog.info? 34).map (·.size) = some (#[.int .u64 0, .int .u64 0, .int .u64 0, .int .u64 0] : Array Value).size := by kernel_rfl
  have iL : ∀ v, (Try.prog.info? 34).map (·.size) = some (#[.int .u64 (lim v 0), .int .u64 (lim v 1), .int .u64 (lim v 2), .int .u64 (lim v 3)] : Array Value).size := fun v => iZ
  have aZ : (#[.int .u64 0, .int .u64 0, .int .u64 0, .int .u64 0] : Array Value).all (·.oneCell') = true := by simp [Value.oneCell']
  have aL : ∀ v, (#[.int .u64 (lim v 0), .int .u64 (lim v 1), .int .u64 (lim v 2), .int .u64 (lim v 3)] : Array Value).all (·.oneCell') = true := fun v => by simp [Value.oneCell']
  by_cases hA : m ≠ 0 ∧ s = 1
  · rw [if_pos hA] at h
    injection h with h1 h2
    subst h1 h2
    obtain ⟨hA1, rfl⟩ := hA
    have hA' : ¬ (m : Int) = 0 := by omega
    have B0 : Blk (w.alloc (.cells #[.int .u64 0, .int .u64 0, .int .u64 0, .int .u64 0] 34)) w.heap.size 34 #[.int .u64 0, .int .u64 0, .int .u64 0, .int .u64 0] := Blk.newAt w _ _ rfl
    have G3 : Hid (Blk (w.alloc (.cells #[.int .u64 0, .int .u64 0, .int .u64 0, .int .u64 0] 34)) w.heap.size 34 #[.int .u64 0, .int .u64 0, .int .u64 0, .int .u64 0] ∧ True ∧ Below w.heap.size w (w.alloc (.cells #[.int .u64 0, .int .u64 0, .int .u64 0, .int .u64 0] 34))) := Lib.hid ⟨B0, trivial, ba (Below.refl _ _) _⟩
    clear B0
    rw [show uval 0 = .agg #[.int .u64 0, .int .u64 0, .int .u64 0, .int .u64 0] from uval_zero0]
    have hs1 : (1 : Int) = 1 := rfl
    go_enter Try.func10, Try.ntmps10
    go_wp2
    refine bodyPost_ret (v := .tuple #[.agg #[.int .u64 0, .int .u64 0, .int .u64 0, .int .u64 0], .int .i64 7]) ?_ rfl ⟨rfl, G3.out.2.2⟩
    exact results_cs (p := 2) (s := 3) rfl _ _ _ _ _ rfl G3.out.1 Try.underlying34 iZ
  · rw [if_neg hA] at h
    by_cases hm0 : m = 0
    · subst hm0
      have hE : expV e 0 = 0 := by
        unfold expV
        split
        · exact Nat.zero_div _
        · exact Nat.zero_mul _
      rw [hE, if_pos (.inr rfl)] at h
      injection h with h1 h2
      subst h1 h2
      have hVT : 0 < T := by decide
      have hV0 : (0 : Nat) = 0 := rfl
      go_enter Try.func10, Try.ntmps10
      go_wp2_with fail
      refine (Of_any 0 _ (by unfold W64; omega)).mono ?_
      rintro q w1 ⟨rfl, hb1⟩
      simp only [uval]
      have B0 : Blk w1 w.heap.size 34 #[.int .u64 0, .int .u64 0, .int .u64 0, .int .u64 0] := (Blk.newAt w _ #[.int .u64 0, .int .u64 0, .int .u64 0, .int .u64 0] rfl).calls hb1
      have bb := bt (ba (Below.refl w.heap.size w) _) hb1
      have lt0 := B0.lt
      clear hb1
      by_cases he3 : e < 3
      · have he3' : (e : Int) < 3 := by omega
        go_wp2_with fail
        refine (Shr_any 0 (8 * (3 - (e : Int))) _ hVT).mono ?_
        rw [show shrN 0 (8 * (3 - (e : Int))) = 0 by unfold shrN; split; rfl; exact Nat.zero_div _]
        rintro q w2 ⟨rfl, hb2⟩
        simp only [uval]
        replace B0 := (B0.alloc (.cells #[.int .u64 (lim 0 0), .int .u64 (lim 0 1), .int .u64 (lim 0 2), .int .u64 (lim 0 3)] 34)).calls hb2
        have B1 : Blk w2 w1.heap.size 34 #[.int .u64 (lim 0 0), .int .u64 (lim 0 1), .int .u64 (lim 0 2), .int .u64 (lim 0 3)] := (Blk.newAt w1 _ #[.int .u64 (lim 0 0), .int .u64 (lim 0 1), .int .u64 (lim 0 2), .int .u64 (lim 0 3)] rfl).calls hb2
        replace bb := bt (ba bb (.cells #[.int .u64 (lim 0 0), .int .u64 (lim 0 1), .int .u64 (lim 0 2), .int .u64 (lim 0 3)] 34)) hb2
        clear hb2
        have q0 := fun w => eqU0 0 true hVT (by simp) w
        have lt1 := B1.lt
        have lt0 := B0.lt
        have bx := setRow_below bb (Nat.le_of_lt (show w.heap.size < w1.heap.size by omega)) #[.int .u64 (lim 0 0), .int .u64 (lim 0 1), .int .u64 (lim 0 2), .int .u64 (lim 0 3)]
        have C1 := B1.row #[.int .u64 (lim 0 0), .int .u64 (lim 0 1), .int .u64 (lim 0 2), .int .u64 (lim 0 3)]
        have G3 := Lib.hid (And.intro (B0.rowFar (show w.heap.size ≠ w1.heap.size by omega) #[.int .u64 (lim 0 0), .int .u64 (lim 0 1), .int .u64 (lim 0 2), .int .u64 (lim 0 3)]) bx)
        have d0 := blk_get C1 0 _ rfl; have d1 := blk_get C1 1 _ rfl; have d2 := blk_get C1 2 _ rfl; have d3 := blk_get C1 3 _ rfl
        clear C1 bx
        go_wp2_with (first | with_reducible refine ws_row B1 _ _ _ _ rfl rfl rfl rfl (iL 0) rfl (aL 0) ?_ | with_reducible refine ws_row G3.out.1 _ _ _ _ rfl rfl rfl rfl iZ rfl aZ ?_)
        refine bodyPost_ret (v := .tuple #[.agg #[.int .u64 0, .int .u64 0, .int .u64 0, .int .u64 0], .int .i64 7]) ?_ rfl ⟨by rw [uval_zero0], setRow_below G3.out.2 (Nat.le_refl _) _⟩
        exact results_cs (p := 2) (s := 3) rfl _ _ _ _ _ rfl (G3.out.1.row _) Try.underlying34 iZ
      · have he3' : ¬ (e : Int) < 3 := by omega
        go_wp2_with fail
        refine (Shl_any 0 (8 * ((e : Int) - 3)) _ hVT (by omega)).mono ?_
        rw [show shlN 0 (8 * ((e : Int) - 3)) = 0 by unfold shlN; split; rfl; rw [Nat.zero_mul]; rfl]
        rw [show shlB 0 (8 * ((e : Int) - 3)) = false by rw [show 8 * ((e : Int) - 3) = ((8 * (e - 3) : Nat) : Int) by omega, shlB_over 0 _ hVT, Nat.zero_mul]; rfl]
        rintro q w2 ⟨rfl, hb2⟩
        simp only [uval]
        replace B0 := (B0.alloc (.cells #[.int .u64 (lim 0 0), .int .u64 (lim 0 1), .int .u64 (lim 0 2), .int .u64 (lim 0 3)] 34)).calls hb2
        have B1 : Blk w2 w1.heap.size 34 #[.int .u64 (lim 0 0), .int .u64 (lim 0 1), .int .u64 (lim 0 2), .int .u64 (lim 0 3)] := (Blk.newAt w1 _ #[.int .u64 (lim 0 0), .int .u64 (lim 0 1), .int .u64 (lim 0 2), .int .u64 (lim 0 3)] rfl).calls hb2
        replace bb := bt (ba bb (.cells #[.int .u64 (lim 0 0), .int .u64 (lim 0 1), .int .u64 (lim 0 2), .int .u64 (lim 0 3)] 34)) hb2
        clear hb2
        have q0 := fun w => eqU0 0 true hVT (by simp) w
        have lt1 := B1.lt
        have lt0 := B0.lt
        have bx := setRow_below bb (Nat.le_of_lt (show w.heap.size < w1.heap.size by omega)) #[.int .u64 (lim 0 0), .int .u64 (lim 0 1), .int .u64 (lim 0 2), .int .u64 (lim 0 3)]
        have C1 := B1.row #[.int .u64 (lim 0 0), .int .u64 (lim 0 1), .int .u64 (lim 0 2), .int .u64 (lim 0 3)]
        have G3 := Lib.hid (And.intro (B0.rowFar (show w.heap.size ≠ w1.heap.size by omega) #[.int .u64 (lim 0 0), .int .u64 (lim 0 1), .int .u64 (lim 0 2), .int .u64 (lim 0 3)]) bx)
        have d0 := blk_get C1 0 _ rfl; have d1 := blk_get C1 1 _ rfl; have d2 := blk_get C1 2 _ rfl; have d3 := blk_get C1 3 _ rfl
        clear C1 bx
        go_wp2_with (first | with_reducible refine ws_row B1 _ _ _ _ rfl rfl rfl rfl (iL 0) rfl (aL 0) ?_ | with_reducible refine ws_row G3.out.1 _ _ _ _ rfl rfl rfl rfl iZ rfl aZ ?_)
        refine bodyPost_ret (v := .tuple #[.agg #[.int .u64 0, .int .u64 0, .int .u64 0, .int .u64 0], .int .i64 7]) ?_ rfl ⟨by rw [uval_zero0], setRow_below G3.out.2 (Nat.le_refl _) _⟩
        exact results_cs (p := 2) (s := 3) rfl _ _ _ _ _ rfl (G3.out.1.row _) Try.underlying34 iZ
    · have hA1 : ¬ (m : Int) = 0 := by omega
      obtain rfl : s = 0 := by omega
      clear hA
      have hmT : m < T := by unfold T; omega
      refine Classical.byCases (p := e < 3) (fun he3 => ?_) (fun he3 => Expand_great b e m v r w he' hs' hm' he256 hm23 he3 hm0 h)
      go_enter Try.func10, Try.ntmps10
      go_wp2_with fail
      refine (Of_any m _ (by unfold W64; omega)).mono ?_
      rintro q w1 ⟨rfl, hb1⟩
      simp only [uval]
      have B0 : Blk w1 w.heap.size 34 #[.int .u64 0, .int .u64 0, .int .u64 0, .int .u64 0] := (Blk.newAt w _ #[.int .u64 0, .int .u64 0, .int .u64 0, .int .u64 0] rfl).calls hb1
      have bb := bt (ba (Below.refl w.heap.size w) _) hb1
      have lt0 := B0.lt
      clear hb1
      · have he3' : (e : Int) < 3 := by omega
        go_wp2_with fail
        refine (Shr_any m (8 * (3 - (e : Int))) _ hmT).mono ?_
        have hsh : shrN m (8 * (3 - (e : Int))) = expV e m := by
          unfold shrN expV
          rw [if_neg (by omega), if_pos he3, show (8 * (3 - (e : Int))).toNat = 8 * (3 - e) by omega]
        have hVT : expV e m < T := by
          unfold expV
          rw [if_pos he3]
          exact Nat.lt_of_le_of_lt (Nat.div_le_self _ _) hmT
        rw [hsh]
        rintro q w2 ⟨rfl, hb2⟩
        generalize expV e m = V at *
        simp only [uval]
        simp only [show (T ≤ V ∨ V = 0) ↔ (V = 0) from ⟨fun hh => hh.resolve_left (by omega), .inr⟩] at h
        clear hsh
        replace B0 := (B0.alloc (.cells #[.int .u64 (lim m 0), .int .u64 (lim m 1), .int .u64 (lim m 2), .int .u64 (lim m 3)] 34)).calls hb2
        have B1 : Blk w2 w1.heap.size 34 #[.int .u64 (lim m 0), .int .u64 (lim m 1), .int .u64 (lim m 2), .int .u64 (lim m 3)] := (Blk.newAt w1 _ #[.int .u64 (lim m 0), .int .u64 (lim m 1), .int .u64 (lim m 2), .int .u64 (lim m 3)] rfl).calls hb2
        replace bb := bt (ba bb (.cells #[.int .u64 (lim m 0), .int .u64 (lim m 1), .int .u64 (lim m 2), .int .u64 (lim m 3)] 34)) hb2
        clear hb2
        by_cases hV0 : V = 0
        · rw [if_pos hV0] at h
          injection h with h1 h2
          subst h1 h2
          subst hV0
          have q0 := fun w => eqU0 0 true hVT (by simp) w
          have lt1 := B1.lt
          have lt0 := B0.lt
          have bx := setRow_below bb (Nat.le_of_lt (show w.heap.size < w1.heap.size by omega)) #[.int .u64 (lim 0 0), .int .u64 (lim 0 1), .int .u64 (lim 0 2), .int .u64 (lim 0 3)]
          have C1 := B1.row #[.int .u64 (lim 0 0), .int .u64 (lim 0 1), .int .u64 (lim 0 2), .int .u64 (lim 0 3)]
          have G3 := Lib.hid (And.intro (B0.rowFar (show w.heap.size ≠ w1.heap.size by omega) #[.int .u64 (lim 0 0), .int .u64 (lim 0 1), .int .u64 (lim 0 2), .int .u64 (lim 0 3)]) bx)
          have d0 := blk_get C1 0 _ rfl; have d1 := blk_get C1 1 _ rfl; have d2 := blk_get C1 2 _ rfl; have d3 := blk_get C1 3 _ rfl
          clear C1 bx
          go_wp2_with (first | with_reducible refine ws_row B1 _ _ _ _ rfl rfl rfl rfl (iL 0) rfl (aL 0) ?_ | with_reducible refine ws_row G3.out.1 _ _ _ _ rfl rfl rfl rfl iZ rfl aZ ?_)
          refine bodyPost_ret (v := .tuple #[.agg #[.int .u64 0, .int .u64 0, .int .u64 0, .int .u64 0], .int .i64 7]) ?_ rfl ⟨by rw [uval_zero0], setRow_below G3.out.2 (Nat.le_refl _) _⟩
          exact results_cs (p := 2) (s := 3) rfl _ _ _ _ _ rfl (G3.out.1.row _) Try.underlying34 iZ
        · rw [if_neg hV0] at h
          injection h with h1 h2
          subst h1 h2
          have q0 := fun w => eqU0 V false hVT (by simp [hV0]) w
          have lt1 := B1.lt
          have lt0 := B0.lt
          have bx := setRow_below bb (Nat.le_of_lt (show w.heap.size < w1.heap.size by omega)) #[.int .u64 (lim V 0), .int .u64 (lim V 1), .int .u64 (lim V 2), .int .u64 (lim V 3)]
          have C1 := B1.row #[.int .u64 (lim V 0), .int .u64 (lim V 1), .int .u64 (lim V 2), .int .u64 (lim V 3)]
          have G3 := Lib.hid (And.intro (B0.rowFar (show w.heap.size ≠ w1.heap.size by omega) #[.int .u64 (lim V 0), .int .u64 (lim V 1), .int .u64 (lim V 2), .int .u64 (lim V 3)]) bx)
          have d0 := blk_get C1 0 _ rfl; have d1 := blk_get C1 1 _ rfl; have d2 := blk_get C1 2 _ rfl; have d3 := blk_get C1 3 _ rfl
          clear C1 bx
          go_wp2_with (first | with_reducible refine ws_row B1 _ _ _ _ rfl rfl rfl rfl (iL V) rfl (aL V) ?_ | with_reducible refine ws_row G3.out.1 _ _ _ _ rfl rfl rfl rfl (iL V) rfl (aL V) ?_)
          refine bodyPost_ret (v := .tuple #[.agg #[.int .u64 (lim V 0), .int .u64 (lim V 1), .int .u64 (lim V 2), .int .u64 (lim V 3)], .int .i64 0]) ?_ rfl ⟨rfl, setRow_below G3.out.2 (Nat.le_refl _) _⟩
          exact results_cs (p := 2) (s := 3) rfl _ _ _ _ _ rfl (G3.out.1.row _) Try.underlying34 iZ
end Go.Proofs.Ytndockjflnicjaa
