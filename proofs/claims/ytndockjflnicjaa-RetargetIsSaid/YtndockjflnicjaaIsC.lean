/- florinref05: the document's Shrink. -/
import Derived.Test.YtndockjflnicjaaIsB
import Derived.Test.YtndockjflnicjaaRefC
namespace Go.Proofs.Ytndockjflnicjaa
open Go.RowKit
set_option linter.unusedVariables false
set_option maxRecDepth 100000 in
set_option maxHeartbeats 4000000 in
theorem RShrink_lo (m k k7 e a0 a V V2 e1 E N Z X : Nat) (d1 d2 : Int) (lost g : Bool) (q1 : IntKind.i64.wrap ((k : Int) + 7) = (k7 : Int)) (q2 : Int.tdiv (k7 : Int) 8 = (e : Int)) (q2' : (k7 : Int) / 8 = (e : Int)) (q3 : IntKind.i64.wrap (e : Int) = (e : Int)) (hd1 : IntKind.i64.wrap (3 - (e : Int)) = d1) (hd2 : IntKind.i64.wrap (8 * d1) = d2)
    (q4 : IntKind.u32.wrap (V : Int) = (V : Int)) (hg : decide ((8388608 : Int) ≤ (V : Int)) = g) (r1 : g = true → Int.tdiv (V : Int) 256 = (V2 : Int) ∧ (V : Int) / 256 = (V2 : Int) ∧ IntKind.u32.wrap (V2 : Int) = (V2 : Int) ∧ IntKind.i64.wrap ((e : Int) + 1) = (e1 : Int) ∧ E = e1 ∧ N = V2) (r0 : g = false → E = e ∧ N = V)
    (q5 : IntKind.u32.wrap (E : Int) = (E : Int)) (q6 : IntKind.u32.wrap ((E : Int) * 16777216) = (Z : Int)) (q7 : bits .or .u32 (Z : Int) (N : Int) = (X : Int))
    (cL : Hid (∀ w, Calls Try.prog 49 #[uval m] w fun e w' => e = .returned (.int .i64 k) ∧ Below w.heap.size w w')) (cS : Hid (∀ w, Calls Try.prog 39 #[uval m, .int .i64 d2] w fun e w' => e = .returned (.tuple #[uval a0, .bool lost]) ∧ Below w.heap.size w w')) (hV : Hid (lim a 0 = V))
    (h3 : decide ((3 : Int) < (e : Int)) = false) (ha : a0 = a) (w : World) :
    Calls Try.prog 44 #[uval m] w fun q w' => q = .returned (.int .u32 X) ∧ Below w.heap.size w w' := by
  have iL : ∀ v, (Try.prog.info? 63).map (·.size) = some (#[.int .u64 (lim v 0), .int .u64 (lim v 1), .int .u64 (lim v 2), .int .u64 (lim v 3)] : Array Value).size := fun v => by kernel_rfl
  have aL : ∀ v, (#[.int .u64 (lim v 0), .int .u64 (lim v 1), .int .u64 (lim v 2), .int .u64 (lim v 3)] : Array Value).all (·.oneCell') = true := fun v => by simp [Value.oneCell']
  have HR := Lib.hid (And.intro r1 r0); clear r1 r0
  unfold uval
  go_enter Try.func44, Try.ntmps44
  go_wp2_with fail
  refine (cL.out _).mono ?_
  rintro q w1 ⟨rfl, hb1⟩
  have B0 : Blk w1 w.heap.size 63 #[.int .u64 (lim m 0), .int .u64 (lim m 1), .int .u64 (lim m 2), .int .u64 (lim m 3)] := (Blk.newAt w _ #[.int .u64 (lim m 0), .int .u64 (lim m 1), .int .u64 (lim m 2), .int .u64 (lim m 3)] rfl).calls hb1
  have bb := bt (ba (Below.refl w.heap.size w) _) hb1
  clear hb1
  go_wp2_with (with_reducible refine wl_row B0 _ _ rfl rfl rfl _ _ Try.underlying63 (iL m) ?_)
  refine (cS.out _).mono ?_
  rintro q w2 ⟨rfl, hb1⟩
  simp only [uval]
  replace B0 := B0.calls hb1
  replace bb := bt bb hb1
  clear hb1
  subst ha
  have d0 : (w2.alloc (.cells #[.int .u64 (lim a0 0), .int .u64 (lim a0 1), .int .u64 (lim a0 2), .int .u64 (lim a0 3)] 63)).cell? ⟨w2.heap.size, 0, none⟩ = some (.int .u64 V) := blk_get (Blk.newAt w2 _ #[.int .u64 (lim a0 0), .int .u64 (lim a0 1), .int .u64 (lim a0 2), .int .u64 (lim a0 3)] rfl) 0 _ (by rw [hV.out]; rfl)
  clear cL cS
  cases g
  · obtain ⟨rfl, rfl⟩ := HR.out.2 rfl
    go_wp2
    go_ret
    exact ⟨rfl, ba bb _⟩
  · obtain ⟨s1, s2, s3, s4, rfl, rfl⟩ := HR.out.1 rfl
    go_wp2
    go_ret
    exact ⟨rfl, ba bb _⟩
set_option maxRecDepth 100000 in
set_option maxHeartbeats 4000000 in
theorem RShrink_hi (m k k7 e a0 a V V2 e1 E N Z X : Nat) (d1 d2 : Int) (lost g : Bool) (q1 : IntKind.i64.wrap ((k : Int) + 7) = (k7 : Int)) (q2 : Int.tdiv (k7 : Int) 8 = (e : Int)) (q2' : (k7 : Int) / 8 = (e : Int)) (q3 : IntKind.i64.wrap (e : Int) = (e : Int)) (hd1 : IntKind.i64.wrap (3 - (e : Int)) = d1) (hd2 : IntKind.i64.wrap (8 * d1) = d2)
    (q4 : IntKind.u32.wrap (V : Int) = (V : Int)) (hg : decide ((8388608 : Int) ≤ (V : Int)) = g) (r1 : g = true → Int.tdiv (V : Int) 256 = (V2 : Int) ∧ (V : Int) / 256 = (V2 : Int) ∧ IntKind.u32.wrap (V2 : Int) = (V2 : Int) ∧ IntKind.i64.wrap ((e : Int) + 1) = (e1 : Int) ∧ E = e1 ∧ N = V2) (r0 : g = false → E = e ∧ N = V)
    (q5 : IntKind.u32.wrap (E : Int) = (E : Int)) (q6 : IntKind.u32.wrap ((E : Int) * 16777216) = (Z : Int)) (q7 : bits .or .u32 (Z : Int) (N : Int) = (X : Int))
    (cL : Hid (∀ w, Calls Try.prog 49 #[uval m] w fun e w' => e = .returned (.int .i64 k) ∧ Below w.heap.size w w')) (cS : Hid (∀ w, Calls Try.prog 39 #[uval m, .int .i64 d2] w fun e w' => e = .returned (.tuple #[uval a0, .bool lost]) ∧ Below w.heap.size w w')) (hV : Hid (lim a 0 = V))
    (h3 : decide ((3 : Int) < (e : Int)) = true) (f1 f2 : Int) (hf1 : IntKind.i64.wrap ((e : Int) - 3) = f1) (hf2 : IntKind.i64.wrap (8 * f1) = f2) (cR : Hid (∀ w, Calls Try.prog 38 #[uval m, .int .i64 f2] w fun e w' => e = .returned (uval a) ∧ Below w.heap.size w w')) (w : World) :
    Calls Try.prog 44 #[uval m] w fun q w' => q = .returned (.int .u32 X) ∧ Below w.heap.size w w' := by
  have iL : ∀ v, (Try.prog.info? 63).map (·.size) = some (#[.int .u64 (lim v 0), .int .u64 (lim v 1), .int .u64 (lim v 2), .int .u64 (lim v 3)] : Array Value).size := fun v => by kernel_rfl
  have aL : ∀ v, (#[.int .u64 (lim v 0), .int .u64 (lim v 1), .int .u64 (lim v 2), .int .u64 (lim v 3)] : Array Value).all (·.oneCell') = true := fun v => by simp [Value.oneCell']
  have HR := Lib.hid (And.intro r1 r0); clear r1 r0
  unfold uval
  go_enter Try.func44, Try.ntmps44
  go_wp2_with fail
  refine (cL.out _).mono ?_
  rintro q w1 ⟨rfl, hb1⟩
  have B0 : Blk w1 w.heap.size 63 #[.int .u64 (lim m 0), .int .u64 (lim m 1), .int .u64 (lim m 2), .int .u64 (lim m 3)] := (Blk.newAt w _ #[.int .u64 (lim m 0), .int .u64 (lim m 1), .int .u64 (lim m 2), .int .u64 (lim m 3)] rfl).calls hb1
  have bb := bt (ba (Below.refl w.heap.size w) _) hb1
  clear hb1
  go_wp2_with (with_reducible refine wl_row B0 _ _ rfl rfl rfl _ _ Try.underlying63 (iL m) ?_)
  refine (cS.out _).mono ?_
  rintro q w2 ⟨rfl, hb1⟩
  simp only [uval]
  replace B0 := B0.calls hb1
  replace bb := bt bb hb1
  clear hb1
  have l2 : w.heap.size ≤ w2.heap.size := bb.size
  go_wp2_with (with_reducible refine wl_row (B0.alloc _) _ _ rfl rfl rfl _ _ Try.underlying63 (iL m) ?_)
  refine (cR.out _).mono ?_
  rintro q w3 ⟨rfl, hb1⟩
  simp only [uval]
  have B4 : Blk w3 w2.heap.size 63 #[.int .u64 (lim a0 0), .int .u64 (lim a0 1), .int .u64 (lim a0 2), .int .u64 (lim a0 3)] := (Blk.newAt w2 _ #[.int .u64 (lim a0 0), .int .u64 (lim a0 1), .int .u64 (lim a0 2), .int .u64 (lim a0 3)] rfl).calls hb1
  replace bb := bt (ba bb (.cells #[.int .u64 (lim a0 0), .int .u64 (lim a0 1), .int .u64 (lim a0 2), .int .u64 (lim a0 3)] 63)) hb1
  clear hb1 B0
  have bx := setRow_below bb l2 #[.int .u64 (lim a 0), .int .u64 (lim a 1), .int .u64 (lim a 2), .int .u64 (lim a 3)]
  have d0 : (w3.setRow w2.heap.size #[.int .u64 (lim a 0), .int .u64 (lim a 1), .int .u64 (lim a 2), .int .u64 (lim a 3)]).cell? ⟨w2.heap.size, 0, none⟩ = some (.int .u64 V) := blk_get (B4.row #[.int .u64 (lim a 0), .int .u64 (lim a 1), .int .u64 (lim a 2), .int .u64 (lim a 3)]) 0 _ (by rw [hV.out]; rfl)
  clear cL cS cR
  cases g
  · obtain ⟨rfl, rfl⟩ := HR.out.2 rfl
    go_wp2_with (with_reducible refine ws_row B4 _ _ _ _ rfl rfl rfl rfl (iL a) rfl (aL a) ?_)
    go_ret
    exact ⟨rfl, bx⟩
  · obtain ⟨s1, s2, s3, s4, rfl, rfl⟩ := HR.out.1 rfl
    go_wp2_with (with_reducible refine ws_row B4 _ _ _ _ rfl rfl rfl rfl (iL a) rfl (aL a) ?_)
    go_ret
    exact ⟨rfl, bx⟩
theorem RShrink_any (m x : Nat) (hm : m < T) (hx : shrR m = x) (w : World) :
    Calls Try.prog 44 #[uval m] w fun q w' => q = .returned (.int .u32 x) ∧ Below w.heap.size w w' := by
  have hbl : bl m ≤ 256 := (bl_lt m 256).2 hm
  have hle : bl m ≤ 8 * ((bl m + 7) / 8) := by omega
  obtain ⟨e, he⟩ : ∃ e, e = (bl m + 7) / 8 := ⟨_, rfl⟩
  rw [← he] at hle
  have hV := shrV_lt m e hle
  have hxx : shrE e (shrV m e) = x := by
    rw [← hx]
    unfold shrR
    by_cases h0 : m = 0
    · subst h0
      rw [if_pos rfl, he]
      rfl
    · rw [if_neg h0, he]
  obtain ⟨V, hVd⟩ : ∃ V, V = shrV m e := ⟨_, rfl⟩
  rw [← hVd] at hV hxx
  have he32 : e ≤ 32 := by omega
  have cL := fun w => RLen_any m w hm
  have hd2 : IntKind.i64.wrap (8 * (3 - (e : Int))) = 8 * (3 - (e : Int)) := by simp [IntKind.wrap, IntKind.signed, IntKind.bits]; omega
  have cS := fun w => RShl_any m (8 * (3 - (e : Int))) w hm (by omega)
  have q1 : IntKind.i64.wrap ((bl m : Int) + 7) = ((bl m + 7 : Nat) : Int) := by simp [IntKind.wrap, IntKind.signed, IntKind.bits]; omega
  have q2 : Int.tdiv ((bl m + 7 : Nat) : Int) 8 = (e : Int) := by rw [he]; rfl
  have q2' : ((bl m + 7 : Nat) : Int) / 8 = (e : Int) := by omega
  have q3 : IntKind.i64.wrap (e : Int) = (e : Int) := by simp [IntKind.wrap, IntKind.signed, IntKind.bits]; omega
  have hd1 : IntKind.i64.wrap (3 - (e : Int)) = 3 - (e : Int) := by simp [IntKind.wrap, IntKind.signed, IntKind.bits]; omega
  have wr : ∀ n : Nat, n < 4294967296 → IntKind.u32.wrap (n : Int) = (n : Int) := fun n hn => by simp [IntKind.wrap, IntKind.signed, IntKind.bits]; omega
  obtain ⟨E, hE⟩ : ∃ E, E = if V < 8388608 then e else e + 1 := ⟨_, rfl⟩
  obtain ⟨N, hN⟩ : ∃ N, N = if V < 8388608 then V else V / 256 := ⟨_, rfl⟩
  have hEN : E ≤ 33 ∧ N < 16777216 ∧ x = E * 16777216 + N := by
    rw [← hxx]
    unfold shrE
    by_cases hs : V < 8388608
    · rw [if_pos hs] at hE hN ⊢; omega
    · rw [if_neg hs] at hE hN ⊢; omega
  have q6 : IntKind.u32.wrap ((E : Int) * 16777216) = ((E * 16777216 : Nat) : Int) := by
    have := wr (E * 16777216) (by omega)
    rw [show (E : Int) * 16777216 = ((E * 16777216 : Nat) : Int) by omega]
    exact this
  have q7 : bits .or .u32 ((E * 16777216 : Nat) : Int) (N : Int) = (x : Int) := by
    have := or_24 E N (by omega) hEN.2.1
    rw [show ((E * 16777216 : Nat) : Int) = (E : Int) * 16777216 by omega, this, hEN.2.2]
  have r1 : decide ((8388608 : Int) ≤ (V : Int)) = true → Int.tdiv (V : Int) 256 = ((V / 256 : Nat) : Int) ∧ (V : Int) / 256 = ((V / 256 : Nat) : Int) ∧ IntKind.u32.wrap ((V / 256 : Nat) : Int) = ((V / 256 : Nat) : Int) ∧ IntKind.i64.wrap ((e : Int) + 1) = ((e + 1 : Nat) : Int) ∧ E = e + 1 ∧ N = V / 256 := by
    intro h
    have h := of_decide_eq_true h
    rw [if_neg (by omega)] at hE hN
    refine ⟨rfl, by omega, wr _ (by omega), ?_, hE, hN⟩
    simp [IntKind.wrap, IntKind.signed, IntKind.bits]; omega
  have r0 : decide ((8388608 : Int) ≤ (V : Int)) = false → E = e ∧ N = V := by
    intro h
    have h := of_decide_eq_false h
    rw [if_pos (by omega)] at hE hN
    exact ⟨hE, hN⟩
  have hlim : lim V 0 = V := by unfold lim; rw [Nat.pow_zero, Nat.div_one, Nat.mod_eq_of_lt (by unfold W64; omega)]
  by_cases h3 : 3 < e
  · have hf1 : IntKind.i64.wrap ((e : Int) - 3) = (e : Int) - 3 := by simp [IntKind.wrap, IntKind.signed, IntKind.bits]; omega
    have hf2 : IntKind.i64.wrap (8 * ((e : Int) - 3)) = 8 * ((e : Int) - 3) := by simp [IntKind.wrap, IntKind.signed, IntKind.bits]; omega
    have ha : shrN m (8 * ((e : Int) - 3)) = V := by
      rw [hVd]
      unfold shrN shrV
      rw [if_neg (by omega), if_neg (by omega)]
      congr 2
      omega
    have cR := fun w => RShr_any m (8 * ((e : Int) - 3)) w hm (by omega)
    rw [ha] at cR
    exact RShrink_hi m (bl m) (bl m + 7) e _ V V (V / 256) (e + 1) E N (E * 16777216) x _ _ _ _ q1 q2 q2' q3 hd1 hd2 (wr V (by omega)) rfl r1 r0 (wr E (by omega)) q6 q7 (Lib.hid cL) (Lib.hid cS) (Lib.hid hlim) (decide_eq_true (by omega)) _ _ hf1 hf2 (Lib.hid cR) w
  · have ha : shlN m (8 * (3 - (e : Int))) = V := by
      rw [hVd] at hV ⊢
      unfold shlN shrV at *
      by_cases he3 : e < 3
      · rw [if_pos he3] at hV ⊢
        have e1 : (8 * (3 - (e : Int))).toNat = 8 * (3 - e) := by omega
        rw [if_neg (by omega), e1, Nat.mod_eq_of_lt (Nat.lt_trans hV (by decide))]
      · have : e = 3 := by omega
        subst this
        rw [if_pos (by omega), if_neg (by omega)]
        simp
    rw [ha] at cS
    exact RShrink_lo m (bl m) (bl m + 7) e V V V (V / 256) (e + 1) E N (E * 16777216) x _ _ _ _ q1 q2 q2' q3 hd1 hd2 (wr V (by omega)) rfl r1 r0 (wr E (by omega)) q6 q7 (Lib.hid cL) (Lib.hid cS) (Lib.hid hlim) (decide_eq_false (by omega)) rfl w
end Go.Proofs.Ytndockjflnicjaa
