/- What u256.FromHex comes to. -/
import Derived.Test.YtfebknplkbeblaaDoorU256i
import Derived.Test.YtfebknplkbeblaaDoorStr
namespace Go.Proofs.YtfebknplkbeblaaDoor
open Go.RowKit
set_option linter.unusedVariables false

set_option maxHeartbeats 400000 in
theorem uDigit_any (r : Nat) (hr : r ≤ 2147483647) (w : World) :
    Calls Tryd.prog 76 #[.int .i32 r] w fun e w' => e = .returned (.tuple #[.int .u64 ((dg r).getD 0 : Nat), .bool (dg r).isSome]) ∧ w' = w := by
  go_enter Tryd.func76, Tryd.ntmps76
  rcases (show r < 48 ∨ (48 ≤ r ∧ r ≤ 57) ∨ (57 < r ∧ r < 65) ∨ (65 ≤ r ∧ r ≤ 70) ∨ (70 < r ∧ r < 97) ∨ (97 ≤ r ∧ r ≤ 102) ∨ 102 < r from by omega) with h1 | h1 | h1 | h1 | h1 | h1 | h1
  · have e : dg r = none := by unfold dg; rw [if_neg (by omega), if_neg (by omega), if_neg (by omega)]
    have E := Lib.hid e; clear e
    go_wp2
    exact bodyPost_ret (v := .tuple #[.int .u64 0, .bool false]) (by simp [results, Tryd.results76, go_sem]) rfl ⟨by rw [E.out]; rfl, rfl⟩
  · have e : dg r = some (r - 48) := by unfold dg; rw [if_pos (by omega)]
    have E := Lib.hid e; clear e
    go_wp2
    exact bodyPost_ret (v := .tuple #[.int .u64 ((r - 48 : Nat) : Int), .bool true]) (by simp [results, Tryd.results76, go_sem]; omega) rfl ⟨by rw [E.out]; rfl, rfl⟩
  · have e : dg r = none := by unfold dg; rw [if_neg (by omega), if_neg (by omega), if_neg (by omega)]
    have E := Lib.hid e; clear e
    go_wp2
    exact bodyPost_ret (v := .tuple #[.int .u64 0, .bool false]) (by simp [results, Tryd.results76, go_sem]) rfl ⟨by rw [E.out]; rfl, rfl⟩
  · have e : dg r = some (r - 55) := by unfold dg; rw [if_neg (by omega), if_neg (by omega), if_pos (by omega)]
    have E := Lib.hid e; clear e
    go_wp2
    exact bodyPost_ret (v := .tuple #[.int .u64 ((r - 55 : Nat) : Int), .bool true]) (by simp [results, Tryd.results76, go_sem]; omega) rfl ⟨by rw [E.out]; rfl, rfl⟩
  · have e : dg r = none := by unfold dg; rw [if_neg (by omega), if_neg (by omega), if_neg (by omega)]
    have E := Lib.hid e; clear e
    go_wp2
    exact bodyPost_ret (v := .tuple #[.int .u64 0, .bool false]) (by simp [results, Tryd.results76, go_sem]) rfl ⟨by rw [E.out]; rfl, rfl⟩
  · have e : dg r = some (r - 87) := by unfold dg; rw [if_neg (by omega), if_pos (by omega)]
    have E := Lib.hid e; clear e
    go_wp2
    exact bodyPost_ret (v := .tuple #[.int .u64 ((r - 87 : Nat) : Int), .bool true]) (by simp [results, Tryd.results76, go_sem]; omega) rfl ⟨by rw [E.out]; rfl, rfl⟩
  · have e : dg r = none := by unfold dg; rw [if_neg (by omega), if_neg (by omega), if_neg (by omega)]
    have E := Lib.hid e; clear e
    go_wp2
    exact bodyPost_ret (v := .tuple #[.int .u64 0, .bool false]) (by simp [results, Tryd.results76, go_sem]) rfl ⟨by rw [E.out]; rfl, rfl⟩
theorem uDigit_is (r : Nat) (hr : r ≤ 2147483647) (d : Nat) (hd : dg r = some d) (w : World) : Calls Tryd.prog 76 #[.int .i32 r] w fun e w' => e = .returned (.tuple #[.int .u64 d, .bool true]) ∧ w' = w := by
  have h := uDigit_any r hr w
  rw [hd] at h
  exact h
theorem uDigit_no (r : Nat) (hr : r ≤ 2147483647) (hd : dg r = none) (w : World) : Calls Tryd.prog 76 #[.int .i32 r] w fun e w' => e = .returned (.tuple #[.int .u64 0, .bool false]) ∧ w' = w := by
  have h := uDigit_any r hr w
  rw [hd] at h
  exact h

/-- What a text of hexadecimal digits is worth. -/
def hexV (l : List UInt8) : Nat := l.foldl (fun a c => a * 16 + (dg c.toNat).getD 0) 0
theorem hexV_snoc (l : List UInt8) (c : UInt8) : hexV (l ++ [c]) = hexV l * 16 + (dg c.toNat).getD 0 := by simp [hexV]
def allD (l : List UInt8) : Bool := l.all fun c => (dg c.toNat).isSome
/-- What a text is read as: the number, and what was wrong. -/
def hexR (l : List UInt8) : Nat × Int := if l = [] ∨ allD l = false then (0, 2) else if T ≤ hexV l then (0, 3) else (hexV l, 0)
theorem allD_at (l : List UInt8) : allD l = true ↔ ∀ i, i < l.length → (dg (l.getD i 0).toNat).isSome = true := by
  unfold allD
  rw [List.all_eq_true]
  constructor
  · intro h i hi
    have : l.getD i 0 = l[i] := by simp [List.getD, hi]
    rw [this]
    exact h _ (List.getElem_mem hi)
  · intro h c hc
    obtain ⟨i, hi, rfl⟩ := List.mem_iff_getElem.1 hc
    have := h i hi
    have e : l.getD i 0 = l[i] := by simp [List.getD, hi]
    rw [e] at this
    exact this
theorem hexV_step (l : List UInt8) (k d : Nat) (h : k < l.length) (hd : dg (l.getD k 0).toNat = some d) : hexV (l.take (k + 1)) = hexV (l.take k) * 16 + d := by
  rw [take_snocD l k h, hexV_snoc, hd]
  rfl
theorem next_is {P : Program} {w : World} {g k : Nat} {l : List UInt8} (hi : It w g (bstr l) k) (h : k < l.length) (d : Nat) (hd : dg (l.getD k 0).toNat = some d) (ty : TypeId) :
    (Instr.next (.pointer (some ⟨g, 0, none⟩)) true ty).run P w = .ok (.tuple #[.bool true, .int .i64 k, .int .i32 (l.getD k 0).toNat]) (setIt w g (bstr l) (k + 1)) := by
  have hs : k < (bstr l).size := by simpa [bstr, ByteArray.size] using h
  have e : (bstr l)[k]'hs = l.getD k 0 := by
    have e1 : (bstr l)[k]'hs = l.toArray[k]'(by simpa using h) := rfl
    rw [e1]; simp [h]
  have h1 := next_one (P := P) hi ty hs (by rw [e]; exact dg_ascii hd)
  rw [e] at h1
  exact h1
theorem next_no {P : Program} {w : World} {g k : Nat} {l : List UInt8} (hi : It w g (bstr l) k) (h : k < l.length) (hd : dg (l.getD k 0).toNat = none) :
    ∃ r q : Nat, r ≤ 2147483647 ∧ dg r = none ∧ ∀ ty, (Instr.next (.pointer (some ⟨g, 0, none⟩)) true ty).run P w = .ok (.tuple #[.bool true, .int .i64 k, .int .i32 r]) (setIt w g (bstr l) q) := by
  have hs : k < (bstr l).size := by simpa [bstr, ByteArray.size] using h
  have e : (bstr l)[k]'hs = l.getD k 0 := by
    have e1 : (bstr l)[k]'hs = l.toArray[k]'(by simpa using h) := rfl
    rw [e1]; simp [h]
  refine ⟨(Utf8.decode (bstr l) k).1, k + (Utf8.decode (bstr l) k).2, decode_le _ _, ?_, fun ty => next_at hi ty hs⟩
  by_cases ha : ((bstr l)[k]'hs).toNat < 128
  · rw [decode_ascii _ _ hs ha, e]; exact hd
  · have hh := (decode_high _ _ hs (by omega)).1
    unfold dg
    rw [if_neg (by omega), if_neg (by omega), if_neg (by omega)]
theorem next_fin {P : Program} {w : World} {g : Nat} {l : List UInt8} (hi : It w g (bstr l) l.length) (ty : TypeId) :
    (Instr.next (.pointer (some ⟨g, 0, none⟩)) true ty).run P w = .ok (.tuple #[.bool false]) w := next_end hi ty (by simp [bstr, ByteArray.size])
/-- Up by four digits of two. -/
theorem shl4 (m r : Nat) (b : Bool) (hm : m < T) (hr : r = m * 16 % T) (hb : b = decide (T ≤ m * 16)) (w : World) :
    Calls Tryd.prog 54 #[uval m, .int .i64 4] w fun e w' => e = .returned (.tuple #[uval r, .bool b]) ∧ Below w.heap.size w w' := by
  have h := Shl_any m 4 w hm (by omega)
  have e1 : shlN m 4 = r := by rw [hr]; rfl
  have e2 : shlB m 4 = b := by
    rw [hb]
    unfold shlB
    rw [if_neg (by omega), if_neg (by omega), decide_eq_decide]
    have h1 := bl_lt m 252
    have h2 : T = 2 ^ 252 * 16 := by decide
    rw [h2]
    generalize (2 : Nat) ^ 252 = z at *
    omega
  rw [e1, e2] at h
  exact h
theorem lim_lows (r d : Nat) (hr : r % 16 = 0) (hd : d < 16) : lim (r + d) 0 = lim r 0 + d ∧ ∀ j, 0 < j → lim (r + d) j = lim r j := by
  constructor
  · unfold lim
    simp only [Nat.pow_zero, Nat.div_one]
    unfold W64
    omega
  · intro j hj
    unfold lim
    have e : W64 ^ j = 16 * (2 ^ 60 * W64 ^ (j - 1)) := by
      rw [← Nat.mul_assoc, show 16 * (2 : Nat) ^ 60 = W64 from rfl, ← Nat.pow_succ']
      congr 1
      omega
    rw [e, ← Nat.div_div_eq_div_mul (r + d) 16, ← Nat.div_div_eq_div_mul r 16, show (r + d) / 16 = r / 16 by omega]
theorem or_lows (r d : Nat) (hr : r % 16 = 0) (hd : d < 16) (hl : r < W64) : bits .or .u64 (r : Int) (d : Int) = ((r + d : Nat) : Int) := by
  have e2 := u64_or_nat r d (by unfold W64 at hl; omega) (by omega)
  rw [e2]
  congr 1
  have h1 : r = (r / 16) <<< 4 := by rw [Nat.shiftLeft_eq]; omega
  rw [h1, ← Nat.shiftLeft_add_eq_or_of_lt (by omega)]
theorem It.fillFar {w : World} {g b n p : Nat} {s : ByteArray} (h : It w g s p) (hne : g ≠ b) : It (fillW w b n) g s p := (((h.far hne _).far hne _).far hne _).far hne _
theorem It.posn {w : World} {g : Nat} {s : ByteArray} {p : Nat} (h : It w g s p) : w.iterPos g = p := by
  unfold It at h
  simp [World.iterPos, h]

set_option maxHeartbeats 400000 in
theorem FromHex_empty (w : World) : Calls Tryd.prog 60 #[.string (bstr [])] w fun e w' => e = .returned (.tuple #[uval 0, .int .i64 2]) ∧ Below w.heap.size w w' := by
  have e0 : (bstr [] : ByteArray) = ⟨#[]⟩ := rfl
  rw [e0]
  go_enter Tryd.func60, Tryd.ntmps60
  go_wp2
  refine bodyPost_ret (v := .tuple #[uval 0, .int .i64 2]) ?_ rfl ⟨rfl, ?_⟩
  · simp [results, Tryd.results60, go_sem, uval_zero0]
  · exact (Below.refl _ _).alloc (Nat.le_refl _) _

set_option maxHeartbeats 1000000 in
theorem FromHex_some (l : List UInt8) (w : World) (hne : l ≠ []) :
    Calls Tryd.prog 60 #[.string (bstr l)] w fun e w' => e = .returned (.tuple #[uval (hexR l).1, .int .i64 (hexR l).2]) ∧ Below w.heap.size w w' := by
  have hne1 : (bstr l).toList = [] ↔ False := by
    constructor
    · intro h
      apply hne
      have : (bstr l).toList = l := by simp [bstr, ByteArray.toList_eq]
      rw [this] at h; exact h
    · exact False.elim
  obtain ⟨s, hs⟩ : ∃ s, s = bstr l := ⟨_, rfl⟩
  rw [← hs] at hne1 ⊢
  have hemp : (s.toList.isEmpty) = false := by
    cases h : s.toList with
    | nil => exact (hne1.1 h).elim
    | cons a t => rfl
  have HS := Lib.hid (And.intro hs hne); clear hs hne
  have hne2 : ¬ s.toList = [] := fun h => hne1.1 h
  clear hne1
  go_enter Tryd.func60, Tryd.ntmps60
  go_wp2
  go_loopw [5] (fun b wr => ∃ k : Nat, k ≤ l.length ∧ b = .bool (decide (T ≤ hexV (l.take k))) ∧ (∀ i, i < k → (dg (l.getD i 0).toNat).isSome = true) ∧ It wr (w.heap.size + 1 + 1) s k ∧ Blk wr w.heap.size 62 (ucells 0) ∧ Blk wr (w.heap.size + 1) 62 (ucells (hexV (l.take k) % T)) ∧ Below w.heap.size w wr) (fun _ wr => l.length - wr.iterPos (w.heap.size + 1 + 1))
  case atStart =>
    refine ⟨0, by omega, congrArg Value.bool (show false = decide (T ≤ 0) by decide), fun i hi => by omega, It.newAt _ _ _ (by simp), ?_, ?_, ?_⟩
    · exact ((Blk.newAt _ 62 zero4 rfl).alloc _).alloc _
    · have e0 : hexV (l.take 0) % T = 0 := Nat.zero_mod _
      rw [e0]
      exact (Blk.newAt (n := w.heap.size + 1) (w.alloc (.cells zero4 62)) 62 zero4 (by simp)).alloc _
    · exact (((Below.refl _ _).alloc (Nat.le_refl _) _).alloc (by simp) _).alloc (by simp; omega) _
  case round =>
    obtain ⟨k, hk, rfl, hall, hi, h0, h1, hb⟩ := hrel
    by_cases hlt : k < l.length
    · have hik := hi
      rw [HS.out.1] at hik
      cases hd : dg (l.getD k 0).toNat with
      | none =>
        obtain ⟨r, q, hr1, hr2, hn⟩ := next_no (P := Tryd.prog) hik hlt hd
        have hres : hexR l = (0, 2) := by
          unfold hexR
          refine if_pos (.inr ?_)
          cases ha : allD l with
          | false => rfl
          | true =>
            have := (allD_at l).1 ha k hlt
            rw [hd] at this; cases this
        rw [← HS.out.1] at hn
        have g0 : Blk (setIt wr (w.heap.size + 1 + 1) s q) w.heap.size 62 (ucells 0) := h0.setIt (by omega)
        have gb : Below w.heap.size w (setIt wr (w.heap.size + 1 + 1) s q) := below_setIt hb (by omega)
        have c0 := clf g0
        have H := Lib.hid (And.intro gb (And.intro hres (And.intro hd hr2))); clear hik hi h0 h1 hb g0 gb hres hd hall hr2
        generalize decide (T ≤ hexV (l.take k)) = bb at *
        generalize setIt wr (w.heap.size + 1 + 1) s q = wi at *
        go_wp2_with (go_at_call 76; refine (uDigit_no r hr1 H.out.2.2.2 _).mono ?_; rintro e w' ⟨rfl, rfl⟩)
        obtain ⟨gb, hres, hd, hr2⟩ := H.out
        refine bodyPost_ret (v := .tuple #[uval 0, .int .i64 2]) ?_ rfl ⟨by rw [hres], ?_⟩
        · simp [results, Tryd.results60, go_sem, uval_zero0, c0]
        · exact (((gb.setCell (by simp) _).setCell (by simp) _).setCell (by simp) _).setCell (by simp) _
      | some d =>
        have hn := fun ty => next_is (P := Tryd.prog) hik hlt d hd ty
        rw [← HS.out.1] at hn
        obtain ⟨v, hv⟩ : ∃ v, v = hexV (l.take k) := ⟨_, rfl⟩
        have hvs := hexV_step l k d hlt hd
        rw [← hv] at hvs h1
        have hd16 : d < 16 := dg_lt hd
        have hr8 := (l.getD k 0).toNat_lt
        have hall' : ∀ i, i < k + 1 → (dg (l.getD i 0).toNat).isSome = true := by
          intro i hi
          by_cases e : i = k
          · rw [e, hd]; rfl
          · exact hall i (by omega)
        generalize (l.getD k 0).toNat = c at *
        have hmT : v % T < T := Nat.mod_lt _ (by decide)
        obtain ⟨r, hr⟩ : ∃ r, r = v % T * 16 % T := ⟨_, rfl⟩
        obtain ⟨ov, hov⟩ : ∃ ov, ov = decide (T ≤ v % T * 16) := ⟨_, rfl⟩
        have hr16 : r % 16 = 0 := by rw [hr]; unfold T; omega
        have hnew : r + d = hexV (l.take (k + 1)) % T := by rw [hvs, hr]; unfold T; omega
        have hbig : (decide (T ≤ v) || ov) = decide (T ≤ hexV (l.take (k + 1))) := by
          rw [hvs, hov, Bool.eq_iff_iff, Bool.or_eq_true, decide_eq_true_eq, decide_eq_true_eq, decide_eq_true_eq]
          unfold T
          omega
        rw [← hv]
        generalize hbb : decide (T ≤ v) = bb at *
        have vo : bits .or .u64 (lim r 0 : Int) (d : Int) = (lim (r + d) 0 : Nat) := by
          rw [or_lows _ _ (by have : lim r 0 = r % W64 := by unfold lim; rw [Nat.pow_zero, Nat.div_one]
                              rw [this]; unfold W64; omega) hd16 (lim_lt _ _), (lim_lows r d hr16 hd16).1]
        have hset := ucells_put r (r + d) 0 (by decide) (fun j hj h0 => (lim_lows r d hr16 hd16).2 j (by omega))
        obtain ⟨vm, hvm⟩ : ∃ vm, vm = v % T := ⟨_, rfl⟩
        rw [← hvm] at h1
        have g0 : Blk (setIt wr (w.heap.size + 1 + 1) s (k + 1)) w.heap.size 62 (ucells 0) := h0.setIt (by omega)
        have g1 : Blk (setIt wr (w.heap.size + 1 + 1) s (k + 1)) (w.heap.size + 1) 62 (ucells vm) := h1.setIt (by omega)
        have gi : It (setIt wr (w.heap.size + 1 + 1) s (k + 1)) (w.heap.size + 1 + 1) s (k + 1) := hi.set (k + 1)
        have gb : Below w.heap.size w (setIt wr (w.heap.size + 1 + 1) s (k + 1)) := below_setIt hb (by omega)
        have pos0 := hi.posn
        have F := Lib.hid (And.intro hd (And.intro hr (And.intro hov (And.intro hnew (And.intro hbig (And.intro hset (And.intro hvm hall')))))))
        have P0 := Lib.hid pos0
        clear hd hr hov hnew hbig hset hvm hall' hall hik hi h0 h1 hb hv hvs hr16 hbb pos0
        have c1 := clf g1
        have H := Lib.hid (And.intro gi (And.intro g0 (And.intro g1 gb))); clear gi g0 g1 gb
        generalize setIt wr (w.heap.size + 1 + 1) s (k + 1) = wi at *
        go_wp2_with fail
        refine (uDigit_is c (by omega) d F.out.1 _).mono ?_
        rintro e w' ⟨rfl, rfl⟩
        go_wp2_with fail
        refine (shl4 vm r ov (by rw [F.out.2.2.2.2.2.2.1]; exact hmT) (by rw [F.out.2.2.2.2.2.2.1]; exact F.out.2.1) (by rw [F.out.2.2.2.2.2.2.1]; exact F.out.2.2.1) _).mono ?_
        rintro e w2 ⟨rfl, hb2⟩
        simp only [uval]
        obtain ⟨gi, g0, g1, gb⟩ := H.out
        have i2 := gi.calls hb2; have k0 := g0.calls hb2; have k1 := g1.calls hb2; have kb := bt gb hb2
        clear gi g0 g1 gb hb2 c1 H
        have c1 := clf k1
        have H := Lib.hid (And.intro i2 (And.intro k0 (And.intro k1 kb))); clear i2 k0 k1 kb
        cases bb
        all_goals
          go_wp2
          obtain ⟨gi, g0, g1, gb⟩ := H.out
          go_roundw
          case rel =>
            refine ⟨k + 1, by omega, ?_, F.out.2.2.2.2.2.2.2, (gi.fillFar (b := w.heap.size + 1) (n := r) (by omega)).far (by omega) _, (g0.fillFar (b := w.heap.size + 1) (n := r) (by omega)).far (by omega) _, ((g1.fillAt (n := r)).set_ 0 _).to (F.out.2.2.2.2.2.1.trans (by rw [F.out.2.2.2.1])), (fill_below (n := r) (b := w.heap.size + 1) gb (by omega)).setCell (by simp) _⟩
            rw [← F.out.2.2.2.2.1]
            rfl
          case measure =>
            have hp := ((gi.fillFar (b := w.heap.size + 1) (n := r) (by omega)).far (b := w.heap.size + 1) (i := 0) (by omega) (.int .u64 (lim (r + d) 0))).posn
            unfold fillW at hp
            rw [hp, P0.out]
            omega
    · obtain rfl : k = l.length := by omega
      have hi' := hi
      rw [HS.out.1] at hi'
      have hn := fun ty => next_fin (P := Tryd.prog) hi' ty
      have hallD : allD l = true := (allD_at l).2 hall
      rw [List.take_length] at h1
      rw [List.take_length]
      have hres : hexR l = if T ≤ hexV l then (0, 3) else (hexV l, 0) := by
        unfold hexR
        rw [if_neg (by rintro (h | h); exact HS.out.2 h; rw [hallD] at h; cases h)]
      generalize hvv : hexV l = v at *
      have c0 := clf h0
      by_cases hbig : T ≤ v
      · have hd1 : decide (T ≤ v) = true := by simpa using hbig
        rw [hd1]
        rw [if_pos hbig] at hres
        have H := Lib.hid (And.intro hb hres); clear hi hi' h0 h1 hb hall hallD hres hd1 hbig hvv
        go_wp2
        refine bodyPost_ret (v := .tuple #[uval 0, .int .i64 3]) ?_ rfl ⟨by rw [H.out.2], ?_⟩
        · simp [results, Tryd.results60, go_sem, uval_zero0, c0]
        · exact (((H.out.1.setCell (by simp) _).setCell (by simp) _).setCell (by simp) _).setCell (by simp) _
      · have hd1 : decide (T ≤ v) = false := by simpa using hbig
        rw [hd1]
        rw [if_neg hbig] at hres
        rw [Nat.mod_eq_of_lt (by omega)] at h1
        have c1 := clf h1
        have H := Lib.hid (And.intro hb hres); clear hi hi' h0 h1 hb hall hallD hres hd1 hbig hvv
        go_wp2
        refine bodyPost_ret (v := .tuple #[uval v, .int .i64 0]) ?_ rfl ⟨by rw [H.out.2], belowFill H.out.1 (by omega)⟩
        simp [results, Tryd.results60, go_sem, uval, c0]
end Go.Proofs.YtfebknplkbeblaaDoor
