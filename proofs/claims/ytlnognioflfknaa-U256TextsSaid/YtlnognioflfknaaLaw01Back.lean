/- What is written is read again: the walk of U256Back. -/
import Derived.Test.YtlnognioflfknaaLaw01a
import Derived.Test.YtlnognioflfknaaU256j
namespace Go.Proofs.Ytlnognioflfknaa
open Go.RowKit
set_option linter.unusedVariables false

/-- Digits put together again. -/
theorem digits_back (B m L k : Nat) (hB : 0 < B) (h : m < B ^ L) (hk : k ≤ L) (f : Nat → Nat) (h0 : f 0 = 0) (hs : ∀ k, k < L → f (k + 1) = f k * B + m / B ^ (L - 1 - k) % B) : f k = m / B ^ (L - k) := by
  induction k with
  | zero => rw [h0, Nat.sub_zero, Nat.div_eq_of_lt h]
  | succ k ih =>
    rw [hs k (by omega), ih (by omega), show L - k = (L - 1 - k) + 1 by omega, show L - (k + 1) = L - 1 - k by omega, Nat.pow_succ, ← Nat.div_div_eq_div_mul]
    have := Nat.div_add_mod (m / B ^ (L - 1 - k)) B
    rw [Nat.mul_comm] at this
    omega
theorem fbV_byB (m : Nat) (h : m < T) : fbV (byB m 32) = m := by
  have hl := byB_length m 32
  have key := digits_back 256 m 32 32 (by decide) (by have : (256 : Nat) ^ 32 = T := by decide
                                                      omega) (Nat.le_refl _) (fun k => fbV ((byB m 32).take k)) (by simp [fbV]) (fun k hk => by
    show fbV ((byB m 32).take (k + 1)) = _
    rw [take_snocD _ k (by omega), fbV_snoc, byB_at m 32 k hk]
    simp)
  have e : (byB m 32).take 32 = byB m 32 := List.take_of_length_le (by omega)
  simp only [Nat.sub_self, Nat.pow_zero, Nat.div_one] at key
  rw [← e]
  exact key
theorem hx_dgv (d : Nat) (h : d < 16) : dg (hx d).toNat = some d ∧ (hx d = 48 → d = 0) := by
  have all : ∀ d : Fin 16, dg (hx d.val).toNat = some d.val ∧ (hx d.val = 48 → d.val = 0) := by decide +kernel
  exact all ⟨d, h⟩
theorem hexB_length (m L : Nat) : (hexB m L).length = L := by simp [hexB]
theorem hexB_at (m L i : Nat) (h : i < L) : (hexB m L).getD i 0 = hx (m / 16 ^ (L - 1 - i) % 16) := by simp [hexB, h]
theorem hexV_hexB (m L : Nat) (h : m < 16 ^ L) : hexV (hexB m L) = m := by
  have hl := hexB_length m L
  have key := digits_back 16 m L L (by decide) h (Nat.le_refl _) (fun k => hexV ((hexB m L).take k)) (by simp [hexV]) (fun k hk => by
    show hexV ((hexB m L).take (k + 1)) = _
    rw [take_snocD _ k (by omega), hexV_snoc, hexB_at m L k hk, (hx_dgv _ (Nat.mod_lt _ (by decide))).1]
    rfl)
  have e : (hexB m L).take L = hexB m L := List.take_of_length_le (by omega)
  simp only [Nat.sub_self, Nat.pow_zero, Nat.div_one] at key
  rw [← e]
  exact key
theorem allD_hexB (m L : Nat) : allD (hexB m L) = true := (allD_at _).2 fun i hi => by
  rw [hexB_length] at hi
  rw [hexB_at m L i hi, (hx_dgv _ (Nat.mod_lt _ (by decide))).1]
  rfl
theorem hexLen_lt (m : Nat) : m < 16 ^ hexLen m := by
  unfold hexLen
  by_cases h : m = 0
  · rw [if_pos h, h]; decide
  · rw [if_neg h]
    have h1 : m < 2 ^ bl m := (bl_lt m (bl m)).1 (Nat.le_refl _)
    have h2 : (2 : Nat) ^ bl m ≤ 2 ^ (4 * ((bl m + 3) / 4)) := Nat.pow_le_pow_right (by decide) (by omega)
    rw [Nat.pow_mul] at h2
    have : (2 : Nat) ^ 4 = 16 := rfl
    rw [this] at h2
    omega
theorem hexLen_pos (m : Nat) : 0 < hexLen m := by
  unfold hexLen
  by_cases h : m = 0
  · rw [if_pos h]; decide
  · rw [if_neg h]
    have : ¬ bl m ≤ 0 := by rw [bl_lt]; omega
    omega
theorem hexLen_le (m : Nat) (h : m < T) : hexLen m ≤ 64 := by
  unfold hexLen
  have := (bl_lt m 256).2 h
  split <;> omega
/-- No zero stands ahead. -/
theorem hexB_head (m : Nat) (h : hexLen m ≠ 1) : (hexB m (hexLen m)).getD 0 0 ≠ 48 := by
  have hp := hexLen_pos m
  rw [hexB_at m _ 0 hp, Nat.sub_zero]
  intro e
  have h0 := (hx_dgv _ (Nat.mod_lt _ (by decide))).2 e
  have hlt := hexLen_lt m
  unfold hexLen at *
  by_cases hm : m = 0
  · rw [if_pos hm] at h; exact h rfl
  · rw [if_neg hm] at h h0 hlt hp
    obtain ⟨L, hL⟩ : ∃ L, L = (bl m + 3) / 4 := ⟨_, rfl⟩
    rw [← hL] at h h0 hlt hp
    have hb : ¬ bl m ≤ 4 * (L - 1) := by omega
    rw [bl_lt, Nat.pow_mul, show (2 : Nat) ^ 4 = 16 from rfl] at hb
    have hpw : (16 : Nat) ^ L = 16 ^ (L - 1) * 16 := by rw [← Nat.pow_succ]; congr 1; omega
    have hp16 : 0 < (16 : Nat) ^ (L - 1) := Nat.pow_pos (by decide)
    rw [hpw] at hlt
    have h1 : m / 16 ^ (L - 1) < 16 := Nat.div_lt_of_lt_mul hlt
    rw [Nat.mod_eq_of_lt h1] at h0
    have h2 : 1 ≤ m / 16 ^ (L - 1) := (Nat.le_div_iff_mul_le hp16).2 (by omega)
    omega
theorem hexR_of (l : List UInt8) (m : Nat) (hne : l ≠ []) (ha : allD l = true) (hv : hexV l = m) (hm : m < T) : hexR l = (m, 0) := by
  unfold hexR
  rw [if_neg (by rintro (h | h); exact hne h; rw [ha] at h; cases h), hv, if_neg (by omega)]
theorem ne_nil_of (l : List UInt8) (h : 0 < l.length) : l ≠ [] := by rintro rfl; cases h
theorem hexR_back (m : Nat) (hm : m < T) : hexR (hexB m (hexLen m)) = (m, 0) :=
  hexR_of _ m (ne_nil_of _ (by rw [hexB_length]; exact hexLen_pos m)) (allD_hexB _ _) (hexV_hexB _ _ (hexLen_lt m)) hm
theorem hexR_zeros (m : Nat) (hm : m < T) : hexR (48 :: 48 :: hexB m (hexLen m)) = (m, 0) := by
  refine hexR_of _ m (by simp) ?_ ?_ hm
  · have := allD_hexB m (hexLen m)
    simp only [allD, List.all_cons] at this ⊢
    rw [this]
    rfl
  · refine Eq.trans ?_ (hexV_hexB m _ (hexLen_lt m))
    generalize hexB m (hexLen m) = l
    unfold hexV
    rw [List.foldl_cons, List.foldl_cons]
    rfl
theorem FromHex_is (l : List UInt8) (m : Nat) (h : hexR l = (m, 0)) (w : World) : Calls Try.prog 29 #[.string (bstr l)] w fun e w' => e = .returned (.tuple #[uval m, .int .i64 0]) ∧ Below w.heap.size w w' := by
  have hne : l ≠ [] := by
    rintro rfl
    have : hexR [] = (0, 2) := rfl
    rw [this] at h
    injection h with _ h2
    cases h2
  have hh := FromHex_some l w hne
  rw [h] at hh
  exact hh
theorem FromBytes_is (g c n m : Nat) (l : List UInt8) (w : World) (hn : l.length = n) (hr : Rd w g 0 l) (hg : g < w.heap.size) (hl : n ≤ 32) (hm : fbV l = m) :
    Calls Try.prog 27 #[.slice (some ⟨g, 0, none⟩) n c] w fun e w' => e = .returned (.tuple #[uval m, .int .i64 0]) ∧ Below w.heap.size w w' := by
  subst hn hm
  exact FromBytes_any g 0 c l w hr hg hl
theorem bstr_append (l k : List UInt8) : bstr l ++ bstr k = bstr (l ++ k) := by
  apply ByteArray.ext
  simp [bstr]
theorem bstr_size' (l : List UInt8) : (bstr l).size = l.length := by simp [bstr, ByteArray.size]
theorem u8cells_at' (l : List UInt8) (i : Nat) (h : i < l.length) : (u8cells l)[i]? = some (.int .u8 (l.getD i 0).toNat) := by
  simp [u8cells, h]
theorem Blk.rd {w : World} {g : Nat} {t : TypeId} {l : List UInt8} (h : Blk w g t (u8cells l)) : Rd w g 0 l := fun i hi => by
  rw [Nat.zero_add]
  exact blk_get h i _ (u8cells_at' l i hi)

theorem z32_cells : u8cells (List.replicate 32 0) = #[.int .u8 0, .int .u8 0, .int .u8 0, .int .u8 0, .int .u8 0, .int .u8 0, .int .u8 0, .int .u8 0, .int .u8 0, .int .u8 0, .int .u8 0, .int .u8 0, .int .u8 0, .int .u8 0, .int .u8 0, .int .u8 0, .int .u8 0, .int .u8 0, .int .u8 0, .int .u8 0, .int .u8 0, .int .u8 0, .int .u8 0, .int .u8 0, .int .u8 0, .int .u8 0, .int .u8 0, .int .u8 0, .int .u8 0, .int .u8 0, .int .u8 0, .int .u8 0] := by kernel_rfl
theorem u8cells_size' (l : List UInt8) : (u8cells l).size = l.length := by simp [u8cells]
theorem u8cells_one' (l : List UInt8) : (u8cells l).all (·.oneCell') = true := by simp [u8cells, Value.oneCell']
theorem is32 (l : List UInt8) (hl : l.length = 32) : (Try.prog.info? 53).map (·.size) = some (u8cells l).size := by rw [u8cells_size', hl]; kernel_rfl
theorem below_row {w0 w : World} {B g : Nat} (h : Below B w0 w) (hg : B ≤ g) (c : Array Value) : Below B w0 (w.setRow g c) :=
  h.trans ⟨rfl, rfl, rfl, by simp [World.setRow], fun k hk => by simp [World.setRow, Array.getElem?_modify, show g ≠ k by omega]⟩

set_option maxRecDepth 100000 in
set_option maxHeartbeats 1000000 in
theorem U256Back_walk (m : Nat) (hm : m < T) (w : World) :
    Calls Try.prog 6 #[uval m] w fun e w' => e = .returned (.bool true) ∧ Below w.heap.size w w' := by
  unfold uval
  have q := fun w => eqU m m true hm hm (by simp) w
  obtain ⟨lb, hlb⟩ : ∃ lb, lb = byB m 32 := ⟨_, rfl⟩
  have hl32 : lb.length = 32 := by rw [hlb]; exact byB_length m 32
  obtain ⟨t, ht⟩ : ∃ t, t = hexB m (hexLen m) := ⟨_, rfl⟩
  have F := Lib.hid (And.intro hlb (And.intro hl32 ht)); clear hlb hl32 ht
  go_enter Try.func6, Try.ntmps6
  go_wp2_with fail
  refine (Awake01 _).mono ?_
  rintro e w1 ⟨rfl, hb1⟩
  have b1 := bt (ba (Below.refl _ _) _) hb1
  have q0 : Blk w1 w.heap.size 24 (ucells m) := (Blk.newAt _ _ (ucells m) rfl).calls hb1
  have c0 := cl4 q0
  clear hb1
  go_wp2_with fail
  refine (Ours_any m _).mono ?_
  rintro e w2 ⟨rfl, hb2⟩
  simp only [uval]
  have b2 := bt b1 hb2
  clear hb2 b1 q0 c0
  have i1 := is32 lb F.out.2.1
  have a2 := u8cells_one' lb
  have s0 : (u8cells (List.replicate 32 0)).size = (u8cells lb).size := by rw [u8cells_size', u8cells_size', F.out.2.1]; rfl
  rw [z32_cells] at s0
  go_wp2_with fail
  refine (Bytes_any m _ hm).mono ?_
  rintro e w3 ⟨rfl, hb3⟩
  rw [← F.out.1]
  have x3 : Blk w3 w2.heap.size 26 (ucells m) := (Blk.new w2 _ (ucells m)).calls hb3
  have b3 := bt (ba b2 _) hb3
  clear hb3 b2
  go_wp2_with (with_reducible refine ws_row (Blk.newAt _ _ _ rfl) _ _ _ _ rfl rfl rfl rfl i1 s0 a2 ?_)
  have x4 : Blk _ w2.heap.size 26 (ucells m) := (x3.alloc (.cells (u8cells (List.replicate 32 0)) 53)).rowFar (b := w3.heap.size) (by have := x3.lt; omega) (u8cells lb)
  have y4 : Blk _ w3.heap.size 53 (u8cells lb) := (Blk.newAt w3 53 (u8cells (List.replicate 32 0)) rfl).row (u8cells lb)
  have b4 : Below w.heap.size w _ := below_row (g := w3.heap.size) (ba b3 (.cells (u8cells (List.replicate 32 0)) 53)) b3.size (u8cells lb)
  rw [z32_cells] at x4 y4 b4
  have lx := x3.lt
  generalize World.setRow _ _ _ = w4 at *
  clear x3 b3
  refine (FromBytes_is w3.heap.size 32 32 m lb _ F.out.2.1 y4.rd y4.lt (by omega) (by rw [F.out.1]; exact fbV_byB m hm)).mono ?_
  rintro e w5 ⟨rfl, hb5⟩
  simp only [uval]
  have x5 := x4.calls hb5
  have b5 := bt b4 hb5
  have lx5 := x5.lt
  clear hb5 x4 y4 b4
  have c5 := cl4 x5
  go_wp2_with fail
  refine (Hex_any m _ hm).mono ?_
  rintro e w6 ⟨rfl, hb6⟩
  have x6 := (x5.alloc (.cells (ucells m) 26)).calls hb6
  have y6 : Blk w6 w5.heap.size 26 (ucells m) := (Blk.new w5 _ (ucells m)).calls hb6
  have b6 := bt (ba b5 _) hb6
  clear hb6 x5 b5 c5
  rw [← F.out.2.2]
  go_wp2_with fail
  refine (FromHex_is t m (by rw [F.out.2.2]; exact hexR_back m hm) _).mono ?_
  rintro e w7 ⟨rfl, hb7⟩
  simp only [uval]
  have x7 := x6.calls hb7
  have y7 := y6.calls hb7
  have b7 := bt b6 hb7
  clear hb7 x6 y6 b6
  have hcat : (⟨#[48, 48]⟩ : ByteArray) ++ bstr t = bstr (48 :: 48 :: t) := bstr_append [48, 48] t
  have htl : t.length = hexLen m := by rw [F.out.2.2, hexB_length]
  have htp := hexLen_pos m
  have htl2 := hexLen_le m hm
  have hsz : ¬ 9223372036854775807 < 2 + (bstr t).size := by rw [bstr_size', htl]; omega
  have h1 := hexB_head m
  rw [← F.out.2.2, ← htl] at h1
  have H1 := Lib.hid (And.intro htl (And.intro htp (And.intro htl2 h1))); clear htl htp htl2 h1
  go_wp2_with fail
  refine (FromHex_is (48 :: 48 :: t) m (by rw [F.out.2.2]; exact hexR_zeros m hm) _).mono ?_
  rintro e w8 ⟨rfl, hb8⟩
  clear hcat hsz
  simp only [uval]
  have x8 := (x7.alloc (.cells (ucells m) 26)).calls hb8
  have y8 := (y7.alloc (.cells (ucells m) 26)).calls hb8
  have z8 : Blk w8 w7.heap.size 26 (ucells m) := (Blk.new w7 _ (ucells m)).calls hb8
  have b8 := bt (ba b7 _) hb8
  clear hb8 x7 y7 b7
  have cx := cl4 x8
  have cy := cl4 y8
  have cz := cl4 z8
  have lx := x8.lt
  have ly := y8.lt
  have lz := z8.lt
  have B8 := Lib.hid b8; clear b8 x8 y8 z8
  obtain ⟨n, hn⟩ : ∃ n, n = (bstr t).size := ⟨_, rfl⟩
  have hn1 : n = t.length := hn.trans (bstr_size' t)
  have hn2 : n = hexLen m := hn1.trans H1.out.1
  have hpos : 0 < n := by have := H1.out.2.1; omega
  have hn64 : n ≤ 64 := by have := H1.out.2.2.1; omega
  obtain ⟨c, hc⟩ : ∃ c, c = (t.getD 0 0).toNat := ⟨_, rfl⟩
  have hx0 : ∀ h, ((bstr t)[0]'h).toNat = c := fun h => by
    rw [hc]
    have e1 : (bstr t)[0]'h = t.toArray[0]'(by have := hn.symm; simp [bstr] at h ⊢; omega) := rfl
    have h0 : 0 < t.length := by omega
    rw [e1]
    simp [h0]
  have hc48 : n ≠ 1 → ((c : Int) != 48) = true := fun ho => by
    have h1 := H1.out.2.2.2 (by omega)
    have : c ≠ 48 := fun e => h1 (UInt8.toNat_inj.1 (by rw [← hc, e]; rfl))
    simp; omega
  have hsz := hn.symm
  by_cases ho : n = 1
  · subst ho
    have HX := Lib.hid (And.intro hn (And.intro hn1 hn2)); clear hn hn1 hn2 hc hc48
    go_wp2
    go_ret
    exact ⟨rfl, ba B8.out _⟩
  · have hc4 := hc48 ho
    have hne : ((n : Int) == 1) = false := by simp; omega
    have HX := Lib.hid (And.intro hn (And.intro hn1 hn2)); clear hn hn1 hn2 hc hc48
    go_wp2
    go_ret
    exact ⟨rfl, ba B8.out _⟩
end Go.Proofs.Ytlnognioflfknaa
