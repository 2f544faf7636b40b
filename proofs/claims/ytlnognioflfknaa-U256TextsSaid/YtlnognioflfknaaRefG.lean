/- The document's Hex. -/
import Derived.Test.YtlnognioflfknaaRefF
import Derived.Test.YtlnognioflfknaaLaw01Back
import Derived.Laws.AppendOwn
namespace Go.Proofs.Ytlnognioflfknaa
open Go.RowKit
set_option linter.unusedVariables false

/-- 'append(v, c)' where v is the call's own row of bytes. -/
theorem wl_app1 {P : Program} {w : World} {ops : Array Oper} {rest : List Oper} {o : Oper} {a : Act} {Q : Exit → Act → World → Prop} {base : Nat} {e : TypeId} {v : Value} {n : Nat} {xs : List UInt8} (hown : w.ownsRow base e 1 v n (xs.map fun c => Value.int .u8 (c.toNat : Int)))
    (hgd : o.guard = none) (s x : Operand) (t : TypeId) (ho : o.op = .call { callee := .builtin .append, args := #[s, x], argTypes := #[t, t] }) (ht : P.underlying t = some (.slice e)) (i : TypeInfo) (hi : P.info? e = some i) (hz : i.zero = some (.int .u8 0)) (h1 : i.size = 1) (hby : i.bytes = 1)
    (hs : a.eval s = v) (g c : Nat) (ch : UInt8) (hx : a.eval x = .slice (some ⟨g, 0, none⟩) 1 c) (hc : w.cell? ⟨g, 0, none⟩ = some (.int .u8 ch.toNat)) (hn : n + 1 ≤ 140737488355328) (hbase : base ≤ w.heap.size)
    (k : ∀ v' w', w'.ownsRow base e 1 v' (n + 1) ((xs ++ [ch]).map fun c => Value.int .u8 (c.toNat : Int)) → w.grownBy w' v.ownBlock → ¬ v' = .slice none 0 0 → wpList P ops Q rest (a.put o.dst v') w') : wpList P ops Q (o :: rest) a w := by
  refine wpList_append_own w hgd s x t ho base e i (.int .u8 0) 1 1 ht hi hz h1 hby rfl (by omega) v n _ hs hown ⟨g, 0, none⟩ 1 c [Value.int .u8 (ch.toNat : Int)] hx rfl (fun j u hu => ?_) (fun u hu => ?_) (by unfold maxLen; omega) (by omega) hbase fun v' w' h2 h3 h4 => ?_
  · match j with
    | 0 => injection hu with hu; subst hu; exact hc
    | j + 1 => cases hu
  · obtain rfl := List.mem_singleton.1 hu
    rfl
  · refine k v' w' (by rw [List.map_append]; exact h2) h3 fun h5 => by have := (h4.1 h5).2; omega
theorem Blk.grown1 {w w' : World} {g : Nat} {t : TypeId} {cs : Array Value} {row : Option Nat} (h : Blk w g t cs) (hg : w.grownBy w' row) (hne : some g ≠ row) : Blk w' g t cs := (hg.block g h.lt hne).trans h
theorem below_grown1 {w0 w w' : World} {B : Nat} {row : Option Nat} (h : Below B w0 w) (hg : w.grownBy w' row) (hB : B ≤ w.heap.size) (hr : ∀ k, row = some k → B ≤ k) : Below B w0 w' :=
  h.trans ⟨hg.os, hg.tape, hg.output, hg.size, fun k hk => hg.block k (by omega) (fun e => by have := hr k e.symm; omega)⟩
theorem own_is {w : World} {base : Nat} {e : TypeId} {v : Value} {n : Nat} {xs : List Value} (h : w.ownsRow base e 1 v n xs) : ∃ a c, v = .slice a n c := by
  obtain ⟨_, ⟨rfl, rfl⟩ | ⟨g, cap, _, rfl, _⟩⟩ := h
  · exact ⟨_, _, rfl⟩
  · exact ⟨_, _, rfl⟩
theorem own_cells {w : World} {base : Nat} {e : TypeId} {v : Value} {n : Nat} {l : List UInt8} (h : w.ownsRow base e 1 v n (l.map fun c => Value.int .u8 (c.toNat : Int))) (h0 : l ≠ []) :
    ∃ g cap, v = .slice (some ⟨g, 0, none⟩) n cap ∧ l.length = n ∧ ∀ i, i < n → w.cell? ⟨g, i, none⟩ = some (.int .u8 (l.getD i 0).toNat) := by
  obtain ⟨hl, h⟩ := h
  rw [List.length_map, Nat.mul_one] at hl
  rcases h with ⟨_, rfl⟩ | ⟨g, cap, cur, rfl, _, hb, _, _, _, ht⟩
  · exact absurd (List.length_eq_zero_iff.1 hl) h0
  · refine ⟨g, cap, rfl, hl, fun i hi => blk_get hb i _ ?_⟩
    have e : (cur.toList.take (n * 1))[i]? = some (.int .u8 (l.getD i 0).toNat) := by rw [ht]; simp [hl, hi]
    rw [List.getElem?_take] at e
    split at e
    · simpa using e
    · cases e
/-- The digits written when k are left. -/
def hexO (m k : Nat) : List UInt8 := if m / 16 ^ k = 0 ∧ k ≠ 0 then [] else hexB (m / 16 ^ k) (hexLen (m / 16 ^ k))
theorem bl_16 (M : Nat) (h : M / 16 ≠ 0) : bl M = 4 + bl (M / 16) := by
  rw [bl_half M (by omega), bl_half (M / 2) (by omega), bl_half (M / 2 / 2) (by omega), bl_half (M / 2 / 2 / 2) (by omega), show M / 2 / 2 / 2 / 2 = M / 16 by omega]
  omega
theorem hexB_snoc (M L : Nat) : hexB M (L + 1) = hexB (M / 16) L ++ [hx (M % 16)] := by
  unfold hexB
  rw [List.range_succ, List.map_append]
  congr 1
  · refine List.map_congr_left fun i hi => ?_
    have hi := List.mem_range.1 hi
    rw [show L + 1 - 1 - i = (L - 1 - i) + 1 by omega, Nat.pow_succ', Nat.div_div_eq_div_mul]
  · simp
theorem hexLen_16 (M : Nat) (h : M / 16 ≠ 0) : hexLen M = hexLen (M / 16) + 1 := by
  unfold hexLen
  rw [if_neg (by omega), if_neg h, bl_16 M h]
  omega
theorem hexLen_1 (M : Nat) (h : M / 16 = 0) : hexLen M = 1 := by
  unfold hexLen
  split
  · rfl
  · have h1 : bl M ≤ 4 := (bl_lt M 4).2 (by omega)
    have h2 : ¬ bl M ≤ 0 := by rw [bl_lt]; omega
    omega
theorem hexO_succ (m k : Nat) : hexO m (k + 1) = if m / 16 ^ k / 16 = 0 then [] else hexB (m / 16 ^ k / 16) (hexLen (m / 16 ^ k / 16)) := by
  have e : m / 16 ^ (k + 1) = m / 16 ^ k / 16 := by rw [Nat.pow_succ, Nat.div_div_eq_div_mul]
  unfold hexO
  rw [e]
  by_cases h1 : m / 16 ^ k / 16 = 0
  · rw [if_pos ⟨h1, by omega⟩, if_pos h1]
  · rw [if_neg (fun hh => h1 hh.1), if_neg h1]
theorem hexO_at (m k : Nat) : hexO m k = if m / 16 ^ k = 0 ∧ k ≠ 0 then [] else hexB (m / 16 ^ k) (hexLen (m / 16 ^ k)) := rfl
theorem hexO_go (m k : Nat) (h : m / 16 ^ k % 16 ≠ 0 ∨ 0 < (hexO m (k + 1)).length ∨ k = 0) : hexO m k = hexO m (k + 1) ++ [hx (m / 16 ^ k % 16)] := by
  rw [hexO_succ] at *
  rw [hexO_at]
  generalize m / 16 ^ k = M at *
  by_cases h1 : M / 16 = 0
  · rw [if_pos h1] at *
    rw [if_neg (by rintro ⟨h2, h3⟩; simp at h; omega), hexLen_1 M h1, hexB_snoc]
    rfl
  · rw [if_neg h1, if_neg (by omega), hexLen_16 M h1, hexB_snoc]
theorem hexO_stay (m k : Nat) (h0 : m / 16 ^ k % 16 = 0) (h1 : (hexO m (k + 1)).length = 0) (hk : k ≠ 0) : hexO m k = hexO m (k + 1) := by
  rw [hexO_succ] at *
  rw [hexO_at]
  generalize m / 16 ^ k = M at *
  by_cases h3 : M / 16 = 0
  · rw [if_pos ⟨by omega, hk⟩, if_pos h3]
  · rw [if_neg h3] at h1
    have := hexLen_pos (M / 16)
    simp [hexB] at h1
    omega
theorem hexO_full (m : Nat) : hexO m 0 = hexB m (hexLen m) := by
  unfold hexO
  rw [if_neg (by simp), Nat.pow_zero, Nat.div_one]
theorem hexO_none (m : Nat) (h : m < T) : hexO m 64 = [] := by
  unfold hexO
  rw [if_pos ⟨Nat.div_eq_of_lt h, by decide⟩]
theorem hexO_le (m k : Nat) (h : m < T) : (hexO m k).length ≤ 64 := by
  unfold hexO
  split
  · simp
  · simp only [hexB, List.length_map, List.length_range]
    exact hexLen_le _ (Nat.lt_of_le_of_lt (Nat.div_le_self _ _) h)

set_option maxRecDepth 100000 in
set_option maxHeartbeats 1000000 in
theorem RHex_any (m : Nat) (w : World) (hm : m < T) :
    Calls Try.prog 34 #[uval m] w fun e w' => e = .returned (.string (bstr (hexB m (hexLen m)))) ∧ Below w.heap.size w w' := by
  unfold uval
  go_enter Try.func34, Try.ntmps34
  go_wp2
  obtain ⟨i0, hi, hz0, hz1, hz2⟩ := info_parts (show (Try.prog.info? 5).map (fun i => (i.zero, i.size, i.bytes)) = some (some (.int .u8 0), 1, 1) by kernel_rfl)
  have I := Lib.hid (And.intro hi (And.intro hz0 (And.intro hz1 hz2))); clear hi hz0 hz1 hz2
  go_loopw [4, 5] (fun v i wr => ∃ k : Nat, k ≤ 64 ∧ i = .int .i64 (4 * (k : Int) - 4) ∧ ∃ n : Nat, n = (hexO m k).length ∧ Blk wr w.heap.size 24 (ucells m) ∧ wr.ownsRow (w.heap.size + 1) 5 1 v n ((hexO m k).map fun c => Value.int .u8 (c.toNat : Int)) ∧ Below w.heap.size w wr) (fun v i _ => (intOf i + 4).toNat)
  case atStart =>
    refine ⟨64, by omega, rfl, 0, by rw [hexO_none m hm]; rfl, Blk.newAt _ _ _ rfl, ?_, ba (Below.refl _ _) _⟩
    rw [hexO_none m hm]
    exact World.ownsRow_nil _ _ _ _
  case round =>
    obtain ⟨k, hk, rfl, n, hn, h1, ho, hb⟩ := hrel
    by_cases hk0 : k = 0
    · subst hk0
      rw [hexO_full] at ho hn
      have hpos := hexLen_pos m
      obtain ⟨g, cap, rfl, hl, hcs⟩ := own_cells ho (fun h => by rw [h] at hn; have : (hexB m (hexLen m)).length = hexLen m := by simp [hexB]
                                                                 rw [h] at this; simp at this; omega)
      have hcv := run_convert_bytes_arg (P := Try.prog) wr 45 5 Try.underlying45 Try.underlying5 g 0 n cap ((hexB m (hexLen m)).map fun c => (c.toNat : Int)) (by simp [hl]) (fun i hi => by
        have hi' : i < n := by simpa [hl] using hi
        rw [Nat.zero_add, hcs i hi']
        simp [List.getD, hl, hi']) 9 Try.underlying9
      rw [strOf_u8] at hcv
      have H := Lib.hid (And.intro h1 (And.intro ho hb)); clear h1 ho hb hcs hl hn
      go_wp2
      go_ret
      exact ⟨ret_str rfl, H.out.2.2⟩
    · obtain ⟨k, rfl⟩ : ∃ j, k = j + 1 := ⟨k - 1, by omega⟩
      obtain ⟨q, hq⟩ : ∃ q, q = k / 16 := ⟨_, rfl⟩
      obtain ⟨s, hs⟩ : ∃ s, s = 4 * (k % 16) := ⟨_, rfl⟩
      have e1 : 4 * ((k + 1 : Nat) : Int) - 4 = ((4 * k : Nat) : Int) := by omega
      have e2 : ((4 * k : Nat) : Int) / 64 = (q : Int) := by omega
      have e3 : ((4 * k : Nat) : Int) % 64 = (s : Int) := by omega
      obtain ⟨K, hK⟩ : ∃ K, K = 4 * k := ⟨_, rfl⟩
      rw [e1]
      rw [← hK] at e2 e3 ⊢
      have hK256 : (K : Int) < 256 := by omega
      have hq4 : q < 4 := by omega
      have hq4' : (q : Int) < 4 := by omega
      have hs64 : (s : Int) < 64 := by omega
      have c1 := blk_get h1 q _ (ucells_at m q hq4)
      obtain ⟨d, hd, hd16, hdl⟩ := hexDigit m k hm (by omega)
      rw [← hq, ← hs] at hd
      have hix : ∀ h, (⟨#[48, 49, 50, 51, 52, 53, 54, 55, 56, 57, 97, 98, 99, 100, 101, 102]⟩ : ByteArray)[d]'h = hx d := hx_at d (by omega)
      obtain ⟨va, vc, rfl⟩ := own_is ho
      have hx16 := hexO_le m (k + 1) hm
      have X := Lib.hid (And.intro hn (And.intro hx16 (And.intro hdl hK)))
      have H := Lib.hid (And.intro h1 (And.intro ho hb)); clear h1 ho hb hx16 e1 hq hs hn hdl hK
      rcases (show d ≠ 0 ∨ (d = 0 ∧ 0 < n) ∨ (d = 0 ∧ n = 0 ∧ k = 0) ∨ (d = 0 ∧ n = 0 ∧ k ≠ 0) from by omega) with hc | ⟨rfl, hc⟩ | ⟨rfl, rfl, rfl⟩ | ⟨rfl, rfl, hc⟩
      · have hc' : ¬ (d : Int) = 0 := by omega
        have hlt2 : w.heap.size < wr.heap.size := H.out.1.lt
        go_wp2_with (at_builtin; refine wl_app1 (H.out.2.1.alloc _) rfl _ _ 45 rfl Try.underlying45 i0 I.out.1 I.out.2.1 I.out.2.2.1 I.out.2.2.2 rfl wr.heap.size 1 (hx d) rfl (by rw [(Blk.new wr _ _).cell]; rfl) (by have := X.out.2.1; have := X.out.1; omega) (by simp; omega) ?_)
        intro v' w2 ho hg hnil
        have B1 := (H.out.1.alloc (.cells #[.int .u8 (hx d).toNat] 5)).grown1 hg (by have := (H.out.2.1.lt); intro e; have := (this _ e.symm).1; omega)
        have BB := below_grown1 (ba H.out.2.2 (.cells #[.int .u8 (hx d).toNat] 5)) hg (by simp; omega) (by intro k hk; have := (H.out.2.1.lt _ hk).1; omega)
        have G := Lib.hid (And.intro ho (And.intro B1 BB)); clear ho B1 BB hg hnil
        go_wp2
        go_roundw
        case rel =>
          have e := hexO_go m k (.inl (by rw [← X.out.2.2.1]; exact hc))
          rw [← X.out.2.2.1] at e
          refine ⟨k, by omega, by have := X.out.2.2.2; go_num, n + 1, ?_, G.out.2.1, ?_, G.out.2.2⟩
          · rw [e, List.length_append, ← X.out.1]; rfl
          · rw [e, List.map_append]; exact G.out.1
        case measure => simp [intOf]; try omega
      · have hc' : (0 : Int) < (n : Int) := by omega
        have hlt2 : w.heap.size < wr.heap.size := H.out.1.lt
        go_wp2_with (at_builtin; refine wl_app1 (H.out.2.1.alloc _) rfl _ _ 45 rfl Try.underlying45 i0 I.out.1 I.out.2.1 I.out.2.2.1 I.out.2.2.2 rfl wr.heap.size 1 (hx 0) rfl (by rw [(Blk.new wr _ _).cell]; rfl) (by have := X.out.2.1; have := X.out.1; omega) (by simp; omega) ?_)
        intro v' w2 ho hg hnil
        have B1 := (H.out.1.alloc (.cells #[.int .u8 (hx 0).toNat] 5)).grown1 hg (by have := (H.out.2.1.lt); intro e; have := (this _ e.symm).1; omega)
        have BB := below_grown1 (ba H.out.2.2 (.cells #[.int .u8 (hx 0).toNat] 5)) hg (by simp; omega) (by intro k hk; have := (H.out.2.1.lt _ hk).1; omega)
        have G := Lib.hid (And.intro ho (And.intro B1 BB)); clear ho B1 BB hg hnil
        go_wp2
        go_roundw
        case rel =>
          have e := hexO_go m k (.inr (.inl (by rw [← X.out.1]; exact hc)))
          rw [← X.out.2.2.1] at e
          refine ⟨k, by omega, by have := X.out.2.2.2; go_num, n + 1, ?_, G.out.2.1, ?_, G.out.2.2⟩
          · rw [e, List.length_append, ← X.out.1]; rfl
          · rw [e, List.map_append]; exact G.out.1
        case measure => simp [intOf]; try omega
      · obtain rfl : K = 0 := X.out.2.2.2
        obtain rfl : q = 0 := by omega
        obtain rfl : s = 0 := by omega
        have hd2 : bits .and .u64 (lim m 0 : Int) 15 = 0 := by simpa using hd
        have hlt2 : w.heap.size < wr.heap.size := H.out.1.lt
        go_wp2_with (at_builtin; refine wl_app1 (H.out.2.1.alloc _) rfl _ _ 45 rfl Try.underlying45 i0 I.out.1 I.out.2.1 I.out.2.2.1 I.out.2.2.2 rfl wr.heap.size 1 (hx 0) rfl (by rw [(Blk.new wr _ _).cell]; rfl) (by have := X.out.2.1; have := X.out.1; omega) (by simp; omega) ?_)
        intro v' w2 ho hg hnil
        have B1 := (H.out.1.alloc (.cells #[.int .u8 (hx 0).toNat] 5)).grown1 hg (by have := (H.out.2.1.lt); intro e; have := (this _ e.symm).1; omega)
        have BB := below_grown1 (ba H.out.2.2 (.cells #[.int .u8 (hx 0).toNat] 5)) hg (by simp; omega) (by intro k hk; have := (H.out.2.1.lt _ hk).1; omega)
        have G := Lib.hid (And.intro ho (And.intro B1 BB)); clear ho B1 BB hg hnil
        go_wp2
        go_roundw
        case rel =>
          have e := hexO_go m 0 (.inr (.inr rfl))
          rw [← X.out.2.2.1] at e
          refine ⟨0, by omega, by have := X.out.2.2.2; go_num, 0 + 1, ?_, G.out.2.1, ?_, G.out.2.2⟩
          · rw [e, List.length_append, ← X.out.1]; rfl
          · rw [e, List.map_append]; exact G.out.1
        case measure => simp [intOf]; try omega
      · have hc' : ¬ (K : Int) = 0 := by have := X.out.2.2.2; omega
        go_wp2
        go_roundw
        case rel =>
          refine ⟨k, by omega, by have := X.out.2.2.2; go_num, 0, ?_, H.out.1, ?_, H.out.2.2⟩
          · rw [hexO_stay m k X.out.2.2.1.symm X.out.1.symm hc]; exact X.out.1
          · rw [hexO_stay m k X.out.2.2.1.symm X.out.1.symm hc]; exact H.out.2.1
        case measure => simp [intOf]; try omega
end Go.Proofs.Ytlnognioflfknaa
