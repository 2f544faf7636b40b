/- SHA-256's states: may one be, and the first one. -/
import Derived.Test.YtfebknplkbeblaaDoorShaE
import Derived.Deep.MidRow
namespace Go.Proofs.YtfebknplkbeblaaDoor
open Go.RowKit
set_option linter.unusedVariables false

theorem wl_st {P : Program} {w : World} {g : Nat} {t : TypeId} {cs : Array Value} {ops : Array Oper} {rest : List Oper} {o : Oper} {a : Act} {Q : Exit → Act → World → Prop} (h : Blk w g t cs) (ty : TypeId) (x : Operand) (hgd : o.guard = none) (ho : o.op = .load ty x)
    (hx : a.eval x = .pointer (some ⟨g, 0, none⟩)) (fs : Array Field) (hu : P.underlying ty = some (.struct fs)) (hi : (P.info? ty).map (·.size) = some cs.size)
    (k : wpList P ops Q rest (a.put o.dst (.agg cs)) w) : wpList P ops Q (o :: rest) a w :=
  wpList_load_row hgd ty x ho g hx t cs (0, 0) _ h hu rfl hi k
/-- A state's cells: its words, its rest, its number. -/
def stC (H : List Wd) (v : Value) (n : Nat) : Array Value := (H.map (fun x => Value.int .u32 (wn x)) ++ [v, .int .u64 n]).toArray
theorem stC_lit (a b c d e f g h : Wd) (v : Value) (n : Nat) : stC [a, b, c, d, e, f, g, h] v n = #[.int .u32 (wn a), .int .u32 (wn b), .int .u32 (wn c), .int .u32 (wn d), .int .u32 (wn e), .int .u32 (wn f), .int .u32 (wn g), .int .u32 (wn h), v, .int .u64 n] := rfl
theorem u32c_lit (a b c d e f g h : Wd) : u32c [a, b, c, d, e, f, g, h] = #[.int .u32 (wn a), .int .u32 (wn b), .int .u32 (wn c), .int .u32 (wn d), .int .u32 (wn e), .int .u32 (wn f), .int .u32 (wn g), .int .u32 (wn h)] := rfl
theorem stC_size (H : List Wd) (v : Value) (n : Nat) (h : H.length = 8) : (stC H v n).size = 10 := by simp [stC, h]
theorem stC_one (H : List Wd) (a : Option Addr) (len c n : Nat) : (stC H (.slice a len c) n).all (·.oneCell') = true := by simp [stC, Value.oneCell']
theorem stC_word (H : List Wd) (v : Value) (n i : Nat) (h : H.length = 8) (hi : i < 8) : (stC H v n)[i]? = some (.int .u32 (wn (H.getD i 0))) := by
  have h1 : i < H.length := by omega
  unfold stC
  rw [List.getElem?_toArray, List.getElem?_append_left (by simpa using h1)]
  simp [h1]
theorem stC_rest (H : List Wd) (v : Value) (n : Nat) (h : H.length = 8) : (stC H v n)[8]? = some v := by simp [stC, h]
theorem stC_num (H : List Wd) (v : Value) (n : Nat) (h : H.length = 8) : (stC H v n)[9]? = some (.int .u64 n) := by simp [stC, h]

set_option maxHeartbeats 400000 in
theorem Sane_any (H : List Wd) (hH : H.length = 8) (a : Option Addr) (len c n : Nat) (hn : n < W64) (hlen : len ≤ 9223372036854775807) (b : Bool) (hb : decide (len = n % 64) = b) (w : World) :
    Calls Tryd.prog 25 #[.agg (stC H (.slice a len c) n)] w fun e w' => e = .returned (.bool b) ∧ Below w.heap.size w w' := by
  obtain ⟨x0, x1, x2, x3, x4, x5, x6, x7, rfl⟩ := eight H hH
  rw [stC_lit]
  have hn' : n < 18446744073709551616 := hn
  have hb' : ((len : Int) == ((n : Int) % 64)) = b := by
    rw [← hb, Bool.eq_iff_iff]
    simp
    omega
  have HB := Lib.hid (And.intro hb hn); clear hb hn hH
  go_enter Tryd.func25, Tryd.ntmps25
  go_wp2
  go_ret
  exact ⟨rfl, (Below.refl _ _).alloc (Nat.le_refl _) _⟩

theorem HI_length : HI.length = 8 := rfl
/-- The first state's cells when k words are laid. -/
def startC (k : Nat) : Array Value := ((List.range 8).map (fun i => Value.int .u32 (if i < k then (wn (HI.getD i 0) : Int) else 0)) ++ [Value.slice none 0 0, Value.int .u64 0]).toArray
theorem startC_at (k i : Nat) (hi : i < 8) : ∃ v, (startC k)[i]? = some v := by
  unfold startC
  rw [List.getElem?_toArray, List.getElem?_append_left (by simpa using hi)]
  simp [hi]
theorem startC_set (k : Nat) (h : k < 8) : (startC k).setIfInBounds k (.int .u32 (wn (HI.getD k 0))) = startC (k + 1) := by
  rcases (show k = 0 ∨ k = 1 ∨ k = 2 ∨ k = 3 ∨ k = 4 ∨ k = 5 ∨ k = 6 ∨ k = 7 from by omega) with rfl | rfl | rfl | rfl | rfl | rfl | rfl | rfl <;> rfl
theorem startC_zero : startC 0 = #[.int .u32 0, .int .u32 0, .int .u32 0, .int .u32 0, .int .u32 0, .int .u32 0, .int .u32 0, .int .u32 0, .slice none 0 0, .int .u64 0] := rfl
theorem startC_full : startC 8 = stC HI (.slice none 0 0) 0 := rfl

theorem isSt10 (c : Array Value) (h : c.size = 10) : (Tryd.prog.info? 31).map (·.size) = some c.size := by rw [h]; kernel_rfl
set_option maxRecDepth 100000 in
set_option maxHeartbeats 400000 in
theorem Start_any (w : World) (hL : Laid w) :
    Calls Tryd.prog 16 #[] w fun e w' => e = .returned (.agg (stC HI (.slice none 0 0) 0)) ∧ Below w.heap.size w w' := by
  have HL := Lib.hid hL; clear hL
  go_enter Tryd.func16, Tryd.ntmps16
  go_wp2
  go_loopw [3] (fun i wr => ∃ k : Nat, k ≤ 8 ∧ i = .int .i64 k ∧ Blk wr w.heap.size 31 (startC 0) ∧ Blk wr (w.heap.size + 1) 31 (startC k) ∧ Below w.heap.size w wr) (fun i _ => 8 - (intOf i).toNat)
  case atStart =>
    refine ⟨0, by omega, rfl, ?_, ?_, ?_⟩
    · rw [startC_zero]; exact (Blk.newAt _ _ _ rfl).alloc _
    · rw [startC_zero]; exact Blk.second w _ _ _
    · exact ba (ba (Below.refl _ _) _) _
  case round =>
    obtain ⟨k, hk, rfl, h0, h1, hb⟩ := hrel
    by_cases hlt : k < 8
    · obtain ⟨x, hx⟩ : ∃ x, HI.getD k 0 = x := ⟨_, rfl⟩
      have hLw : Laid wr := HL.out.below hb (Nat.le_refl _)
      obtain ⟨v, hv⟩ := startC_at k k hlt
      have c1 := blk_get h1 k _ hv
      have f1 := h1.frozen k
      have k8 : (k : Int) < 8 := by omega
      have H := Lib.hid (And.intro h0 (And.intro h1 (And.intro hb (And.intro hx hLw)))); clear h0 h1 hb hx hLw hv
      go_wp2_with (go_at_call 20; refine (Initial_any k hlt x H.out.2.2.2.1 _ H.out.2.2.2.2).mono ?_; rintro e w' ⟨rfl, rfl⟩)
      obtain ⟨h0, h1, hb, hx, hLw⟩ := H.out
      go_roundw
      case rel =>
        exact ⟨k + 1, by omega, by go_num, h0.far (by omega) _, (h1.set_ k _).to (by rw [← hx]; exact startC_set k hlt), hb.setCell (by simp) _⟩
      case measure => simp [intOf]; omega
    · obtain rfl : k = 8 := by omega
      rw [startC_full] at h1
      obtain ⟨C, hC⟩ : ∃ C, C = stC HI (.slice none 0 0) 0 := ⟨_, rfl⟩
      rw [← hC] at h1
      have sC : C.size = 10 := by rw [hC]; rfl
      have iC := isSt10 C sC
      have s1 : (startC 0).size = C.size := by rw [sC]; rfl
      have aC : C.all (·.oneCell') = true := by rw [hC]; exact stC_one _ _ _ _ _
      have H := Lib.hid (And.intro h0 (And.intro h1 (And.intro hb hC))); clear h0 h1 hb hC sC
      go_wp2_with (first | with_reducible refine wl_st H.out.2.1 _ _ rfl rfl rfl _ Tryd.underlying31 iC ?_ | with_reducible refine ws_row H.out.1 _ _ _ _ rfl rfl rfl rfl iC s1 aC ?_)
      obtain ⟨h0, h1, hb, hC⟩ := H.out
      refine bodyPost_ret (v := .agg C) ?_ rfl ⟨by rw [hC], setRow_below hb (by omega) _⟩
      exact results_cell_row rfl _ _ _ _ _ (0, 0) _ rfl (h0.row _) Tryd.underlying31 rfl iC
end Go.Proofs.YtfebknplkbeblaaDoor
