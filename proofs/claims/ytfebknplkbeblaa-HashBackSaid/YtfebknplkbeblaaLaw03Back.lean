/- The walk of HashBack. -/
import Derived.Test.YtfebknplkbeblaaLaw03a
namespace Go.Proofs.Ytfebknplkbeblaa
open Go.RowKit
set_option linter.unusedVariables false

theorem zeroH_iff (l : List UInt8) (hl : l.length = 32) : (∀ i, i < 32 → l.getD i 0 = 0) ↔ l = zeroH := by
  constructor
  · intro h
    apply List.ext_getElem (by rw [hl, List.length_replicate])
    intro i h1 h2
    have e := h i (by omega)
    rw [List.getElem_replicate]
    rw [List.getD, List.getElem?_eq_getElem h1] at e
    exact e
  · rintro rfl i hi
    rw [List.getD, List.getElem?_replicate, if_pos hi]
    rfl

set_option maxHeartbeats 1000000 in
theorem Back_walk (l : List UInt8) (hl : l.length = 32) (w : World) :
    Calls Try.prog 3 #[.agg (u8cells l)] w fun e w' => e = .returned (.bool true) ∧ Below w.heap.size w w' := by
  obtain ⟨n, hn⟩ : ∃ n, n = leN l 32 := ⟨_, rfl⟩
  have hnT : n < T := by rw [hn]; exact leN_T l 32 (Nat.le_refl _)
  have hlB : leB n = l := by rw [hn]; exact leB_leN l hl
  obtain ⟨z, hz⟩ : ∃ z, decide (l = zeroH) = z := ⟨_, rfl⟩
  have hz2 : decide (n = 0) = z := by
    rw [← hz, hn]
    congr 1
    rw [eq_iff_iff, leN_zero]
    exact zeroH_iff l hl
  have q1 := fun w => eqH l l true hl hl (by simp) w
  have q2 := fun w => eqU0 n z hnT hz2 w
  have i1 := isH l hl
  have a2 := u8cells_one l
  have s0 : (u8cells zeroH).size = (u8cells l).size := by rw [u8cells_size, u8cells_size, hl]; rfl
  rw [zeroH_cells] at s0
  have cN : ∀ w, Calls Try.prog 8 #[.agg (u8cells l)] w fun e w' => e = .returned (uval n) ∧ Below w.heap.size w w' := fun w => by rw [hn]; exact Number_any l hl w
  have cF : ∀ w, Calls Try.prog 7 #[uval n] w fun e w' => e = .returned (.agg (u8cells l)) ∧ Below w.heap.size w w' := fun w => by
    have h := FromNumber_any n hnT w
    rw [hlB] at h
    exact h
  have cZ := fun w => Zero_any l hl z hz w
  have hsz : (bstr (hexT l)).size = 64 := by rw [bstr_size, hexT_length]
  have HN := Lib.hid (And.intro hn (And.intro hnT (And.intro hlB (And.intro hz (And.intro hz2 hl))))); clear hn hnT hlB hz hz2
  have CN := Lib.hid cN; clear cN
  have CF := Lib.hid cF; clear cF
  have CZ := Lib.hid cZ; clear cZ
  go_enter Try.func3, Try.ntmps3
  go_wp2_with fail
  refine (Awake03 _).mono ?_
  rintro e w1 ⟨rfl, hb1⟩
  have B1 : Blk w1 w.heap.size 23 (u8cells l) := (Blk.newAt w 23 (u8cells l) rfl).calls hb1
  have b1 : Below w.heap.size w w1 := ((Below.refl _ _).alloc (Nat.le_refl _) _).trans (hb1.mono (by simp))
  go_wp2_with (with_reducible refine wl_row B1 _ _ rfl rfl rfl _ _ Try.underlying23 i1 ?_)
  refine (Text_any l hl _).mono ?_
  rintro e w2 ⟨rfl, hb2⟩
  go_wp2_with fail
  refine (Parse_text l hl _).mono ?_
  rintro e w3 ⟨rfl, hb3⟩
  have B3 := (B1.calls hb2).calls hb3
  have b3 := bt (bt b1 hb2) hb3
  go_wp2_with (with_reducible refine ws_row (Blk.newAt _ _ _ rfl) _ _ _ _ rfl rfl rfl rfl i1 s0 a2 ?_)
  have B1' : Blk _ w.heap.size 23 (u8cells l) := (B3.alloc (.cells (u8cells zeroH) 23)).rowFar (b := w3.heap.size) (by have := B3.lt; omega) (u8cells l)
  have B4' : Blk _ w3.heap.size 23 (u8cells l) := (Blk.newAt w3 23 (u8cells zeroH) rfl).row (u8cells l)
  have b4' : Below w.heap.size w _ := below_setRow (g := w3.heap.size) (ba b3 (.cells (u8cells zeroH) 23)) b3.size (u8cells l)
  rw [zeroH_cells] at B1' B4' b4'
  generalize World.setRow _ _ _ = w4 at *
  clear B1 B3 b1 b3 hb1 hb2 hb3
  try simp only [List.append_eq, List.cons_append, List.nil_append]
  refine wp_region_class (fun w' => Blk w' w.heap.size 23 (u8cells l) ∧ Blk w' w3.heap.size 23 (u8cells l) ∧ Below w.heap.size w w') (by kernel_rfl) (by kernel_rfl) ⟨B1', B4', b4'.drew⟩ ?_
  intro Idx hI V hS hcl
  have r1 : ∀ w', (∃ n, w' = V n) → Blk w' w.heap.size 23 (u8cells l) := by rintro _ ⟨n, rfl⟩; exact (hS n).1
  have r4 : ∀ w', (∃ n, w' = V n) → Blk w' w3.heap.size 23 (u8cells l) := by rintro _ ⟨n, rfl⟩; exact (hS n).2.1
  have hcl' : ∀ n w', Below (V n).heap.size (V n) w' → ∃ m, w' = V m := fun n w' hb => hcl w' ⟨(hS n).1.calls hb, (hS n).2.1.calls hb, bt (hS n).2.2 hb⟩
  repeat (first | go_big_quiet_skip | (go_big_quiet_want; first | ((first | with_reducible refine quiet_row _ _ rfl rfl r1 _ _ Try.underlying23 i1 ?_ | with_reducible refine quiet_row _ _ rfl rfl r4 _ _ Try.underlying23 i1 ?_); go_simp; go_big_quiet_on) | (go_big_quiet_op; first | go_big_quiet_on | go_big_quiet_call (first | (go_at_call 8; (with_reducible refine Calls.cls (CN.out _) ?_); intro w' hb; exact hcl' _ w' hb) | (go_at_call 7; (with_reducible refine Calls.cls (CF.out _) ?_); intro w' hb; exact hcl' _ w' hb) | (go_at_call 9; (with_reducible refine Calls.cls (CZ.out _) ?_); intro w' hb; exact hcl' _ w' hb) | (go_at_call 6; (with_reducible refine Calls.cls (Text_any l HN.out.2.2.2.2.2 _) ?_); intro w' hb; exact hcl' _ w' hb)))))
  refine wpQuiet_nil ?_
  rintro _ ⟨nq, rfl⟩
  have hbz := (hS nq).2.2
  go_wp2
  go_ret
  exact ⟨rfl, hbz⟩
end Go.Proofs.Ytfebknplkbeblaa
