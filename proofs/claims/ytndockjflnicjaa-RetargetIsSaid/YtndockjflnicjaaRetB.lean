/- retarget.all; a slice of seven truths. -/
import Derived.Test.YtndockjflnicjaaRetA
import Derived.Test.YtndockjflnicjaaU256b
namespace Go.Proofs.Ytndockjflnicjaa
open Go.RowKit
set_option linter.unusedVariables false
theorem bslice_run (b0 b1 b2 b3 b4 b5 b6 : Bool) (w : World) : (Instr.buildSlice 68 7 #[(0, .bool b0), (1, .bool b1), (2, .bool b2), (3, .bool b3), (4, .bool b4), (5, .bool b5), (6, .bool b6)]).run Try.prog w =
    .ok (.slice (some ⟨w.heap.size, 0, none⟩) 7 7) (w.alloc (.cells #[.bool b0, .bool b1, .bool b2, .bool b3, .bool b4, .bool b5, .bool b6] 4)) := by
  obtain ⟨i, hi⟩ := Option.isSome_iff_exists.1 (show (Try.prog.info? 4).isSome = true by kernel_rfl)
  have h1 : i.size = 1 := by
    have : (Try.prog.info? 4).map (·.size) = some 1 := by kernel_rfl
    rw [hi] at this
    simpa using this
  unfold Instr.buildSlice
  simp [run_underlying Try.underlying68, go_sem, sizeOf, typeInfo, hi, h1, Try.zeroValue4, Instr.fill, Value.cells, newRow]
def bcells (bs : List Bool) : Array Value := (bs.map Value.bool).toArray
theorem bcells_at (bs : List Bool) (k : Nat) (h : k < bs.length) : (bcells bs)[k]? = some (.bool (bs.getD k false)) := by
  simp [bcells, List.getD, List.getElem?_eq_getElem h]
theorem all_split (bs : List Bool) (k : Nat) : (bs.drop k).all id = (if k < bs.length then bs.getD k false && (bs.drop (k + 1)).all id else true) := by
  by_cases h : k < bs.length
  · rw [if_pos h, List.drop_eq_getElem_cons h, List.all_cons]
    simp [List.getD, List.getElem?_eq_getElem h]
  · rw [if_neg h, List.drop_eq_nil_of_le (by omega)]; rfl
set_option maxRecDepth 100000 in
set_option maxHeartbeats 400000 in
theorem All_any (bs : List Bool) (n g : Nat) (hn : bs.length = n) (hn2 : n ≤ 1000) (w : World) (hb : Blk w g 4 (bcells bs)) :
    Calls Try.prog 27 #[.slice (some ⟨g, 0, none⟩) n n] w fun e w' => e = .returned (.bool (bs.all id)) ∧ Below w.heap.size w w' := by
  have HB := Lib.hid (And.intro hb hn); clear hb hn
  obtain ⟨r, hr⟩ : ∃ r, r = bs.all id := ⟨_, rfl⟩
  rw [← hr]
  have HR := Lib.hid hr; clear hr
  go_enter Try.func27, Try.ntmps27
  go_wp2
  go_loopw [7] (fun i wr => ∃ k : Nat, k ≤ n ∧ i = .int .i64 k ∧ (bs.drop k).all id = r ∧ w = wr) (fun i _ => n - (intOf i).toNat)
  case atStart => exact ⟨0, by omega, rfl, by rw [HR.out]; rfl, rfl⟩
  case round =>
    obtain ⟨k, hk, rfl, hd, rfl⟩ := hrel
    rw [all_split, HB.out.2] at hd
    by_cases hlt : k < n
    · rw [if_pos hlt] at hd
      have c1 := blk_get HB.out.1 k _ (bcells_at bs k (by rw [HB.out.2]; exact hlt))
      generalize hb : bs.getD k false = b at *
      have hx1 : IntKind.i64.wrap ((k : Int) + 1) = ((k + 1 : Nat) : Int) := by simp [IntKind.wrap, IntKind.signed, IntKind.bits]; omega
      cases b
      · obtain rfl : r = false := by rw [← hd]; rfl
        clear hd hb
        go_wp2
        go_ret
        exact ⟨rfl, Below.refl _ _⟩
      · rw [Bool.true_and] at hd
        have HD := Lib.hid hd; clear hd hb
        obtain ⟨k1, hk1⟩ : ∃ k1, k1 = k + 1 := ⟨_, rfl⟩
        rw [← hk1] at hx1
        have HK := Lib.hid hk1; clear hk1
        go_wp2
        go_roundw
        case rel => exact ⟨k1, by have := HK.out; omega, rfl, by rw [HK.out]; exact HD.out, by trivial⟩
        case measure => have := HK.out; simp [intOf]; omega
    · rw [if_neg hlt] at hd
      subst hd
      go_wp2
      go_ret
      exact ⟨rfl, Below.refl _ _⟩
end Go.Proofs.Ytndockjflnicjaa
