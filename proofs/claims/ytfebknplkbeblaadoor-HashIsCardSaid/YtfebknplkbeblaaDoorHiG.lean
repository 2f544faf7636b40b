/- A text as a hash: what hash.Parse comes to of any text; the document's digit and Parse. A region whose order is open and whose operations may be guarded ('&&', '||'): each value is known by what holds of it. -/
import Derived.Test.YtfebknplkbeblaaDoorHiF
import Derived.Laws.RangeAny
import Derived.Test.YtfebknplkbeblaaDoorHiB
import Derived.Deep.MidRow
import Derived.Conc.EventLaws
namespace Go.Proofs.YtfebknplkbeblaaDoor
open Go.RowKit
set_option linter.unusedVariables false
def dgI (c : Nat) : Int := match dg c with | some d => (d : Int) | none => -1
theorem dgI_some {c d : Nat} (h : dg c = some d) : dgI c = d := by unfold dgI; rw [h]
theorem dgI_none {c : Nat} (h : dg c = none) : dgI c = -1 := by unfold dgI; rw [h]
theorem dg_high {r : Nat} (h : 128 ≤ r) : dg r = none := by unfold dg; rw [if_neg (by omega), if_neg (by omega), if_neg (by omega)]
theorem HRDigit_any (c : Nat) (hc : c < 256) (w : World) : Calls Tryd.prog 68 #[.int .u8 c] w fun e w' => e = .returned (.int .i64 (dgI c)) ∧ w' = w := by
  go_enter Tryd.func68, Tryd.ntmps68
  rcases (show c < 48 ∨ (48 ≤ c ∧ c ≤ 57) ∨ (57 < c ∧ c < 65) ∨ (65 ≤ c ∧ c ≤ 70) ∨ (70 < c ∧ c < 97) ∨ (97 ≤ c ∧ c ≤ 102) ∨ 102 < c from by omega) with h1 | h1 | h1 | h1 | h1 | h1 | h1
  · have e : dgI c = -1 := by unfold dgI dg; rw [if_neg (by omega), if_neg (by omega), if_neg (by omega)]
    have E := Lib.hid e; clear e
    go_wp2
    go_ret
    exact ⟨by rw [E.out]; first | rfl | exact ret_int (by omega), rfl⟩
  · have e : dgI c = ((c - 48 : Nat) : Int) := by unfold dgI dg; rw [if_pos (by omega)]
    have E := Lib.hid e; clear e
    go_wp2
    go_ret
    exact ⟨by rw [E.out]; first | rfl | exact ret_int (by omega), rfl⟩
  · have e : dgI c = -1 := by unfold dgI dg; rw [if_neg (by omega), if_neg (by omega), if_neg (by omega)]
    have E := Lib.hid e; clear e
    go_wp2
    go_ret
    exact ⟨by rw [E.out]; first | rfl | exact ret_int (by omega), rfl⟩
  · have e : dgI c = ((c - 55 : Nat) : Int) := by unfold dgI dg; rw [if_neg (by omega), if_neg (by omega), if_pos (by omega)]
    have E := Lib.hid e; clear e
    go_wp2
    go_ret
    exact ⟨by rw [E.out]; first | rfl | exact ret_int (by omega), rfl⟩
  · have e : dgI c = -1 := by unfold dgI dg; rw [if_neg (by omega), if_neg (by omega), if_neg (by omega)]
    have E := Lib.hid e; clear e
    go_wp2
    go_ret
    exact ⟨by rw [E.out]; first | rfl | exact ret_int (by omega), rfl⟩
  · have e : dgI c = ((c - 87 : Nat) : Int) := by unfold dgI dg; rw [if_neg (by omega), if_pos (by omega)]
    have E := Lib.hid e; clear e
    go_wp2
    go_ret
    exact ⟨by rw [E.out]; first | rfl | exact ret_int (by omega), rfl⟩
  · have e : dgI c = -1 := by unfold dgI dg; rw [if_neg (by omega), if_neg (by omega), if_neg (by omega)]
    have E := Lib.hid e; clear e
    go_wp2
    go_ret
    exact ⟨by rw [E.out]; first | rfl | exact ret_int (by omega), rfl⟩
def dgv (c : UInt8) : Nat := (dg c.toNat).getD 0
theorem dgv_lt (c : UInt8) : dgv c < 16 := by
  unfold dgv
  cases h : dg c.toNat with
  | none => simp
  | some d => exact dg_lt h
/-- The hash that 64 digits tell. -/
def hashL (s : List UInt8) : List UInt8 := (List.range 32).map fun j => UInt8.ofNat (dgv (s.getD (62 - 2 * j) 0) * 16 + dgv (s.getD (63 - 2 * j) 0))
theorem hashL_length (s : List UInt8) : (hashL s).length = 32 := by simp [hashL]
theorem hashL_at (s : List UInt8) (j : Nat) (h : j < 32) : ((hashL s).getD j 0).toNat = dgv (s.getD (62 - 2 * j) 0) * 16 + dgv (s.getD (63 - 2 * j) 0) := by
  have h1 := dgv_lt (s.getD (62 - 2 * j) 0)
  have h2 := dgv_lt (s.getD (63 - 2 * j) 0)
  simp only [hashL, List.getD, List.getElem?_map, List.getElem?_range h, Option.map_some, Option.getD_some] at *
  rw [UInt8.toNat_ofNat']
  omega
theorem hdig_hashL (s : List UInt8) (i : Nat) (h : i < 64) : hdig (hashL s) i = dgv (s.getD i 0) := by
  unfold hdig
  have h1 := hashL_at s (31 - i / 2) (by omega)
  have h2 := dgv_lt (s.getD (62 - 2 * (31 - i / 2)) 0)
  have h3 := dgv_lt (s.getD (63 - 2 * (31 - i / 2)) 0)
  rw [h1]
  split
  · have e : 62 - 2 * (31 - i / 2) = i := by omega
    rw [e] at h2 ⊢
    omega
  · have e : 63 - 2 * (31 - i / 2) = i := by omega
    rw [e] at h3 ⊢
    omega
/-- Are all of the first k digits? -/
def hexTo (s : List UInt8) (k : Nat) : Prop := ∀ i, i < k → (dg (s.getD i 0).toNat).isSome = true
def isHex (s : List UInt8) : Bool := s.all fun c => (dg c.toNat).isSome
theorem isHex_iff (s : List UInt8) : isHex s = true ↔ hexTo s s.length := by
  unfold isHex hexTo
  rw [List.all_eq_true]
  constructor
  · intro h i hi
    have := h (s[i]) (List.getElem_mem hi)
    simpa [List.getD, hi] using this
  · intro h c hc
    obtain ⟨i, hi, rfl⟩ := List.mem_iff_getElem.1 hc
    have := h i hi
    simpa [List.getD, hi] using this
def parseL (s : List UInt8) : List UInt8 := if s.length = 64 ∧ isHex s = true then hashL s else zeroH
def parseE (s : List UInt8) : Nat := if s.length = 64 ∧ isHex s = true then 0 else 2
theorem parseL_length (s : List UInt8) : (parseL s).length = 32 := by
  unfold parseL
  split
  · exact hashL_length s
  · rfl
theorem parse_good {s : List UInt8} (h : s.length = 64) (hx : hexTo s 64) : parseL s = hashL s ∧ parseE s = 0 := by
  have : s.length = 64 ∧ isHex s = true := ⟨h, (isHex_iff s).2 (by rw [h]; exact hx)⟩
  unfold parseL parseE
  rw [if_pos this, if_pos this]
  exact ⟨rfl, rfl⟩
theorem parse_bad {s : List UInt8} (h : s.length ≠ 64 ∨ ∃ i, i < s.length ∧ dg (s.getD i 0).toNat = none) : parseL s = zeroH ∧ parseE s = 2 := by
  have : ¬ (s.length = 64 ∧ isHex s = true) := by
    rintro ⟨h1, h2⟩
    rcases h with h | ⟨i, hi, h⟩
    · exact h h1
    · have := (isHex_iff s).1 h2 i hi
      rw [h] at this
      cases this
  unfold parseL parseE
  rw [if_neg this, if_neg this]
  exact ⟨rfl, rfl⟩
theorem next_hex (s : List UInt8) {w' : World} {g k : Nat} (hk : k < s.length) (hi : It w' g (bstr s) k) : ∃ r q, (∀ ty : TypeId, (Instr.next (.pointer (some ⟨g, 0, none⟩)) true ty).run Tryd.prog w' = .ok (.tuple #[.bool true, .int .i64 k, .int .i32 (r : Nat)]) (setIt w' g (bstr s) q)) ∧ r ≤ 2147483647 ∧ dg r = dg (s.getD k 0).toNat ∧ ((dg (s.getD k 0).toNat).isSome = true → q = k + 1) := by
  have h1 : k < (bstr s).size := by rw [bstr_size]; exact hk
  have h2 : (bstr s)[k]'h1 = s.getD k 0 := bstr_at s k h1
  by_cases ha : (s.getD k 0).toNat < 128
  · refine ⟨(s.getD k 0).toNat, k + 1, fun ty => ?_, by omega, rfl, fun _ => rfl⟩
    have h3 := next_one (P := Tryd.prog) hi ty h1 (by rw [h2]; exact ha)
    rw [h2] at h3
    exact h3
  · have h4 := (decode_high (bstr s) k h1 (by rw [h2]; omega)).1
    have e1 : dg (s.getD k 0).toNat = none := dg_high (by omega)
    refine ⟨_, _, fun ty => next_at (P := Tryd.prog) hi ty h1, decode_le _ _, by rw [e1]; exact dg_high h4, fun h => by rw [e1] at h; cases h⟩
theorem hashDigit_no (r : Nat) (hr : r ≤ 2147483647) (h : dg r = none) (w : World) : Calls Tryd.prog 67 #[.int .i32 r] w fun e w' => e = .returned (.tuple #[.int .u8 0, .bool false]) ∧ w' = w := by
  have h2 := hashDigit_any r hr w
  rw [h] at h2
  exact h2
theorem hashDigit_yes (r d : Nat) (hr : r ≤ 2147483647) (h : dg r = some d) (w : World) : Calls Tryd.prog 67 #[.int .i32 r] w fun e w' => e = .returned (.tuple #[.int .u8 d, .bool true]) ∧ w' = w := by
  have h2 := hashDigit_any r hr w
  rw [h] at h2
  exact h2
theorem HRDigit_no (c : Nat) (hc : c < 256) (h : dg c = none) (w : World) : Calls Tryd.prog 68 #[.int .u8 c] w fun e w' => e = .returned (.int .i64 (-1)) ∧ w' = w := by
  have h2 := HRDigit_any c hc w
  rw [dgI_none h] at h2
  exact h2
theorem HRDigit_yes (c d : Nat) (hc : c < 256) (h : dg c = some d) (w : World) : Calls Tryd.prog 68 #[.int .u8 c] w fun e w' => e = .returned (.int .i64 d) ∧ w' = w := by
  have h2 := HRDigit_any c hc w
  rw [dgI_some h] at h2
  exact h2
theorem index_str_at {S : ByteArray} {j : Nat} (h : j < S.size) (w : World) : (Instr.index 9 (.string S) (.int .i64 j)).run Tryd.prog w = .ok (.int .u8 (S[j]'h).toNat) w := by
  have b : (0 : Int) ≤ (j : Int) ∧ (j : Int) < (S.size : Int) := by omega
  simp [Instr.index, run_underlying Tryd.underlying9, asIntOf, b, go_sem, h]
theorem index_bstr (s : List UInt8) (j : Nat) (h : j < s.length) (w : World) : (Instr.index 9 (.string (bstr s)) (.int .i64 j)).run Tryd.prog w = .ok (.int .u8 (s.getD j 0).toNat) w := by
  have h1 : j < (bstr s).size := by rw [bstr_size]; exact h
  rw [index_str_at h1, bstr_at]
theorem readV_even (l : List UInt8) (k : Nat) (h : k < 32) : readV l (2 * k) (31 - k) = 0 := by
  unfold readV
  rw [if_neg (by omega), if_neg (by omega)]
theorem readC_set2 (l : List UInt8) (k v : Nat) (h : k < 32) (hv : v = hdig l (2 * k) * 16 + hdig l (2 * k + 1)) : (readC l (2 * k)).setIfInBounds (31 - k) (.int .u8 v) = readC l (2 * k + 1 + 1) := by
  have a := (readV_step l (2 * k) (by omega)).1
  have b := (readV_step l (2 * k + 1) (by omega)).1
  rw [show 2 * k / 2 = k by omega, readV_even l k h] at a
  rw [show (2 * k + 1) / 2 = k by omega, a] at b
  have s1 := readC_set l (2 * k) (readV l (2 * k + 1) (31 - 2 * k / 2)) (by omega) rfl
  have s2 := readC_set l (2 * k + 1) v (by omega) (by rw [show (2 * k + 1) / 2 = k by omega, b, hv]; omega)
  rw [show 2 * k / 2 = k by omega] at s1
  rw [show (2 * k + 1) / 2 = k by omega, ← s1, Array.setIfInBounds_setIfInBounds] at s2
  exact s2
theorem iz32 : (Tryd.prog.info? 38).map (·.size) = some (#[.int .u8 0, .int .u8 0, .int .u8 0, .int .u8 0, .int .u8 0, .int .u8 0, .int .u8 0, .int .u8 0, .int .u8 0, .int .u8 0, .int .u8 0, .int .u8 0, .int .u8 0, .int .u8 0, .int .u8 0, .int .u8 0, .int .u8 0, .int .u8 0, .int .u8 0, .int .u8 0, .int .u8 0, .int .u8 0, .int .u8 0, .int .u8 0, .int .u8 0, .int .u8 0, .int .u8 0, .int .u8 0, .int .u8 0, .int .u8 0, .int .u8 0, .int .u8 0] : Array Value).size := by kernel_rfl
theorem az32 : (#[.int .u8 0, .int .u8 0, .int .u8 0, .int .u8 0, .int .u8 0, .int .u8 0, .int .u8 0, .int .u8 0, .int .u8 0, .int .u8 0, .int .u8 0, .int .u8 0, .int .u8 0, .int .u8 0, .int .u8 0, .int .u8 0, .int .u8 0, .int .u8 0, .int .u8 0, .int .u8 0, .int .u8 0, .int .u8 0, .int .u8 0, .int .u8 0, .int .u8 0, .int .u8 0, .int .u8 0, .int .u8 0, .int .u8 0, .int .u8 0, .int .u8 0, .int .u8 0] : Array Value).all (·.oneCell') = true := by simp [Value.oneCell']
theorem sz32 : (u8cells zeroH).size = (#[.int .u8 0, .int .u8 0, .int .u8 0, .int .u8 0, .int .u8 0, .int .u8 0, .int .u8 0, .int .u8 0, .int .u8 0, .int .u8 0, .int .u8 0, .int .u8 0, .int .u8 0, .int .u8 0, .int .u8 0, .int .u8 0, .int .u8 0, .int .u8 0, .int .u8 0, .int .u8 0, .int .u8 0, .int .u8 0, .int .u8 0, .int .u8 0, .int .u8 0, .int .u8 0, .int .u8 0, .int .u8 0, .int .u8 0, .int .u8 0, .int .u8 0, .int .u8 0] : Array Value).size := by rfl
theorem zeroH_len : zeroH.length = 32 := rfl
set_option maxRecDepth 100000 in
set_option maxHeartbeats 1000000 in
theorem Parse_any (s : List UInt8) (hs200 : s.length ≤ 200) (w : World) :
    Calls Tryd.prog 42 #[.string (bstr s)] w fun e w' => e = .returned (.tuple #[.agg (u8cells (parseL s)), .int .i64 (parseE s : Nat)]) ∧ Below w.heap.size w w' := by
  have iz := iz32
  have az := az32
  have sz := sz32
  obtain ⟨n, hn⟩ : ∃ n, n = s.length := ⟨_, rfl⟩
  have hsz : (bstr s).size = n := by rw [bstr_size, hn]
  by_cases h64 : n = 64
  · subst h64
    have hie : ∀ w' g (ty : TypeId), It w' g (bstr s) 64 → (Instr.next (.pointer (some ⟨g, 0, none⟩)) true ty).run Tryd.prog w' = .ok (.tuple #[.bool false]) w' := fun w' g ty hi => next_end hi _ (by omega)
    have hnx := fun (w' : World) (g k : Nat) (hk : k < 64) (hi : It w' g (bstr s) k) => next_hex s (by omega : k < s.length) hi
    obtain ⟨S, hS⟩ : ∃ S, S = bstr s := ⟨_, rfl⟩
    rw [← hS] at hie hnx hsz ⊢
    have HI := Lib.hid (And.intro hn (And.intro hie hnx)); clear hn hie hnx hS
    go_enter Tryd.func42, Tryd.ntmps42
    go_wp2
    go_loopw [16] (fun _ wr => ∃ k : Nat, k ≤ 64 ∧ hexTo s k ∧ It wr (w.heap.size + 1 + 1) S k ∧ Blk wr w.heap.size 38 (u8cells zeroH) ∧ Blk wr (w.heap.size + 1) 38 (readC (hashL s) k) ∧ Below w.heap.size w wr) (fun _ wr => 64 - wr.iterPos (w.heap.size + 1 + 1))
    case atStart =>
      refine ⟨0, by omega, fun i hi => by omega, It.newAt _ _ _ (by simp), ?_, ?_, ?_⟩
      · rw [zeroH_cells]; exact ((Blk.newAt _ _ _ rfl).alloc _).alloc _
      · rw [readC_zero, zeroH_cells]; exact (Blk.newAt _ _ _ (by simp)).alloc _
      · exact (((Below.refl _ _).alloc (Nat.le_refl _) _).alloc (by simp) _).alloc (by simp; omega) _
    case round =>
      obtain ⟨k, hk, hx, hi, h0, h1, hb⟩ := hrel
      by_cases hlt : k < 64
      · obtain ⟨r, q, hn1, hr, hdr, hq⟩ := HI.out.2.2 wr (w.heap.size + 1 + 1) k hlt hi
        cases hd : dg (s.getD k 0).toNat with
        | none =>
          rw [hd] at hdr
          have g0 : Blk (setIt wr (w.heap.size + 1 + 1) S q) w.heap.size 38 (u8cells zeroH) := h0.setIt (by omega)
          have gb : Below w.heap.size w (setIt wr (w.heap.size + 1 + 1) S q) := below_setIt hb (by omega)
          have hlv := run_loadVar_row (P := Tryd.prog) _ _ _ _ (#[.int .u8 0, .int .u8 0, .int .u8 0, .int .u8 0, .int .u8 0, .int .u8 0, .int .u8 0, .int .u8 0, .int .u8 0, .int .u8 0, .int .u8 0, .int .u8 0, .int .u8 0, .int .u8 0, .int .u8 0, .int .u8 0, .int .u8 0, .int .u8 0, .int .u8 0, .int .u8 0, .int .u8 0, .int .u8 0, .int .u8 0, .int .u8 0, .int .u8 0, .int .u8 0, .int .u8 0, .int .u8 0, .int .u8 0, .int .u8 0, .int .u8 0, .int .u8 0] : Array Value) (0, 0) _ (g0.row #[.int .u8 0, .int .u8 0, .int .u8 0, .int .u8 0, .int .u8 0, .int .u8 0, .int .u8 0, .int .u8 0, .int .u8 0, .int .u8 0, .int .u8 0, .int .u8 0, .int .u8 0, .int .u8 0, .int .u8 0, .int .u8 0, .int .u8 0, .int .u8 0, .int .u8 0, .int .u8 0, .int .u8 0, .int .u8 0, .int .u8 0, .int .u8 0, .int .u8 0, .int .u8 0, .int .u8 0, .int .u8 0, .int .u8 0, .int .u8 0, .int .u8 0, .int .u8 0]) Tryd.underlying38 rfl iz
          have H := Lib.hid (And.intro g0 (And.intro gb hd)); clear hi h0 h1 hb hx g0 gb hd hq
          generalize setIt wr (w.heap.size + 1 + 1) S q = wi at *
          go_wp2_with (first | (go_at_call 67; refine (hashDigit_no r hr hdr _).mono ?_; rintro e w' ⟨rfl, rfl⟩) | (with_reducible refine ws_row H.out.1 _ _ _ _ rfl rfl rfl rfl iz sz az ?_))
          obtain ⟨g0, gb, hd⟩ := H.out
          have pb := parse_bad (s := s) (.inr ⟨k, by have := HI.out.1; omega, hd⟩)
          refine bodyPost_ret (v := .tuple #[.agg #[.int .u8 0, .int .u8 0, .int .u8 0, .int .u8 0, .int .u8 0, .int .u8 0, .int .u8 0, .int .u8 0, .int .u8 0, .int .u8 0, .int .u8 0, .int .u8 0, .int .u8 0, .int .u8 0, .int .u8 0, .int .u8 0, .int .u8 0, .int .u8 0, .int .u8 0, .int .u8 0, .int .u8 0, .int .u8 0, .int .u8 0, .int .u8 0, .int .u8 0, .int .u8 0, .int .u8 0, .int .u8 0, .int .u8 0, .int .u8 0, .int .u8 0, .int .u8 0], .int .i64 2]) ?_ rfl ⟨by rw [pb.1, pb.2]; rfl, below_setRow gb (by omega) _⟩
          simp [results, Tryd.results42, asAddr, hlv]
        | some d =>
          rw [hd] at hdr hq
          obtain rfl := hq rfl
          have hd16 : d < 16 := dg_lt hd
          have hdg : hdig (hashL s) k = d := by rw [hdig_hashL s k hlt]; unfold dgv; rw [hd]; rfl
          obtain ⟨p, hp⟩ : ∃ p, p = 31 - k / 2 := ⟨_, rfl⟩
          have hp' : (31 : Int) - (k : Int) / 2 = (p : Int) := by omega
          have hp32 : p < 32 := by omega
          obtain ⟨hv, hv16⟩ := readV_step (hashL s) k hlt
          rw [← hp, hdg] at hv
          rw [← hp] at hv16
          obtain ⟨a, ha⟩ : ∃ a, a = readV (hashL s) k p := ⟨_, rfl⟩
          rw [← ha] at hv hv16
          have g1 : Blk (setIt wr (w.heap.size + 1 + 1) S (k + 1)) (w.heap.size + 1) 38 (readC (hashL s) k) := h1.setIt (by omega)
          have g0 : Blk (setIt wr (w.heap.size + 1 + 1) S (k + 1)) w.heap.size 38 (u8cells zeroH) := h0.setIt (by omega)
          have gi : It (setIt wr (w.heap.size + 1 + 1) S (k + 1)) (w.heap.size + 1 + 1) S (k + 1) := hi.set (k + 1)
          have gb : Below w.heap.size w (setIt wr (w.heap.size + 1 + 1) S (k + 1)) := below_setIt hb (by omega)
          have c1 := blk_get g1 p _ (readC_at (hashL s) k p hp32)
          rw [← ha] at c1
          have f1 := g1.frozen p
          have pd := put_digit2 a d hv16 hd16
          have pos0 := hi.pos
          have pos1 := gi.pos
          have H := Lib.hid (And.intro gi (And.intro g0 (And.intro g1 (And.intro gb (And.intro hp (And.intro ha (And.intro hv (And.intro hx hd)))))))); clear hi h0 h1 hb gi g0 g1 gb hp ha hv hx hd hdg
          generalize setIt wr (w.heap.size + 1 + 1) S (k + 1) = wi at *
          go_wp2_with (go_at_call 67; refine (hashDigit_yes r d hr hdr _).mono ?_; rintro e w' ⟨rfl, rfl⟩)
          obtain ⟨gi, g0, g1, gb, hp, ha, hv, hx, hd⟩ := H.out
          go_roundw
          case rel =>
            refine ⟨k + 1, by omega, fun i hi => ?_, gi.far (by omega) _, g0.far (by omega) _, (g1.set_ p _).to (by rw [hp]; exact readC_set (hashL s) k _ hlt (by rw [← hp]; exact hv.symm)), gb.setCell (by simp) _⟩
            by_cases e : i = k
            · subst e; rw [hd]; rfl
            · exact hx i (by omega)
          case measure =>
            rw [(gi.far (b := w.heap.size + 1) (i := p) (by omega) _).pos, pos0]
            omega
      · obtain rfl : k = 64 := by omega
        have hn1 := fun ty => HI.out.2.1 wr (w.heap.size + 1 + 1) ty hi
        have pg := parse_good HI.out.1.symm hx
        have hll := hashL_length s
        rw [readC_full (hashL s) hll] at h1
        obtain ⟨l, hl⟩ : ∃ l, l = hashL s := ⟨_, rfl⟩
        rw [← hl] at h1 hll pg
        have s0 : (u8cells zeroH).size = (u8cells l).size := by rw [u8cells_size, u8cells_size, hll]; rfl
        have a2 := u8cells_one l
        have i2 := isH l hll
        have hlv := run_loadVar_row (P := Tryd.prog) _ _ _ _ (u8cells l) (0, 0) _ (h0.row (u8cells l)) Tryd.underlying38 rfl i2
        have H := Lib.hid (And.intro hb (And.intro h1 (And.intro h0 pg))); clear hi h0 h1 hb pg hl
        go_wp2_with (first | with_reducible refine wl_row H.out.2.1 _ _ rfl rfl rfl _ _ Tryd.underlying38 i2 ?_ | with_reducible refine ws_row H.out.2.2.1 _ _ _ _ rfl rfl rfl rfl i2 s0 a2 ?_)
        obtain ⟨hb, h1, h0, pg⟩ := H.out
        refine bodyPost_ret (v := .tuple #[.agg (u8cells l), .int .i64 0]) ?_ rfl ⟨by rw [pg.1, pg.2]; rfl, below_setRow hb (by omega) _⟩
        simp [results, Tryd.results42, asAddr, hlv]
  · have pb := parse_bad (s := s) (.inl (by omega))
    have hne : ((n : Int) != 64) = true := by simp; omega
    obtain ⟨S, hS⟩ : ∃ S, S = bstr s := ⟨_, rfl⟩
    rw [← hS] at hsz ⊢
    have n200 : n ≤ 200 := by omega
    have N := (Blk.new w 38 #[.int .u8 0, .int .u8 0, .int .u8 0, .int .u8 0, .int .u8 0, .int .u8 0, .int .u8 0, .int .u8 0, .int .u8 0, .int .u8 0, .int .u8 0, .int .u8 0, .int .u8 0, .int .u8 0, .int .u8 0, .int .u8 0, .int .u8 0, .int .u8 0, .int .u8 0, .int .u8 0, .int .u8 0, .int .u8 0, .int .u8 0, .int .u8 0, .int .u8 0, .int .u8 0, .int .u8 0, .int .u8 0, .int .u8 0, .int .u8 0, .int .u8 0, .int .u8 0])
    have hlv := run_loadVar_row (P := Tryd.prog) _ _ _ _ (#[.int .u8 0, .int .u8 0, .int .u8 0, .int .u8 0, .int .u8 0, .int .u8 0, .int .u8 0, .int .u8 0, .int .u8 0, .int .u8 0, .int .u8 0, .int .u8 0, .int .u8 0, .int .u8 0, .int .u8 0, .int .u8 0, .int .u8 0, .int .u8 0, .int .u8 0, .int .u8 0, .int .u8 0, .int .u8 0, .int .u8 0, .int .u8 0, .int .u8 0, .int .u8 0, .int .u8 0, .int .u8 0, .int .u8 0, .int .u8 0, .int .u8 0, .int .u8 0] : Array Value) (0, 0) _ (N.row #[.int .u8 0, .int .u8 0, .int .u8 0, .int .u8 0, .int .u8 0, .int .u8 0, .int .u8 0, .int .u8 0, .int .u8 0, .int .u8 0, .int .u8 0, .int .u8 0, .int .u8 0, .int .u8 0, .int .u8 0, .int .u8 0, .int .u8 0, .int .u8 0, .int .u8 0, .int .u8 0, .int .u8 0, .int .u8 0, .int .u8 0, .int .u8 0, .int .u8 0, .int .u8 0, .int .u8 0, .int .u8 0, .int .u8 0, .int .u8 0, .int .u8 0, .int .u8 0]) Tryd.underlying38 rfl iz
    have sz2 : (#[.int .u8 0, .int .u8 0, .int .u8 0, .int .u8 0, .int .u8 0, .int .u8 0, .int .u8 0, .int .u8 0, .int .u8 0, .int .u8 0, .int .u8 0, .int .u8 0, .int .u8 0, .int .u8 0, .int .u8 0, .int .u8 0, .int .u8 0, .int .u8 0, .int .u8 0, .int .u8 0, .int .u8 0, .int .u8 0, .int .u8 0, .int .u8 0, .int .u8 0, .int .u8 0, .int .u8 0, .int .u8 0, .int .u8 0, .int .u8 0, .int .u8 0, .int .u8 0] : Array Value).size = (#[.int .u8 0, .int .u8 0, .int .u8 0, .int .u8 0, .int .u8 0, .int .u8 0, .int .u8 0, .int .u8 0, .int .u8 0, .int .u8 0, .int .u8 0, .int .u8 0, .int .u8 0, .int .u8 0, .int .u8 0, .int .u8 0, .int .u8 0, .int .u8 0, .int .u8 0, .int .u8 0, .int .u8 0, .int .u8 0, .int .u8 0, .int .u8 0, .int .u8 0, .int .u8 0, .int .u8 0, .int .u8 0, .int .u8 0, .int .u8 0, .int .u8 0, .int .u8 0] : Array Value).size := rfl
    have H := Lib.hid (And.intro N pb); clear N pb hS hn
    go_enter Tryd.func42, Tryd.ntmps42
    go_wp2_with (with_reducible refine ws_row H.out.1 _ _ _ _ rfl rfl rfl rfl iz sz2 az ?_)
    refine bodyPost_ret (v := .tuple #[.agg #[.int .u8 0, .int .u8 0, .int .u8 0, .int .u8 0, .int .u8 0, .int .u8 0, .int .u8 0, .int .u8 0, .int .u8 0, .int .u8 0, .int .u8 0, .int .u8 0, .int .u8 0, .int .u8 0, .int .u8 0, .int .u8 0, .int .u8 0, .int .u8 0, .int .u8 0, .int .u8 0, .int .u8 0, .int .u8 0, .int .u8 0, .int .u8 0, .int .u8 0, .int .u8 0, .int .u8 0, .int .u8 0, .int .u8 0, .int .u8 0, .int .u8 0, .int .u8 0], .int .i64 2]) ?_ rfl ⟨by rw [H.out.2.1, H.out.2.2]; rfl, below_setRow (ba (Below.refl _ _) _) (Nat.le_refl _) _⟩
    simp [results, Tryd.results42, asAddr, hlv]
set_option maxRecDepth 100000 in
set_option maxHeartbeats 1000000 in
theorem HRParse_any (s : List UInt8) (hs200 : s.length ≤ 200) (w : World) :
    Calls Tryd.prog 43 #[.string (bstr s)] w fun e w' => e = .returned (.tuple #[.agg (u8cells (parseL s)), .int .i64 (parseE s : Nat)]) ∧ Below w.heap.size w w' := by
  have iz := iz32
  have az := az32
  have sz := sz32
  obtain ⟨n, hn⟩ : ∃ n, n = s.length := ⟨_, rfl⟩
  have hsz : (bstr s).size = n := by rw [bstr_size, hn]
  by_cases h64 : n = 64
  · subst h64
    have hix := fun (w' : World) (j : Nat) (hj : j < 64) => index_bstr s j (by omega : j < s.length) w'
    obtain ⟨S, hS⟩ : ∃ S, S = bstr s := ⟨_, rfl⟩
    rw [← hS] at hix hsz ⊢
    have HI := Lib.hid (And.intro hn hix); clear hn hix hS
    go_enter Tryd.func43, Tryd.ntmps43
    go_wp2
    go_loopw [5] (fun i wr => ∃ k : Nat, k ≤ 32 ∧ i = .int .i64 (2 * k : Nat) ∧ hexTo s (2 * k) ∧ Blk wr w.heap.size 38 (u8cells zeroH) ∧ Blk wr (w.heap.size + 1) 38 (readC (hashL s) (2 * k)) ∧ Below w.heap.size w wr) (fun i _ => 64 - (intOf i).toNat)
    case atStart =>
      refine ⟨0, by omega, rfl, fun i hi => by omega, ?_, ?_, ?_⟩
      · rw [zeroH_cells]; exact (Blk.newAt _ _ _ rfl).alloc _
      · rw [Nat.mul_zero, readC_zero, zeroH_cells]; exact Blk.newAt _ _ _ (by simp)
      · exact ((Below.refl _ _).alloc (Nat.le_refl _) _).alloc (by simp) _
    case round =>
      obtain ⟨k, hk, rfl, hx, h0, h1, hb⟩ := hrel
      by_cases hlt : k < 32
      · obtain ⟨i, hi⟩ : ∃ i, i = 2 * k := ⟨_, rfl⟩
        obtain ⟨j, hj⟩ : ∃ j, j = i + 1 := ⟨_, rfl⟩
        obtain ⟨c, hc⟩ : ∃ c, c = (s.getD i 0).toNat := ⟨_, rfl⟩
        obtain ⟨d, hd⟩ : ∃ d, d = (s.getD j 0).toNat := ⟨_, rfl⟩
        have hc256 : c < 256 := by rw [hc]; exact UInt8.toNat_lt _
        have hd256 : d < 256 := by rw [hd]; exact UInt8.toNat_lt _
        have x1 := fun w' => HI.out.2 w' i (by omega)
        have x2 := fun w' => HI.out.2 w' j (by omega)
        rw [← hc] at x1
        rw [← hd] at x2
        have ij : (i : Int) + 1 = (j : Int) := by omega
        have i64 : (i : Int) < 64 := by omega
        rw [← hi]
        cases e1 : dg c with
        | none =>
          have hlv := run_loadVar_row (P := Tryd.prog) _ _ _ _ (#[.int .u8 0, .int .u8 0, .int .u8 0, .int .u8 0, .int .u8 0, .int .u8 0, .int .u8 0, .int .u8 0, .int .u8 0, .int .u8 0, .int .u8 0, .int .u8 0, .int .u8 0, .int .u8 0, .int .u8 0, .int .u8 0, .int .u8 0, .int .u8 0, .int .u8 0, .int .u8 0, .int .u8 0, .int .u8 0, .int .u8 0, .int .u8 0, .int .u8 0, .int .u8 0, .int .u8 0, .int .u8 0, .int .u8 0, .int .u8 0, .int .u8 0, .int .u8 0] : Array Value) (0, 0) _ (h0.row #[.int .u8 0, .int .u8 0, .int .u8 0, .int .u8 0, .int .u8 0, .int .u8 0, .int .u8 0, .int .u8 0, .int .u8 0, .int .u8 0, .int .u8 0, .int .u8 0, .int .u8 0, .int .u8 0, .int .u8 0, .int .u8 0, .int .u8 0, .int .u8 0, .int .u8 0, .int .u8 0, .int .u8 0, .int .u8 0, .int .u8 0, .int .u8 0, .int .u8 0, .int .u8 0, .int .u8 0, .int .u8 0, .int .u8 0, .int .u8 0, .int .u8 0, .int .u8 0]) Tryd.underlying38 rfl iz
          have pb := parse_bad (s := s) (.inr ⟨i, by have := HI.out.1; omega, by rw [← hc]; exact e1⟩)
          cases e2 : dg d with
          | none =>
            have H := Lib.hid (And.intro h0 (And.intro hb pb)); clear h0 h1 hb hx pb hi hj hc hd
            go_wp2_with (first | (go_at_call 68; with_reducible refine (HRDigit_no c hc256 e1 _).mono ?_; rintro e w' ⟨rfl, rfl⟩) | (go_at_call 68; with_reducible refine (HRDigit_no d hd256 e2 _).mono ?_; rintro e w' ⟨rfl, rfl⟩) | (with_reducible refine ws_row H.out.1 _ _ _ _ rfl rfl rfl rfl iz sz az ?_))
            refine bodyPost_ret (v := .tuple #[.agg #[.int .u8 0, .int .u8 0, .int .u8 0, .int .u8 0, .int .u8 0, .int .u8 0, .int .u8 0, .int .u8 0, .int .u8 0, .int .u8 0, .int .u8 0, .int .u8 0, .int .u8 0, .int .u8 0, .int .u8 0, .int .u8 0, .int .u8 0, .int .u8 0, .int .u8 0, .int .u8 0, .int .u8 0, .int .u8 0, .int .u8 0, .int .u8 0, .int .u8 0, .int .u8 0, .int .u8 0, .int .u8 0, .int .u8 0, .int .u8 0, .int .u8 0, .int .u8 0], .int .i64 2]) ?_ rfl ⟨by rw [H.out.2.2.1, H.out.2.2.2]; rfl, below_setRow H.out.2.1 (by omega) _⟩
            simp [results, Tryd.results43, asAddr, hlv]
          | some y =>
            have H := Lib.hid (And.intro h0 (And.intro hb pb)); clear h0 h1 hb hx pb hi hj hc hd
            go_wp2_with (first | (go_at_call 68; with_reducible refine (HRDigit_no c hc256 e1 _).mono ?_; rintro e w' ⟨rfl, rfl⟩) | (go_at_call 68; with_reducible refine (HRDigit_yes d y hd256 e2 _).mono ?_; rintro e w' ⟨rfl, rfl⟩) | (with_reducible refine ws_row H.out.1 _ _ _ _ rfl rfl rfl rfl iz sz az ?_))
            refine bodyPost_ret (v := .tuple #[.agg #[.int .u8 0, .int .u8 0, .int .u8 0, .int .u8 0, .int .u8 0, .int .u8 0, .int .u8 0, .int .u8 0, .int .u8 0, .int .u8 0, .int .u8 0, .int .u8 0, .int .u8 0, .int .u8 0, .int .u8 0, .int .u8 0, .int .u8 0, .int .u8 0, .int .u8 0, .int .u8 0, .int .u8 0, .int .u8 0, .int .u8 0, .int .u8 0, .int .u8 0, .int .u8 0, .int .u8 0, .int .u8 0, .int .u8 0, .int .u8 0, .int .u8 0, .int .u8 0], .int .i64 2]) ?_ rfl ⟨by rw [H.out.2.2.1, H.out.2.2.2]; rfl, below_setRow H.out.2.1 (by omega) _⟩
            simp [results, Tryd.results43, asAddr, hlv]
        | some x =>
          have hx16 : x < 16 := dg_lt e1
          cases e2 : dg d with
          | none =>
            have hlv := run_loadVar_row (P := Tryd.prog) _ _ _ _ (#[.int .u8 0, .int .u8 0, .int .u8 0, .int .u8 0, .int .u8 0, .int .u8 0, .int .u8 0, .int .u8 0, .int .u8 0, .int .u8 0, .int .u8 0, .int .u8 0, .int .u8 0, .int .u8 0, .int .u8 0, .int .u8 0, .int .u8 0, .int .u8 0, .int .u8 0, .int .u8 0, .int .u8 0, .int .u8 0, .int .u8 0, .int .u8 0, .int .u8 0, .int .u8 0, .int .u8 0, .int .u8 0, .int .u8 0, .int .u8 0, .int .u8 0, .int .u8 0] : Array Value) (0, 0) _ (h0.row #[.int .u8 0, .int .u8 0, .int .u8 0, .int .u8 0, .int .u8 0, .int .u8 0, .int .u8 0, .int .u8 0, .int .u8 0, .int .u8 0, .int .u8 0, .int .u8 0, .int .u8 0, .int .u8 0, .int .u8 0, .int .u8 0, .int .u8 0, .int .u8 0, .int .u8 0, .int .u8 0, .int .u8 0, .int .u8 0, .int .u8 0, .int .u8 0, .int .u8 0, .int .u8 0, .int .u8 0, .int .u8 0, .int .u8 0, .int .u8 0, .int .u8 0, .int .u8 0]) Tryd.underlying38 rfl iz
            have pb := parse_bad (s := s) (.inr ⟨j, by have := HI.out.1; omega, by rw [← hd]; exact e2⟩)
            have H := Lib.hid (And.intro h0 (And.intro hb pb)); clear h0 h1 hb hx pb hi hj hc hd
            go_wp2_with (first | (go_at_call 68; with_reducible refine (HRDigit_yes c x hc256 e1 _).mono ?_; rintro e w' ⟨rfl, rfl⟩) | (go_at_call 68; with_reducible refine (HRDigit_no d hd256 e2 _).mono ?_; rintro e w' ⟨rfl, rfl⟩) | (with_reducible refine ws_row H.out.1 _ _ _ _ rfl rfl rfl rfl iz sz az ?_))
            refine bodyPost_ret (v := .tuple #[.agg #[.int .u8 0, .int .u8 0, .int .u8 0, .int .u8 0, .int .u8 0, .int .u8 0, .int .u8 0, .int .u8 0, .int .u8 0, .int .u8 0, .int .u8 0, .int .u8 0, .int .u8 0, .int .u8 0, .int .u8 0, .int .u8 0, .int .u8 0, .int .u8 0, .int .u8 0, .int .u8 0, .int .u8 0, .int .u8 0, .int .u8 0, .int .u8 0, .int .u8 0, .int .u8 0, .int .u8 0, .int .u8 0, .int .u8 0, .int .u8 0, .int .u8 0, .int .u8 0], .int .i64 2]) ?_ rfl ⟨by rw [H.out.2.2.1, H.out.2.2.2]; rfl, below_setRow H.out.2.1 (by omega) _⟩
            simp [results, Tryd.results43, asAddr, hlv]
          | some y =>
            have hy16 : y < 16 := dg_lt e2
            obtain ⟨p, hp⟩ : ∃ p, p = 31 - k := ⟨_, rfl⟩
            have hp32 : p < 32 := by omega
            have hp' : (31 : Int) - (i : Int) / 2 = (p : Int) := by omega
            obtain ⟨v, hv⟩ : ∃ v, v = x * 16 + y := ⟨_, rfl⟩
            have hvi : (x : Int) * 16 + (y : Int) = (v : Int) := by omega
            have hv256 : v < 256 := by omega
            have c1 := blk_get h1 p _ (readC_at (hashL s) (2 * k) p hp32)
            have f1 := h1.frozen p
            have hdx : hdig (hashL s) (2 * k) = x := by rw [hdig_hashL s (2 * k) (by omega)]; unfold dgv; rw [← hi, ← hc, e1]; rfl
            have hdy : hdig (hashL s) (2 * k + 1) = y := by rw [hdig_hashL s (2 * k + 1) (by omega)]; unfold dgv; rw [← hi, ← hj, ← hd, e2]; rfl
            have hset := readC_set2 (hashL s) k v hlt (by rw [hdx, hdy, hv])
            rw [← hp] at hset
            have xc : (dg (s.getD i 0).toNat).isSome = true := by rw [← hc, e1]; rfl
            have xd : (dg (s.getD j 0).toNat).isSome = true := by rw [← hd, e2]; rfl
            have H := Lib.hid (And.intro h0 (And.intro h1 (And.intro hb (And.intro hset (And.intro hx (And.intro xc (And.intro xd (And.intro hi (And.intro hj (And.intro hp hv)))))))))); clear h0 h1 hb hx hset hi hj hc hd xc xd hdx hdy hp hv
            go_wp2_with (first | (go_at_call 68; with_reducible refine (HRDigit_yes c x hc256 e1 _).mono ?_; rintro e w' ⟨rfl, rfl⟩) | (go_at_call 68; with_reducible refine (HRDigit_yes d y hd256 e2 _).mono ?_; rintro e w' ⟨rfl, rfl⟩))
            obtain ⟨h0, h1, hb, hset, hx, xc, xd, hi, hj, hp, hv⟩ := H.out
            go_roundw
            case rel =>
              refine ⟨k + 1, by omega, by rw [hi]; go_num, fun u hu => ?_, h0.far (by omega) _, (h1.set_ p _).to (by rw [hset]; rfl), hb.setCell (by simp) _⟩
              rcases (show u < 2 * k ∨ u = i ∨ u = j by omega) with e | e | e
              · exact hx u e
              · rw [e]; exact xc
              · rw [e]; exact xd
            case measure => simp [intOf]; omega
      · obtain rfl : k = 32 := by omega
        have pg := parse_good HI.out.1.symm hx
        have hll := hashL_length s
        rw [show 2 * 32 = 64 from rfl, readC_full (hashL s) hll] at h1
        obtain ⟨l, hl⟩ : ∃ l, l = hashL s := ⟨_, rfl⟩
        rw [← hl] at h1 hll pg
        have s0 : (u8cells zeroH).size = (u8cells l).size := by rw [u8cells_size, u8cells_size, hll]; rfl
        have a2 := u8cells_one l
        have i2 := isH l hll
        have hlv := run_loadVar_row (P := Tryd.prog) _ _ _ _ (u8cells l) (0, 0) _ (h0.row (u8cells l)) Tryd.underlying38 rfl i2
        have H := Lib.hid (And.intro hb (And.intro h1 (And.intro h0 pg))); clear h0 h1 hb pg hl
        rw [show ((2 * 32 : Nat) : Int) = 64 from rfl]
        go_wp2_with (first | with_reducible refine wl_row H.out.2.1 _ _ rfl rfl rfl _ _ Tryd.underlying38 i2 ?_ | with_reducible refine ws_row H.out.2.2.1 _ _ _ _ rfl rfl rfl rfl i2 s0 a2 ?_)
        obtain ⟨hb, h1, h0, pg⟩ := H.out
        refine bodyPost_ret (v := .tuple #[.agg (u8cells l), .int .i64 0]) ?_ rfl ⟨by rw [pg.1, pg.2]; rfl, below_setRow hb (by omega) _⟩
        simp [results, Tryd.results43, asAddr, hlv]
  · have pb := parse_bad (s := s) (.inl (by omega))
    have hne : ((n : Int) != 64) = true := by simp; omega
    obtain ⟨S, hS⟩ : ∃ S, S = bstr s := ⟨_, rfl⟩
    rw [← hS] at hsz ⊢
    have n200 : n ≤ 200 := by omega
    have N := (Blk.new w 38 #[.int .u8 0, .int .u8 0, .int .u8 0, .int .u8 0, .int .u8 0, .int .u8 0, .int .u8 0, .int .u8 0, .int .u8 0, .int .u8 0, .int .u8 0, .int .u8 0, .int .u8 0, .int .u8 0, .int .u8 0, .int .u8 0, .int .u8 0, .int .u8 0, .int .u8 0, .int .u8 0, .int .u8 0, .int .u8 0, .int .u8 0, .int .u8 0, .int .u8 0, .int .u8 0, .int .u8 0, .int .u8 0, .int .u8 0, .int .u8 0, .int .u8 0, .int .u8 0])
    have hlv := run_loadVar_row (P := Tryd.prog) _ _ _ _ (#[.int .u8 0, .int .u8 0, .int .u8 0, .int .u8 0, .int .u8 0, .int .u8 0, .int .u8 0, .int .u8 0, .int .u8 0, .int .u8 0, .int .u8 0, .int .u8 0, .int .u8 0, .int .u8 0, .int .u8 0, .int .u8 0, .int .u8 0, .int .u8 0, .int .u8 0, .int .u8 0, .int .u8 0, .int .u8 0, .int .u8 0, .int .u8 0, .int .u8 0, .int .u8 0, .int .u8 0, .int .u8 0, .int .u8 0, .int .u8 0, .int .u8 0, .int .u8 0] : Array Value) (0, 0) _ (N.row #[.int .u8 0, .int .u8 0, .int .u8 0, .int .u8 0, .int .u8 0, .int .u8 0, .int .u8 0, .int .u8 0, .int .u8 0, .int .u8 0, .int .u8 0, .int .u8 0, .int .u8 0, .int .u8 0, .int .u8 0, .int .u8 0, .int .u8 0, .int .u8 0, .int .u8 0, .int .u8 0, .int .u8 0, .int .u8 0, .int .u8 0, .int .u8 0, .int .u8 0, .int .u8 0, .int .u8 0, .int .u8 0, .int .u8 0, .int .u8 0, .int .u8 0, .int .u8 0]) Tryd.underlying38 rfl iz
    have sz2 : (#[.int .u8 0, .int .u8 0, .int .u8 0, .int .u8 0, .int .u8 0, .int .u8 0, .int .u8 0, .int .u8 0, .int .u8 0, .int .u8 0, .int .u8 0, .int .u8 0, .int .u8 0, .int .u8 0, .int .u8 0, .int .u8 0, .int .u8 0, .int .u8 0, .int .u8 0, .int .u8 0, .int .u8 0, .int .u8 0, .int .u8 0, .int .u8 0, .int .u8 0, .int .u8 0, .int .u8 0, .int .u8 0, .int .u8 0, .int .u8 0, .int .u8 0, .int .u8 0] : Array Value).size = (#[.int .u8 0, .int .u8 0, .int .u8 0, .int .u8 0, .int .u8 0, .int .u8 0, .int .u8 0, .int .u8 0, .int .u8 0, .int .u8 0, .int .u8 0, .int .u8 0, .int .u8 0, .int .u8 0, .int .u8 0, .int .u8 0, .int .u8 0, .int .u8 0, .int .u8 0, .int .u8 0, .int .u8 0, .int .u8 0, .int .u8 0, .int .u8 0, .int .u8 0, .int .u8 0, .int .u8 0, .int .u8 0, .int .u8 0, .int .u8 0, .int .u8 0, .int .u8 0] : Array Value).size := rfl
    have H := Lib.hid (And.intro N pb); clear N pb hS hn
    go_enter Tryd.func43, Tryd.ntmps43
    go_wp2_with (with_reducible refine ws_row H.out.1 _ _ _ _ rfl rfl rfl rfl iz sz2 az ?_)
    refine bodyPost_ret (v := .tuple #[.agg #[.int .u8 0, .int .u8 0, .int .u8 0, .int .u8 0, .int .u8 0, .int .u8 0, .int .u8 0, .int .u8 0, .int .u8 0, .int .u8 0, .int .u8 0, .int .u8 0, .int .u8 0, .int .u8 0, .int .u8 0, .int .u8 0, .int .u8 0, .int .u8 0, .int .u8 0, .int .u8 0, .int .u8 0, .int .u8 0, .int .u8 0, .int .u8 0, .int .u8 0, .int .u8 0, .int .u8 0, .int .u8 0, .int .u8 0, .int .u8 0, .int .u8 0, .int .u8 0], .int .i64 2]) ?_ rfl ⟨by rw [H.out.2.1, H.out.2.2]; rfl, below_setRow (ba (Below.refl _ _) _) (Nat.le_refl _) _⟩
    simp [results, Tryd.results43, asAddr, hlv]
end Go.Proofs.YtfebknplkbeblaaDoor

namespace Go.Proofs.YtfebknplkbeblaaDoor
open Go.RowKit
set_option linter.unusedVariables false

/-- Is the operation wanted (b), whatever the order? -/
def GOk (F : Nat → Value → World → Prop) (dsts : List (Option Tmp)) (o : Oper) (b : Bool) : Prop :=
  (o.guard = none ∧ b = true) ∨ ∃ j want c, o.guard = some (j, want) ∧ (edgesOf o).contains j = true ∧ (∃ t, dsts[j]? = some (some t)) ∧ (∀ u w, F j u w → u = .bool c) ∧ (c == want) = b
def GStep (P : Program) (Q : Exit → Act → World → Prop) (w0 : World) (dsts : List (Option Tmp)) (F : Nat → Value → World → Prop) (a0 : Act) (i : Nat) (o : Oper) : Prop :=
  (GOk F dsts o false ∧ ∀ w, F i undef w) ∨
  (GOk F dsts o true ∧ ∀ (A : Act) w' (γ : Nat → Value), Below w0.heap.size w0 w' → (∀ j, (edgesOf o).contains j = true → F j (γ j) w') → SlotF dsts γ a0 o A →
    o.wp P A w' (fun a' w'' => ∃ u, a' = A.put o.dst u ∧ Below w'.heap.size w' w'' ∧ F i u w'') Q)
theorem Fr_size (v : Nat → Value) (L : Nat → Bool) : ∀ (r : List (Option Tmp)) (k : Nat) (a : Act), (Fr v L r k a).tmps.size = a.tmps.size
  | [], _, _ => rfl
  | d :: r, k, a => by
    unfold Fr
    rw [Fr_size v L r]
    split
    · exact put_size a d _
    · rfl
theorem GOk.wanted {F : Nat → Value → World → Prop} {l : List Oper} {dsts : List (Option Tmp)} {o : Oper} {b : Bool} (h : GOk F dsts o b) (hds : l.map (·.dst) = dsts) {tmps : Array Value} {γ : Nat → Value} {w : World}
    (hF : ∀ j, (edgesOf o).contains j = true → F j (γ j) w) (hs : ∀ j, (edgesOf o).contains j = true → ∀ t, dsts[j]? = some (some t) → t < tmps.size ∧ tmps.getD t undef = γ j) : Region.wanted o (yielded l.toArray tmps) = b := by
  rcases h with ⟨hg, rfl⟩ | ⟨j, want, c, hg, he, ⟨t, ht⟩, hc, rfl⟩
  · simp [Region.wanted, hg]
  · obtain ⟨h1, h2⟩ := hs j he t ht
    rw [hc _ _ (hF j he)] at h2
    have h3 : tmps[t]? = some (.bool c) := by
      rw [Array.getD_eq_getD_getElem?, Array.getElem?_eq_getElem h1] at h2
      rw [Array.getElem?_eq_getElem h1]
      exact congrArg some h2
    have h4 : ((l[j]?).bind (·.dst)) = some t := by
      rw [← hds, List.getElem?_map] at ht
      cases hl : l[j]? with
      | none => rw [hl] at ht; cases ht
      | some o' =>
        rw [hl] at ht
        simpa using ht
    have h5 : yielded l.toArray tmps j = some c := by
      unfold yielded
      rw [List.getElem?_toArray, h4, Option.bind_some, h3]
    simp only [Region.wanted, hg, h5]
    cases c <;> cases want <;> rfl

theorem wp_region_g {P : Program} {Q : Exit → Act → World → Prop} {id : Nat} {l : List Oper} {a : Act} {w : World} (dsts : List (Option Tmp)) (F : Nat → Value → World → Prop)
    (hF : ∀ j u w1 w2, F j u w1 → Below w1.heap.size w1 w2 → F j u w2)
    (hm : P.follows .mixedOrders = true) (hds : l.map (·.dst) = dsts) (hnd : nodupD dsts = true) (hord : ordGo 0 l = true) (hin : inD a.tmps.size dsts = true)
    (step : StepAll (GStep P Q w dsts F a) 0 l)
    (fin : ∀ γ w', Below w.heap.size w w' → (∀ j, j < l.length → F j (γ j) w') → Q .normal (Fr γ (fun _ => true) dsts 0 a) w') : (Code.region id l.toArray true).wp P Q a w := by
  refine wp_region_any hm ?_
  refine wpAny_inv (fun listed a' w' => listed.size = l.length ∧ ∃ γ : Nat → Value, a' = Fr γ (fun j => listed.getD j false) dsts 0 a ∧ Below w.heap.size w w' ∧ ∀ j, listed.getD j false = true → F j (γ j) w') ?_ ?_ l.toArray.size _ _ _ ?_ ?_
  · rintro listed a' w' i ⟨hsz, γ, rfl, hb, hFs⟩ hr
    obtain ⟨h0, o, ho, hall⟩ := mem_ready.1 hr
    have ho' : l[i]? = some o := by simpa using ho
    have hlt : i < l.length := (List.getElem?_eq_some_iff.1 ho').1
    have hLi : listed.getD i false = false := by
      have : i < listed.size := by omega
      simp [this] at h0 ⊢; exact h0
    have hdep : ∀ j, (edgesOf o).contains j = true → listed.getD j false = true := fun j hj => by
      obtain ⟨e, he1, he2⟩ := List.mem_map.1 (List.contains_iff_mem.1 hj)
      obtain ⟨he3, he4⟩ := List.mem_filter.1 he1
      rw [← he2]
      exact hall e (by simpa using he3) (by simpa using he4)
    have hSF : SlotF dsts γ a o (Fr γ (fun j => listed.getD j false) dsts 0 a) :=
      ⟨fun j hj t ht => Fr_get γ _ t j (hdep j hj) dsts 0 a hnd (Nat.zero_le _) (by simpa using ht) (inD_lt hin ht), fun t ht => Fr_old γ _ t dsts 0 a ht⟩
    have hwant : ∀ {b}, GOk F dsts o b → Region.wanted o (yielded l.toArray (Fr γ (fun j => listed.getD j false) dsts 0 a).tmps) = b := fun h =>
      h.wanted hds (fun j hj => hFs j (hdep j hj)) (fun j hj t ht => ⟨by rw [Fr_size]; exact inD_lt hin ht, hSF.1 j hj t ht⟩)
    have hon : (fun j => (listed.setIfInBounds i true).getD j false) = onL (fun j => listed.getD j false) i := by
      funext j
      have hi : i < listed.size := by omega
      unfold onL
      by_cases e : j = i
      · subst e; simp [hi]
      · rw [getD_set_ne false (Ne.symm e)]
        simp [e]
    have hd : dsts[i]? = some o.dst := by rw [← hds, List.getElem?_map, ho']; rfl
    have key : ∀ u w'', Below w'.heap.size w' w'' → F i u w'' → (listed.setIfInBounds i true).size = l.length ∧ ∃ γ' : Nat → Value, (Fr γ (fun j => listed.getD j false) dsts 0 a).put o.dst u = Fr γ' (fun j => (listed.setIfInBounds i true).getD j false) dsts 0 a ∧ Below w.heap.size w w'' ∧ ∀ j, (listed.setIfInBounds i true).getD j false = true → F j (γ' j) w'' := by
      intro u w'' hb2 hFu
      refine ⟨by simpa using hsz, fun j => if j = i then u else γ j, ?_, bt hb hb2, fun j hj => ?_⟩
      · rw [hon, Fr_on _ _ i hLi dsts 0 a o.dst hnd (Nat.zero_le _) (by simpa using hd)]
        simp only [if_true]
        congr 1
        refine Fr_congr _ _ _ _ dsts 0 a fun j _ _ => ⟨rfl, fun hj => ?_⟩
        by_cases e : j = i
        · subst e
          rw [hLi] at hj; cases hj
        · simp [e]
      · by_cases e : j = i
        · subst e; simpa using hFu
        · have hj' : listed.getD j false = true := by rw [getD_set_ne false (Ne.symm e)] at hj; exact hj
          simp only [e, if_false]
          exact hF j _ _ _ (hFs j hj') hb2
    have st := step.at i o ho'
    simp only [Nat.zero_add] at st
    unfold wpOp
    rw [ho]
    rcases st with ⟨hg, hu⟩ | ⟨hg, hq⟩
    · simp only [hwant hg, Bool.false_eq_true, if_false]
      exact key undef w' (Below.refl _ _) (hu w')
    · simp only [hwant hg, if_true]
      left
      refine Oper.wp_mono ?_ (hq _ w' γ hb (fun j hj => hFs j (hdep j hj)) hSF)
      rintro a'' w'' ⟨u, rfl, hbel, hFu⟩
      exact key u w'' hbel hFu
  · rintro listed a' w' ⟨hsz, γ, rfl, hb, hFs⟩ hr
    have hall : ∀ n i, i < n → i < l.length → listed.getD i false = true := by
      intro n
      induction n with
      | zero => intro i hi; omega
      | succ n ih =>
        intro i hin' hi
        cases hL : listed.getD i false with
        | true => rfl
        | false =>
          exfalso
          have hmem : i ∈ Region.ready .any l.toArray listed := by
            refine mem_ready.2 ⟨?_, l[i], by simp [hi], fun e he hb => ?_⟩
            · have : i < listed.size := by omega
              simp [this] at hL ⊢; exact hL
            · have hlt := ordGo.at hord i l[i] (by simp [hi]) e.on (List.mem_map.2 ⟨e, List.mem_filter.2 ⟨by simpa using he, by simpa using hb⟩, rfl⟩)
              exact ih e.on (by omega) (by omega)
          rw [hr] at hmem
          cases hmem
    have hlen : dsts.length = l.length := by rw [← hds, List.length_map]
    have e : Fr γ (fun j => listed.getD j false) dsts 0 a = Fr γ (fun _ => true) dsts 0 a :=
      Fr_congr _ _ _ _ dsts 0 a fun j _ hj => ⟨hall (j + 1) j (by omega) (by omega), fun _ => rfl⟩
    rw [e]
    exact fin γ w' hb (fun j hj => hFs j (hall (j + 1) j (by omega) hj))
  · unfold unl
    exact Nat.le_trans (List.length_filter_le _ _) (by simp)
  · refine ⟨by simp, fun _ => undef, ?_, (Below.refl _ _).drew, fun j hj => ?_⟩
    · have : ∀ (r : List (Option Tmp)) (k : Nat), Fr (fun _ => undef) (fun j => (Array.replicate l.toArray.size false).getD j false) r k a = a := by
        intro r
        induction r with
        | nil => intro k; rfl
        | cons d r ih =>
          intro k
          unfold Fr
          have e : (Array.replicate l.toArray.size false).getD k false = false := by
            simp only [Array.getD_eq_getD_getElem?, Array.getElem?_replicate]
            split <;> rfl
          rw [e]
          exact ih (k + 1)
      exact (this dsts 0).symm
    · have e : (Array.replicate l.toArray.size false).getD j false = false := by
        simp only [Array.getD_eq_getD_getElem?, Array.getElem?_replicate]
        split <;> rfl
      rw [e] at hj
      cases hj

/-! ## What holds of values -/
def EqV (v : Value) : Value → World → Prop := fun u _ => u = v
abbrev VP := Value → World → Prop
def Keeps (G : VP) : Prop := ∀ u w1 w2, G u w1 → Below w1.heap.size w1 w2 → G u w2
theorem keeps_eq (v : Value) : Keeps (EqV v) := fun _ _ _ h _ => h
def FL (l : List VP) : Nat → VP := fun i => l.getD i fun _ _ => False
def KeepAll : List VP → Prop
  | [] => True
  | G :: r => Keeps G ∧ KeepAll r
theorem FL_keeps : ∀ {l : List VP}, KeepAll l → ∀ j u w1 w2, FL l j u w1 → Below w1.heap.size w1 w2 → FL l j u w2
  | [], _, _, _, _, _, h, _ => h
  | G :: r, hk, 0, u, w1, w2, h, hb => hk.1 u w1 w2 h hb
  | G :: r, hk, j + 1, u, w1, w2, h, hb => by
    have h' : FL r j u w1 := h
    exact FL_keeps hk.2 j u w1 w2 h' hb

section
variable {P : Program} {Q : Exit → Act → World → Prop} {o : Oper} {A : Act} {w : World} {u : Value} {F : Nat → VP} {dsts : List (Option Tmp)} {γ : Nat → Value} {a0 : Act}
theorem gk0 (h : o.guard = none) : GOk F dsts o true := .inl ⟨h, rfl⟩
theorem gkT (j : Nat) (c : Bool) (h : o.guard = some (j, c)) (he : (edgesOf o).contains j = true) (t : Tmp) (ht : dsts[j]? = some (some t)) (hc : ∀ u w, F j u w → u = .bool c) : GOk F dsts o true :=
  .inr ⟨j, c, c, h, he, ⟨t, ht⟩, hc, by cases c <;> rfl⟩
theorem gkF (j : Nat) (c : Bool) (h : o.guard = some (j, c)) (he : (edgesOf o).contains j = true) (t : Tmp) (ht : dsts[j]? = some (some t)) (hc : ∀ u w, F j u w → u = .bool (!c)) : GOk F dsts o false :=
  .inr ⟨j, c, !c, h, he, ⟨t, ht⟩, hc, by cases c <;> rfl⟩
theorem g_of {G : VP} (hG : Keeps G) (h : o.wp P A w (fun a' w'' => a' = A.put o.dst u ∧ Below w.heap.size w w'') Q) (hu : G u w) : o.wp P A w (fun a' w'' => ∃ u, a' = A.put o.dst u ∧ Below w.heap.size w w'' ∧ G u w'') Q := by
  refine Oper.wp_mono ?_ h
  rintro a' w'' ⟨rfl, hb⟩
  exact ⟨u, rfl, hb, hG u w w'' hu hb⟩
theorem g_eq (h : o.wp P A w (fun a' w'' => a' = A.put o.dst u ∧ Below w.heap.size w w'') Q) : o.wp P A w (fun a' w'' => ∃ u', a' = A.put o.dst u' ∧ Below w.heap.size w w'' ∧ EqV u u' w'') Q :=
  g_of (keeps_eq u) h rfl
theorem g_call {G : VP} (f : FuncId) (args : Array Value) (hrun : (execOp A.eval o).run P w = .ok (.enter f args) w) (h : Calls P f args w fun e w' => ∃ u, e = .returned u ∧ Below w.heap.size w w' ∧ G u w') :
    o.wp P A w (fun a' w'' => ∃ u, a' = A.put o.dst u ∧ Below w.heap.size w w'' ∧ G u w'') Q := by
  unfold Oper.wp
  rw [hrun, Oper.upon_enter]
  refine h.mono fun e w'' hh => ?_
  obtain ⟨u, rfl, hb, hG⟩ := hh
  exact ⟨u, rfl, hb, hG⟩
theorem op_pick (c x y : Operand) (b : Bool) (ho : o.op = .pick c x y) (hc : A.eval c = .bool b) (hx : (if b then A.eval x else A.eval y) = u) : o.wp P A w (fun a' w'' => a' = A.put o.dst u ∧ Below w.heap.size w w'') Q := by
  refine op_run ?_
  unfold execOp
  simp only [ho, hc]
  subst hx
  rfl
theorem op_eq_int (t r : TypeId) (x y : Operand) (k : IntKind) (m n : Int) (b : Bool) (ho : o.op = .binOp .eql t x y r) (hx : A.eval x = .int k m) (hy : A.eval y = .int k n) (hb : (m == n) = b) : o.wp P A w (fun a' w'' => a' = A.put o.dst (.bool b) ∧ Below w.heap.size w w'') Q := by
  refine op_run ?_
  generalize A.eval = ρ at *
  unfold execOp
  subst hb
  simp [ho, hx, hy, eqGuard, binOp, Op.intCmp, go_sem]
theorem op_eq_str (t r : TypeId) (x y : Operand) (m n : ByteArray) (b : Bool) (ho : o.op = .binOp .eql t x y r) (hx : A.eval x = .string m) (hy : A.eval y = .string n) (hb : (m.toList == n.toList) = b) : o.wp P A w (fun a' w'' => a' = A.put o.dst (.bool b) ∧ Below w.heap.size w w'') Q := by
  refine op_run ?_
  generalize A.eval = ρ at *
  unfold execOp
  subst hb
  simp [ho, hx, hy, eqGuard, binOp, Op.stringOp, go_sem]
theorem op_eq_agg (t r : TypeId) (x y : Operand) (xs ys : Array Value) (b : Bool) (ho : o.op = .binOp .eql t x y r) (hx : A.eval x = .agg xs) (hy : A.eval y = .agg ys) (hg : P.eqGuardType P.depth t = false)
    (hrun : (Op.equalIn 10000 t (.agg xs) (.agg ys)).run P w = .ok b w) : o.wp P A w (fun a' w'' => a' = A.put o.dst (.bool b) ∧ Below w.heap.size w w'') Q := by
  have hrun' : (Op.equal t (.agg xs) (.agg ys)).run P w = .ok b w := hrun
  refine op_run ?_
  generalize A.eval = ρ at *
  unfold execOp
  simp [ho, hx, hy, eqGuard, binOp, hg, hrun', go_sem]
theorem op_neq_agg (t r : TypeId) (x y : Operand) (xs ys : Array Value) (b : Bool) (ho : o.op = .binOp .neq t x y r) (hx : A.eval x = .agg xs) (hy : A.eval y = .agg ys) (hg : P.eqGuardType P.depth t = false)
    (hrun : (Op.equalIn 10000 t (.agg xs) (.agg ys)).run P w = .ok b w) : o.wp P A w (fun a' w'' => a' = A.put o.dst (.bool (!b)) ∧ Below w.heap.size w w'') Q := by
  have hrun' : (Op.equal t (.agg xs) (.agg ys)).run P w = .ok b w := hrun
  refine op_run ?_
  generalize A.eval = ρ at *
  unfold execOp
  simp [ho, hx, hy, eqGuard, binOp, hg, hrun', go_sem]
theorem op_load_st (ty : TypeId) (x : Operand) (ho : o.op = .load ty x) {g : Nat} (hx : A.eval x = .pointer (some ⟨g, 0, none⟩)) {t : TypeId} {cs : Array Value} {fs : Array Field} (hb : Blk w g t cs) (hu : P.underlying ty = some (.struct fs)) (hi : (P.info? ty).map (·.size) = some cs.size) :
    o.wp P A w (fun a' w'' => a' = A.put o.dst (.agg cs) ∧ Below w.heap.size w w'') Q :=
  wp_load_row ty x ho g hx t cs (0, 0) _ hb hu rfl hi ⟨rfl, Below.refl _ _⟩
theorem op_len (x : Operand) (t e : TypeId) (a : Option Addr) (n k : Nat) (ho : o.op = .call { callee := .builtin .len, args := #[x], argTypes := #[t] }) (hx : A.eval x = .slice a n k) (ht : P.underlying t = some (.slice e)) : o.wp P A w (fun a' w'' => a' = A.put o.dst (.int .i64 n) ∧ Below w.heap.size w w'') Q := by
  refine op_run ?_
  generalize A.eval = ρ at *
  unfold execOp
  simp [ho, hx, ht, Builtin.len_, run_underlying ht, go_sem]
end
end Go.Proofs.YtfebknplkbeblaaDoor
