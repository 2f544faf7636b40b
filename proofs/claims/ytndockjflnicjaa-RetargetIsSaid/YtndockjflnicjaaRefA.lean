/- The document's numbers: rows of 256 digits; digits and number. -/
import Derived.Test.YtndockjflnicjaaU256h
import Derived.Test.YtndockjflnicjaaInv
namespace Go.Proofs.Ytndockjflnicjaa
open Go.RowKit
set_option linter.unusedVariables false

theorem Blk.snd (w : World) (o : Obj) (t : TypeId) (cs : Array Value) : Blk ((w.alloc o).alloc (.cells cs t)) (w.heap.size + 1) t cs := Blk.newAt _ _ _ (by simp)
/-- A row of 256 integers. -/
def bc (f : Nat → Int) : Array Value := ((List.range 256).map fun i => Value.int .i64 (f i)).toArray
theorem bc_size (f : Nat → Int) : (bc f).size = 256 := by simp [bc]
theorem bc_at (f : Nat → Int) (i : Nat) (h : i < 256) : (bc f)[i]? = some (.int .i64 (f i)) := by
  unfold bc
  rw [List.getElem?_toArray, List.getElem?_map, List.getElem?_range h]
  rfl
theorem bc_one (f : Nat → Int) : (bc f).all (·.oneCell') = true := by
  rw [Array.all_eq_true]
  intro i hi
  simp [bc, Value.oneCell']
theorem bc_ext {f g : Nat → Int} (h : ∀ i, i < 256 → f i = g i) : bc f = bc g := by
  unfold bc
  congr 1
  apply List.map_congr_left
  intro i hi
  rw [h i (List.mem_range.1 hi)]
theorem bc_set (f : Nat → Int) (i : Nat) (h : i < 256) (v : Int) : (bc f).setIfInBounds i (.int .i64 v) = bc fun j => if j = i then v else f j := by
  apply Array.ext
  · simp [bc]
  · intro j h1 h2
    have hj : j < 256 := by simpa [bc] using h1
    simp only [bc, Array.getElem_setIfInBounds, List.getElem_toArray, List.getElem_map, List.getElem_range]
    by_cases e : j = i
    · subst e; simp
    · simp [e, Ne.symm e]
/-- Digit i of m. -/
def dig (m i : Nat) : Int := ((m / 2 ^ i % 2 : Nat) : Int)
theorem dig_01 (m i : Nat) : dig m i = 0 ∨ dig m i = 1 := by
  unfold dig
  have := Nat.mod_lt (m / 2 ^ i) (show 0 < 2 by decide)
  omega
theorem mod_succ (N k : Nat) : N % 2 ^ (k + 1) = N % 2 ^ k + N / 2 ^ k % 2 * 2 ^ k := by
  rw [Nat.pow_succ, Nat.mod_mul, Nat.mul_comm (2 ^ k)]
theorem T_pow : T = 2 ^ 256 := by decide
theorem W64_pow : W64 = 2 ^ 64 := by decide
theorem lim_bitAt (N x k : Nat) (hN : N < 2 ^ k) (hx : x ≤ 1) : lim (N + x * 2 ^ k) (k / 64) = lim N (k / 64) + x * 2 ^ (k % 64) ∧ lim N (k / 64) < 2 ^ (k % 64) ∧ ∀ j, j ≠ k / 64 → lim (N + x * 2 ^ k) j = lim N j := by
  have hk : 2 ^ k = W64 ^ (k / 64) * 2 ^ (k % 64) := by rw [W64_pow, ← Nat.pow_mul, ← Nat.pow_add]; congr 1; omega
  have hs : 2 ^ (k % 64) * 2 ≤ W64 := by rw [W64_pow, ← Nat.pow_succ]; exact Nat.pow_le_pow_right (by decide) (by omega)
  have hd : N / W64 ^ (k / 64) < 2 ^ (k % 64) := by
    rw [Nat.div_lt_iff_lt_mul (pow_pos' _), Nat.mul_comm, ← hk]; exact hN
  have hxs : x * 2 ^ (k % 64) ≤ 2 ^ (k % 64) := by
    rcases (show x = 0 ∨ x = 1 by omega) with rfl | rfl <;> simp
  refine ⟨?_, ?_, ?_⟩
  · unfold lim
    have e : x * 2 ^ k = W64 ^ (k / 64) * (x * 2 ^ (k % 64)) := by rw [hk, Nat.mul_left_comm]
    rw [e, Nat.add_mul_div_left _ _ (pow_pos' _)]
    rw [Nat.mod_eq_of_lt (a := N / W64 ^ (k / 64)) (by omega), Nat.mod_eq_of_lt (by omega)]
  · unfold lim
    rw [Nat.mod_eq_of_lt (a := N / W64 ^ (k / 64)) (by omega)]
    exact hd
  · intro j hj
    by_cases hlt : k / 64 < j
    · have hb : N + x * 2 ^ k < W64 ^ (k / 64 + 1) := by
        have h1 : x * 2 ^ k ≤ 2 ^ k := by rcases (show x = 0 ∨ x = 1 by omega) with rfl | rfl <;> simp
        have h2 : 2 ^ k * 2 ≤ W64 ^ (k / 64 + 1) := by
          rw [hk, Nat.mul_assoc, Nat.pow_succ]
          exact Nat.mul_le_mul_left _ hs
        omega
      rw [lim_high _ j (k / 64 + 1) hb hlt, lim_high N j (k / 64 + 1) (by omega) hlt]
    · have e : x * 2 ^ k = (x * 2 ^ (k % 64) * W64 ^ (k / 64 - j - 1) * W64) * W64 ^ j := by
        rw [hk, Nat.mul_assoc, Nat.mul_assoc, Nat.mul_assoc, ← Nat.pow_succ', ← Nat.pow_add, Nat.mul_comm (W64 ^ (k / 64))]
        congr 3
        omega
      unfold lim
      rw [e, Nat.add_mul_div_right _ _ (pow_pos' _), Nat.add_mul_mod_self_right]
theorem or_bitAt (a x s : Nat) (ha : a < 2 ^ s) (hx : x ≤ 1) (hs : s < 64) : bits .or .u64 (a : Int) (IntKind.u64.wrap ((x : Int) * 2 ^ s)) = ((a + x * 2 ^ s : Nat) : Int) := by
  have h2 : 2 ^ s * 2 ≤ 18446744073709551616 := by rw [← Nat.pow_succ]; exact Nat.pow_le_pow_right (show 0 < 2 by decide) (show s + 1 ≤ 64 by omega)
  have hx2 : x * 2 ^ s ≤ 2 ^ s := by rcases (show x = 0 ∨ x = 1 by omega) with rfl | rfl <;> simp
  have hp : 0 < 2 ^ s := Nat.two_pow_pos s
  have w2 : IntKind.u64.wrap ((x : Int) * 2 ^ s) = ((x * 2 ^ s : Nat) : Int) := by
    have e : (x : Int) * 2 ^ s = ((x * 2 ^ s : Nat) : Int) := by push_cast; rfl
    rw [e]
    generalize x * 2 ^ s = y at *
    generalize 2 ^ s = z at *
    simp [IntKind.wrap, IntKind.signed, IntKind.bits]; omega
  rw [w2]
  have e2 := u64_or_nat a (x * 2 ^ s) (by omega) (by omega)
  rw [e2]
  congr 1
  rw [Nat.or_comm, ← Nat.shiftLeft_eq, ← Nat.shiftLeft_add_eq_or_of_lt ha]
  omega
/-- The first k digits. -/
def digK (m k i : Nat) : Int := if i < k then dig m i else 0
theorem digK_set (m k : Nat) (h : k < 256) : (bc (digK m k)).setIfInBounds k (.int .i64 (dig m k)) = bc (digK m (k + 1)) := by
  rw [bc_set _ _ h]
  apply bc_ext
  intro i hi
  unfold digK
  by_cases e : i = k
  · subst e; simp
  · simp [e]
    by_cases h1 : i < k
    · simp [h1, show i < k + 1 by omega]
    · simp [h1, show ¬ i < k + 1 by omega]
theorem digK_full (m : Nat) : bc (digK m 256) = bc (dig m) := bc_ext fun i hi => by unfold digK; rw [if_pos hi]
theorem digK_zero (m : Nat) : bc (digK m 0) = bc fun _ => 0 := bc_ext fun i _ => by unfold digK; simp
theorem isB (c : Array Value) (h : c.size = 256) : (Try.prog.info? 81).map (·.size) = some c.size := by rw [h]; kernel_rfl
theorem isR4 (c : Array Value) (h : c.size = 4) : (Try.prog.info? 63).map (·.size) = some c.size := by rw [h]; kernel_rfl
theorem alloc_runB (A : Act) (o : Oper) (ho : o.op = .alloc 81) (w : World) : (execOp A.eval o).run Try.prog w = .ok (.value (.pointer (some ⟨w.heap.size, 0, none⟩))) (w.alloc (.cells (bc fun _ => 0) 81)) := by
  unfold execOp
  simp only [ho]
  kernel_rfl
theorem wl_allocB {ops : Array Oper} {rest : List Oper} {o : Oper} {a : Act} {w : World} {Q : Exit → Act → World → Prop} (hgd : o.guard = none) (ho : o.op = .alloc 81)
    (k : wpList Try.prog ops Q rest (a.put o.dst (.pointer (some ⟨w.heap.size, 0, none⟩))) (w.alloc (.cells (bc fun _ => 0) 81))) : wpList Try.prog ops Q (o :: rest) a w :=
  wpList_plain hgd fun _ hK => by
    unfold Oper.wp
    rw [alloc_runB a o ho w]
    exact hK _ _ k
/-- A new row of digits holds Z. -/
def AllocZ (Z : Array Value) : Prop := ∀ (ops : Array Oper) (rest : List Oper) (o : Oper) (a : Act) (w : World) (Q : Exit → Act → World → Prop), o.guard = none → o.op = .alloc 81 → wpList Try.prog ops Q rest (a.put o.dst (.pointer (some ⟨w.heap.size, 0, none⟩))) (w.alloc (.cells Z 81)) → wpList Try.prog ops Q (o :: rest) a w
theorem AllocZ.out {Z : Array Value} (h : AllocZ Z) {ops : Array Oper} {rest : List Oper} {o : Oper} {a : Act} {w : World} {Q : Exit → Act → World → Prop} (h1 : o.guard = none) (h2 : o.op = .alloc 81)
    (k : wpList Try.prog ops Q rest (a.put o.dst (.pointer (some ⟨w.heap.size, 0, none⟩))) (w.alloc (.cells Z 81))) : wpList Try.prog ops Q (o :: rest) a w := h _ _ _ _ _ _ h1 h2 k
theorem allocZ_of {Z : Array Value} (hZ : Z = bc fun _ => 0) : AllocZ Z := fun _ _ _ _ _ _ h1 h2 k => by subst hZ; exact wl_allocB h1 h2 k
theorem and1 (a s : Nat) (ha : a < W64) : bits .and .u64 ((a : Nat) / 2 ^ s : Int) 1 = ((a / 2 ^ s % 2 : Nat) : Int) := bit_u64 a s ha
set_option maxRecDepth 100000 in
set_option maxHeartbeats 1000000 in
theorem digits_any (m : Nat) (w : World) : Calls Try.prog 46 #[uval m] w fun e w' => e = .returned (.agg (bc (dig m))) ∧ Below w.heap.size w w' := by
  obtain ⟨Z, hZ⟩ : ∃ Z, Z = bc fun _ => 0 := ⟨_, rfl⟩
  have HA := allocZ_of hZ
  have HZ := Lib.hid hZ; clear hZ
  unfold uval
  go_enter Try.func46, Try.ntmps46
  go_wp2_with (with_reducible refine HA.out rfl rfl ?_)
  go_loopw [4] (fun i wr => ∃ k : Nat, k ≤ 256 ∧ i = .int .i64 k ∧ Blk wr w.heap.size 63 (ucells m) ∧ Blk wr (w.heap.size + 1) 81 Z ∧ Blk wr (w.heap.size + 2) 81 (bc (digK m k)) ∧ Below w.heap.size w wr) (fun i _ => 256 - (intOf i).toNat)
  case atStart =>
    refine ⟨0, by omega, rfl, ((Blk.newAt _ _ _ rfl).alloc _).alloc _, (Blk.snd _ _ _ _).alloc _, ?_, ba (ba (ba (Below.refl _ _) _) _) _⟩
    rw [digK_zero, ← HZ.out]
    exact Blk.newAt _ _ _ (by simp)
  case round =>
    obtain ⟨k, hk, rfl, h0, h1, h2, hb⟩ := hrel
    by_cases hlt : k < 256
    · obtain ⟨x, hx⟩ : ∃ x, x = m / 2 ^ k % 2 := ⟨_, rfl⟩
      have hx1 : x ≤ 1 := by omega
      have vb : bits .and .u64 ((lim m (k / 64) : Nat) / 2 ^ (k % 64) : Int) 1 = (x : Int) := by
        rw [bit_u64 _ _ (lim_lt _ _), lim_bit, hx]
      have ca := blk_get h0 (k / 64) _ (ucells_at m (k / 64) (by omega))
      have c2 := blk_get h2 k _ (bc_at _ k hlt)
      have f2 := h2.frozen k
      have i4 : k / 64 < 4 := by omega
      have k2 : (k : Int) < 256 := by omega
      have J := Lib.hid (And.intro h0 (And.intro h1 (And.intro h2 (And.intro hb hx)))); clear h0 h1 h2 hb hx
      go_wp2
      go_roundw
      case rel =>
        refine ⟨k + 1, by omega, by go_num, J.out.1.far (by omega) _, J.out.2.1.far (by omega) _, ?_, J.out.2.2.2.1.setCell (by simp; omega) _⟩
        have e : (x : Int) = dig m k := by rw [J.out.2.2.2.2]; rfl
        rw [e]
        exact (J.out.2.2.1.set_ k _).to (digK_set m k hlt)
      case measure => simp [intOf]; omega
    · obtain rfl : k = 256 := by omega
      rw [digK_full] at h2
      obtain ⟨D, hD⟩ : ∃ D, D = bc (dig m) := ⟨_, rfl⟩
      rw [← hD] at h2
      have sD : D.size = 256 := by rw [hD]; exact bc_size _
      have aD : D.all (·.oneCell') = true := by rw [hD]; exact bc_one _
      have iD := isB D sD
      have sZ : Z.size = D.size := by rw [sD, HZ.out]; exact bc_size _
      have J := Lib.hid (And.intro h1 (And.intro h2 (And.intro hb hD))); clear h0 h1 h2 hb hD
      go_wp2_with (first | with_reducible refine wl_row J.out.2.1 _ _ rfl rfl rfl _ _ Try.underlying81 iD ?_ | with_reducible refine ws_row J.out.1 _ _ _ _ rfl rfl rfl rfl iD sZ aD ?_)
      refine bodyPost_ret (v := .agg D) ?_ rfl ⟨by rw [J.out.2.2.2], setRow_below J.out.2.2.1 (by omega) _⟩
      exact results_cell_row rfl _ _ _ _ _ (0, 0) _ rfl (J.out.1.row _) Try.underlying81 rfl iD
/-- The number of a row of digits. -/
theorem number_step (N k : Nat) (hk : k < 256) : lim (N % 2 ^ (k + 1)) (k / 64) = lim (N % 2 ^ k) (k / 64) + N / 2 ^ k % 2 * 2 ^ (k % 64) ∧ lim (N % 2 ^ k) (k / 64) < 2 ^ (k % 64) ∧ ∀ j, j ≠ k / 64 → lim (N % 2 ^ (k + 1)) j = lim (N % 2 ^ k) j := by
  rw [mod_succ]
  exact lim_bitAt _ _ k (Nat.mod_lt _ (Nat.two_pow_pos k)) (by omega)
set_option maxRecDepth 100000 in
set_option maxHeartbeats 1000000 in
theorem number_any (N : Nat) (hN : N < T) (w : World) : Calls Try.prog 47 #[.agg (bc (dig N))] w fun e w' => e = .returned (uval N) ∧ Below w.heap.size w w' := by
  obtain ⟨D, hD⟩ : ∃ D, D = bc (dig N) := ⟨_, rfl⟩
  have atD : ∀ i, i < 256 → D[i]? = some (.int .i64 (N / 2 ^ i % 2 : Nat)) := fun i hi => by rw [hD]; exact bc_at _ i hi
  rw [← hD]
  have HD := Lib.hid (And.intro hD atD); clear hD atD
  have hu : uval N = .agg (ucells N) := rfl
  rw [hu]
  go_enter Try.func47, Try.ntmps47
  go_wp2
  go_loopw [4] (fun i wr => ∃ k : Nat, k ≤ 256 ∧ i = .int .i64 k ∧ Blk wr w.heap.size 81 D ∧ Blk wr (w.heap.size + 1) 63 (ucells 0) ∧ Blk wr (w.heap.size + 2) 63 (ucells (N % 2 ^ k)) ∧ Below w.heap.size w wr) (fun i _ => 256 - (intOf i).toNat)
  case atStart =>
    refine ⟨0, by omega, rfl, ((Blk.newAt _ _ _ rfl).alloc _).alloc _, (Blk.snd _ _ _ _).alloc _, ?_, ba (ba (ba (Below.refl _ _) _) _) _⟩
    rw [Nat.pow_zero, Nat.mod_one]
    exact Blk.newAt _ _ _ (by simp)
  case round =>
    obtain ⟨k, hk, rfl, h0, h1, h2, hb⟩ := hrel
    by_cases hlt : k < 256
    · obtain ⟨x, hx⟩ : ∃ x, x = N / 2 ^ k % 2 := ⟨_, rfl⟩
      obtain ⟨M, hM⟩ : ∃ M, M = N % 2 ^ k := ⟨_, rfl⟩
      obtain ⟨M2, hM2⟩ : ∃ M, M = N % 2 ^ (k + 1) := ⟨_, rfl⟩
      have hx1 : x ≤ 1 := by omega
      have st := number_step N k hlt
      rw [← hx, ← hM, ← hM2] at st
      obtain ⟨st1, st2, st3⟩ := st
      have vo := or_bitAt (lim M (k / 64)) x (k % 64) st2 hx1 (by omega)
      rw [← st1] at vo
      have cx := blk_get h0 k _ (HD.out.2 k hlt)
      rw [← hx] at cx
      rw [← hM] at h2
      have ca := blk_get h2 (k / 64) _ (ucells_at M (k / 64) (by omega))
      have fa := h2.frozen (k / 64)
      have i4 : k / 64 < 4 := by omega
      have k2 : (k : Int) < 256 := by omega
      have J := Lib.hid (And.intro h0 (And.intro h1 (And.intro h2 (And.intro hb (And.intro hM2 st3))))); clear h0 h1 h2 hb hM2 st1 st2 st3 hx hM
      go_wp2
      go_region
      go_wp2
      go_roundw
      case rel =>
        refine ⟨k + 1, by omega, by go_num, (J.out.1.far (by omega) _).drew, (J.out.2.1.far (by omega) _).drew, ?_, (J.out.2.2.2.1.setCell (by simp; omega) _).drew⟩
        have e := ucells_put M M2 (k / 64) i4 (fun j _ hj => J.out.2.2.2.2.2 j hj)
        rw [← J.out.2.2.2.2.1]
        exact ((J.out.2.2.1.set_ (k / 64) _).to e).drew
      case measure => simp [intOf]; omega
    · obtain rfl : k = 256 := by omega
      have e256 : N % 2 ^ 256 = N := Nat.mod_eq_of_lt (by rw [← T_pow]; exact hN)
      rw [e256] at h2
      obtain ⟨U, hU⟩ : ∃ U, U = ucells N := ⟨_, rfl⟩
      rw [← hU] at h2
      have sU : U.size = 4 := by rw [hU]; rfl
      have aU : U.all (·.oneCell') = true := by rw [hU]; simp [ucells, Value.oneCell']
      have iU := isR4 U sU
      have sZ : (ucells 0).size = U.size := by rw [sU]; rfl
      have J := Lib.hid (And.intro h1 (And.intro h2 (And.intro hb hU))); clear h0 h1 h2 hb hU e256
      go_wp2_with (first | with_reducible refine wl_row J.out.2.1 _ _ rfl rfl rfl _ _ Try.underlying63 iU ?_ | with_reducible refine ws_row J.out.1 _ _ _ _ rfl rfl rfl rfl iU sZ aU ?_)
      refine bodyPost_ret (v := .agg U) ?_ rfl ⟨by rw [J.out.2.2.2], setRow_below J.out.2.2.1 (by omega) _⟩
      exact results_cell_row rfl _ _ _ _ _ (0, 0) _ rfl (J.out.1.row _) Try.underlying63 rfl iU
end Go.Proofs.Ytndockjflnicjaa
