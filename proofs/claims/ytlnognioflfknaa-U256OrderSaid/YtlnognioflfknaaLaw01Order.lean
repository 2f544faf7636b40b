/- Sums are as numbers are: the walk of U256Order. -/
import Derived.Test.YtlnognioflfknaaLaw01a
import Derived.Deep.DeepCutAuto
namespace Go.Proofs.Ytlnognioflfknaa
open Go.RowKit
set_option linter.unusedVariables false

def OrderS (w : World) (G0 G1 G2 G3 G4 G5 G6 G7 G8 : Nat) (m n k s d : Nat) : Prop := Cl w G0 (T - 1) ∧ Cl w G1 k ∧ Cl w G2 m ∧ Cl w G3 n ∧ Cl w G4 s ∧ Cl w G5 s ∧ Cl w G6 m ∧ Cl w G7 d ∧ Cl w G8 m
theorem OrderS.calls {w w' : World} {G0 G1 G2 G3 G4 G5 G6 G7 G8 m n k s d : Nat} (h : OrderS w G0 G1 G2 G3 G4 G5 G6 G7 G8 m n k s d) (hb : Below w.heap.size w w') : OrderS w' G0 G1 G2 G3 G4 G5 G6 G7 G8 m n k s d := by
  obtain ⟨h0, h1, h2, h3, h4, h5, h6, h7, h8⟩ := h
  exact ⟨h0.calls hb, h1.calls hb, h2.calls hb, h3.calls hb, h4.calls hb, h5.calls hb, h6.calls hb, h7.calls hb, h8.calls hb⟩
theorem OrderS.out {w : World} {G0 G1 G2 G3 G4 G5 G6 G7 G8 m n k s d : Nat} (h : OrderS w G0 G1 G2 G3 G4 G5 G6 G7 G8 m n k s d) : w.cell? ⟨G0, 0, none⟩ = some (.int .u64 (lim (T - 1) 0)) ∧ w.cell? ⟨G0, 1, none⟩ = some (.int .u64 (lim (T - 1) 1)) ∧ w.cell? ⟨G0, 2, none⟩ = some (.int .u64 (lim (T - 1) 2)) ∧ w.cell? ⟨G0, 3, none⟩ = some (.int .u64 (lim (T - 1) 3)) ∧ w.cell? ⟨G1, 0, none⟩ = some (.int .u64 (lim k 0)) ∧ w.cell? ⟨G1, 1, none⟩ = some (.int .u64 (lim k 1)) ∧ w.cell? ⟨G1, 2, none⟩ = some (.int .u64 (lim k 2)) ∧ w.cell? ⟨G1, 3, none⟩ = some (.int .u64 (lim k 3)) ∧ w.cell? ⟨G2, 0, none⟩ = some (.int .u64 (lim m 0)) ∧ w.cell? ⟨G2, 1, none⟩ = some (.int .u64 (lim m 1)) ∧ w.cell? ⟨G2, 2, none⟩ = some (.int .u64 (lim m 2)) ∧ w.cell? ⟨G2, 3, none⟩ = some (.int .u64 (lim m 3)) ∧ w.cell? ⟨G3, 0, none⟩ = some (.int .u64 (lim n 0)) ∧ w.cell? ⟨G3, 1, none⟩ = some (.int .u64 (lim n 1)) ∧ w.cell? ⟨G3, 2, none⟩ = some (.int .u64 (lim n 2)) ∧ w.cell? ⟨G3, 3, none⟩ = some (.int .u64 (lim n 3)) ∧ w.cell? ⟨G4, 0, none⟩ = some (.int .u64 (lim s 0)) ∧ w.cell? ⟨G4, 1, none⟩ = some (.int .u64 (lim s 1)) ∧ w.cell? ⟨G4, 2, none⟩ = some (.int .u64 (lim s 2)) ∧ w.cell? ⟨G4, 3, none⟩ = some (.int .u64 (lim s 3)) ∧ w.cell? ⟨G5, 0, none⟩ = some (.int .u64 (lim s 0)) ∧ w.cell? ⟨G5, 1, none⟩ = some (.int .u64 (lim s 1)) ∧ w.cell? ⟨G5, 2, none⟩ = some (.int .u64 (lim s 2)) ∧ w.cell? ⟨G5, 3, none⟩ = some (.int .u64 (lim s 3)) ∧ w.cell? ⟨G6, 0, none⟩ = some (.int .u64 (lim m 0)) ∧ w.cell? ⟨G6, 1, none⟩ = some (.int .u64 (lim m 1)) ∧ w.cell? ⟨G6, 2, none⟩ = some (.int .u64 (lim m 2)) ∧ w.cell? ⟨G6, 3, none⟩ = some (.int .u64 (lim m 3)) ∧ w.cell? ⟨G7, 0, none⟩ = some (.int .u64 (lim d 0)) ∧ w.cell? ⟨G7, 1, none⟩ = some (.int .u64 (lim d 1)) ∧ w.cell? ⟨G7, 2, none⟩ = some (.int .u64 (lim d 2)) ∧ w.cell? ⟨G7, 3, none⟩ = some (.int .u64 (lim d 3)) ∧ w.cell? ⟨G8, 0, none⟩ = some (.int .u64 (lim m 0)) ∧ w.cell? ⟨G8, 1, none⟩ = some (.int .u64 (lim m 1)) ∧ w.cell? ⟨G8, 2, none⟩ = some (.int .u64 (lim m 2)) ∧ w.cell? ⟨G8, 3, none⟩ = some (.int .u64 (lim m 3)) := by
  obtain ⟨h0, h1, h2, h3, h4, h5, h6, h7, h8⟩ := h
  exact ⟨h0.1, h0.2.1, h0.2.2.1, h0.2.2.2, h1.1, h1.2.1, h1.2.2.1, h1.2.2.2, h2.1, h2.2.1, h2.2.2.1, h2.2.2.2, h3.1, h3.2.1, h3.2.2.1, h3.2.2.2, h4.1, h4.2.1, h4.2.2.1, h4.2.2.2, h5.1, h5.2.1, h5.2.2.1, h5.2.2.2, h6.1, h6.2.1, h6.2.2.1, h6.2.2.2, h7.1, h7.2.1, h7.2.2.1, h7.2.2.2, h8.1, h8.2.1, h8.2.2.1, h8.2.2.2⟩

set_option maxRecDepth 100000 in
set_option maxHeartbeats 1000000 in
theorem Order_core (m n k s d N : Nat) (ov un : Bool) (w : World) (cm vn vk : Int) (HS : Hid (SumIs m n s ov ∧ SumIs n m s ov ∧ DiffIs s n m ov ∧ DiffIs m n d un ∧ SumIs d n m un ∧ m + N + 1 = T ∧ SumIs m N (T - 1) false ∧ m < T ∧ n < T ∧ k < T ∧ s < T))
   (vs : Int) (HC : Hid (CmpIs s m vs ∧ CmpIs m n cm ∧ CmpIs n m (-cm) ∧ CmpIs n k vn ∧ CmpIs m k vk)) (d1 : decide (vs < 0) = ov) (d2 : decide (cm < 0) = un) (lo : -1 ≤ cm) (hi : cm ≤ 1) (tr : 0 < cm ∨ 0 < vn ∨ vk ≤ 0) :
    Calls Try.prog 3 #[uval m, uval n, uval k] w fun e w' => e = .returned (.bool true) ∧ Below w.heap.size w w' := by
  unfold uval
  go_enter Try.func3, Try.ntmps3
  go_wp2_with fail
  refine (Awake01 _).mono ?_
  rintro e w1 ⟨rfl, hb1⟩
  have b1 := bt (ba (ba (ba (Below.refl _ _) _) _) _) hb1
  have q0x1 : Blk w1 (w.heap.size) 24 (ucells m) := (((Blk.newAt _ _ (ucells m) (by simp)).alloc _).alloc _).calls hb1
  have c0x1 := cl4 q0x1
  have l0x1 := q0x1.lt
  have q1x1 : Blk w1 (w.heap.size + 1) 24 (ucells n) := ((Blk.newAt _ _ (ucells n) (by simp)).alloc _).calls hb1
  have c1x1 := cl4 q1x1
  have l1x1 := q1x1.lt
  have q2x1 : Blk w1 (w.heap.size + 1 + 1) 24 (ucells k) := (Blk.newAt _ _ (ucells k) (by simp)).calls hb1
  have c2x1 := cl4 q2x1
  have l2x1 := q2x1.lt
  clear hb1
  go_wp2_with fail
  refine (Ours_any m _).mono ?_
  rintro e w2 ⟨rfl, hb2⟩
  simp only [uval]
  have b2 := bt b1 hb2
  have q0x2 : Blk w2 (w.heap.size) 24 (ucells m) := q0x1.calls hb2
  clear q0x1 c0x1 l0x1
  have c0x2 := cl4 q0x2
  have l0x2 := q0x2.lt
  have q1x2 : Blk w2 (w.heap.size + 1) 24 (ucells n) := q1x1.calls hb2
  clear q1x1 c1x1 l1x1
  have c1x2 := cl4 q1x2
  have l1x2 := q1x2.lt
  have q2x2 : Blk w2 (w.heap.size + 1 + 1) 24 (ucells k) := q2x1.calls hb2
  clear q2x1 c2x1 l2x1
  have c2x2 := cl4 q2x2
  have l2x2 := q2x2.lt
  clear hb2 b1
  go_wp2_with fail
  refine (Ours_any n _).mono ?_
  rintro e w3 ⟨rfl, hb3⟩
  simp only [uval]
  have b3 := bt (ba b2 _) hb3
  have q0x3 : Blk w3 (w.heap.size) 24 (ucells m) := (q0x2.alloc _).calls hb3
  clear q0x2 c0x2 l0x2
  have c0x3 := cl4 q0x3
  have l0x3 := q0x3.lt
  have q1x3 : Blk w3 (w.heap.size + 1) 24 (ucells n) := (q1x2.alloc _).calls hb3
  clear q1x2 c1x2 l1x2
  have c1x3 := cl4 q1x3
  have l1x3 := q1x3.lt
  have q2x3 : Blk w3 (w.heap.size + 1 + 1) 24 (ucells k) := (q2x2.alloc _).calls hb3
  clear q2x2 c2x2 l2x2
  have c2x3 := cl4 q2x3
  have l2x3 := q2x3.lt
  have q3x3 : Blk w3 (w2.heap.size) 26 (ucells m) := (Blk.newAt w2 _ (ucells m) rfl).calls hb3
  have c3x3 := cl4 q3x3
  have l3x3 := q3x3.lt
  clear hb3 b2
  go_wp2_with fail
  refine (Add_any m n s ov _ HS.out.1).mono ?_
  rintro e w4 ⟨rfl, hb4⟩
  simp only [uval]
  have b4 := bt (ba b3 _) hb4
  have q0x4 : Blk w4 (w.heap.size) 24 (ucells m) := (q0x3.alloc _).calls hb4
  clear q0x3 c0x3 l0x3
  have c0x4 := cl4 q0x4
  have l0x4 := q0x4.lt
  have q1x4 : Blk w4 (w.heap.size + 1) 24 (ucells n) := (q1x3.alloc _).calls hb4
  clear q1x3 c1x3 l1x3
  have c1x4 := cl4 q1x4
  have l1x4 := q1x4.lt
  have q2x4 : Blk w4 (w.heap.size + 1 + 1) 24 (ucells k) := (q2x3.alloc _).calls hb4
  clear q2x3 c2x3 l2x3
  have c2x4 := cl4 q2x4
  have l2x4 := q2x4.lt
  have q3x4 : Blk w4 (w2.heap.size) 26 (ucells m) := (q3x3.alloc _).calls hb4
  clear q3x3 c3x3 l3x3
  have c3x4 := cl4 q3x4
  have l3x4 := q3x4.lt
  have q4x4 : Blk w4 (w3.heap.size) 26 (ucells n) := (Blk.newAt w3 _ (ucells n) rfl).calls hb4
  have c4x4 := cl4 q4x4
  have l4x4 := q4x4.lt
  clear hb4 b3
  go_wp2_with fail
  refine (Add_any n m s ov _ HS.out.2.1).mono ?_
  rintro e w5 ⟨rfl, hb5⟩
  simp only [uval]
  have b5 := bt (ba b4 _) hb5
  have q0x5 : Blk w5 (w.heap.size) 24 (ucells m) := (q0x4.alloc _).calls hb5
  clear q0x4 c0x4 l0x4
  have c0x5 := cl4 q0x5
  have l0x5 := q0x5.lt
  have q1x5 : Blk w5 (w.heap.size + 1) 24 (ucells n) := (q1x4.alloc _).calls hb5
  clear q1x4 c1x4 l1x4
  have c1x5 := cl4 q1x5
  have l1x5 := q1x5.lt
  have q2x5 : Blk w5 (w.heap.size + 1 + 1) 24 (ucells k) := (q2x4.alloc _).calls hb5
  clear q2x4 c2x4 l2x4
  have c2x5 := cl4 q2x5
  have l2x5 := q2x5.lt
  have q3x5 : Blk w5 (w2.heap.size) 26 (ucells m) := (q3x4.alloc _).calls hb5
  clear q3x4 c3x4 l3x4
  have c3x5 := cl4 q3x5
  have l3x5 := q3x5.lt
  have q4x5 : Blk w5 (w3.heap.size) 26 (ucells n) := (q4x4.alloc _).calls hb5
  clear q4x4 c4x4 l4x4
  have c4x5 := cl4 q4x5
  have l4x5 := q4x5.lt
  have q5x5 : Blk w5 (w4.heap.size) 26 (ucells s) := (Blk.newAt w4 _ (ucells s) rfl).calls hb5
  have c5x5 := cl4 q5x5
  have l5x5 := q5x5.lt
  clear hb5 b4
  go_wp2_with fail
  refine (Sub_any s n m ov _ HS.out.2.2.1).mono ?_
  rintro e w6 ⟨rfl, hb6⟩
  simp only [uval]
  have b6 := bt (ba b5 _) hb6
  have q0x6 : Blk w6 (w.heap.size) 24 (ucells m) := (q0x5.alloc _).calls hb6
  clear q0x5 c0x5 l0x5
  have c0x6 := cl4 q0x6
  have l0x6 := q0x6.lt
  have q1x6 : Blk w6 (w.heap.size + 1) 24 (ucells n) := (q1x5.alloc _).calls hb6
  clear q1x5 c1x5 l1x5
  have c1x6 := cl4 q1x6
  have l1x6 := q1x6.lt
  have q2x6 : Blk w6 (w.heap.size + 1 + 1) 24 (ucells k) := (q2x5.alloc _).calls hb6
  clear q2x5 c2x5 l2x5
  have c2x6 := cl4 q2x6
  have l2x6 := q2x6.lt
  have q3x6 : Blk w6 (w2.heap.size) 26 (ucells m) := (q3x5.alloc _).calls hb6
  clear q3x5 c3x5 l3x5
  have c3x6 := cl4 q3x6
  have l3x6 := q3x6.lt
  have q4x6 : Blk w6 (w3.heap.size) 26 (ucells n) := (q4x5.alloc _).calls hb6
  clear q4x5 c4x5 l4x5
  have c4x6 := cl4 q4x6
  have l4x6 := q4x6.lt
  have q5x6 : Blk w6 (w4.heap.size) 26 (ucells s) := (q5x5.alloc _).calls hb6
  clear q5x5 c5x5 l5x5
  have c5x6 := cl4 q5x6
  have l5x6 := q5x6.lt
  have q6x6 : Blk w6 (w5.heap.size) 26 (ucells s) := (Blk.newAt w5 _ (ucells s) rfl).calls hb6
  have c6x6 := cl4 q6x6
  have l6x6 := q6x6.lt
  clear hb6 b5
  go_wp2_with fail
  refine (Sub_any m n d un _ HS.out.2.2.2.1).mono ?_
  rintro e w7 ⟨rfl, hb7⟩
  simp only [uval]
  have b7 := bt (ba b6 _) hb7
  have q0x7 : Blk w7 (w.heap.size) 24 (ucells m) := (q0x6.alloc _).calls hb7
  clear q0x6 c0x6 l0x6
  have c0x7 := cl4 q0x7
  have l0x7 := q0x7.lt
  have q1x7 : Blk w7 (w.heap.size + 1) 24 (ucells n) := (q1x6.alloc _).calls hb7
  clear q1x6 c1x6 l1x6
  have c1x7 := cl4 q1x7
  have l1x7 := q1x7.lt
  have q2x7 : Blk w7 (w.heap.size + 1 + 1) 24 (ucells k) := (q2x6.alloc _).calls hb7
  clear q2x6 c2x6 l2x6
  have c2x7 := cl4 q2x7
  have l2x7 := q2x7.lt
  have q3x7 : Blk w7 (w2.heap.size) 26 (ucells m) := (q3x6.alloc _).calls hb7
  clear q3x6 c3x6 l3x6
  have c3x7 := cl4 q3x7
  have l3x7 := q3x7.lt
  have q4x7 : Blk w7 (w3.heap.size) 26 (ucells n) := (q4x6.alloc _).calls hb7
  clear q4x6 c4x6 l4x6
  have c4x7 := cl4 q4x7
  have l4x7 := q4x7.lt
  have q5x7 : Blk w7 (w4.heap.size) 26 (ucells s) := (q5x6.alloc _).calls hb7
  clear q5x6 c5x6 l5x6
  have c5x7 := cl4 q5x7
  have l5x7 := q5x7.lt
  have q6x7 : Blk w7 (w5.heap.size) 26 (ucells s) := (q6x6.alloc _).calls hb7
  clear q6x6 c6x6 l6x6
  have c6x7 := cl4 q6x7
  have l6x7 := q6x7.lt
  have q7x7 : Blk w7 (w6.heap.size) 26 (ucells m) := (Blk.newAt w6 _ (ucells m) rfl).calls hb7
  have c7x7 := cl4 q7x7
  have l7x7 := q7x7.lt
  clear hb7 b6
  go_wp2_with fail
  refine (Add_any d n m un _ HS.out.2.2.2.2.1).mono ?_
  rintro e w8 ⟨rfl, hb8⟩
  simp only [uval]
  have b8 := bt (ba b7 _) hb8
  have q0x8 : Blk w8 (w.heap.size) 24 (ucells m) := (q0x7.alloc _).calls hb8
  clear q0x7 c0x7 l0x7
  have c0x8 := cl4 q0x8
  have l0x8 := q0x8.lt
  have q1x8 : Blk w8 (w.heap.size + 1) 24 (ucells n) := (q1x7.alloc _).calls hb8
  clear q1x7 c1x7 l1x7
  have c1x8 := cl4 q1x8
  have l1x8 := q1x8.lt
  have q2x8 : Blk w8 (w.heap.size + 1 + 1) 24 (ucells k) := (q2x7.alloc _).calls hb8
  clear q2x7 c2x7 l2x7
  have c2x8 := cl4 q2x8
  have l2x8 := q2x8.lt
  have q3x8 : Blk w8 (w2.heap.size) 26 (ucells m) := (q3x7.alloc _).calls hb8
  clear q3x7 c3x7 l3x7
  have c3x8 := cl4 q3x8
  have l3x8 := q3x8.lt
  have q4x8 : Blk w8 (w3.heap.size) 26 (ucells n) := (q4x7.alloc _).calls hb8
  clear q4x7 c4x7 l4x7
  have c4x8 := cl4 q4x8
  have l4x8 := q4x8.lt
  have q5x8 : Blk w8 (w4.heap.size) 26 (ucells s) := (q5x7.alloc _).calls hb8
  clear q5x7 c5x7 l5x7
  have c5x8 := cl4 q5x8
  have l5x8 := q5x8.lt
  have q6x8 : Blk w8 (w5.heap.size) 26 (ucells s) := (q6x7.alloc _).calls hb8
  clear q6x7 c6x7 l6x7
  have c6x8 := cl4 q6x8
  have l6x8 := q6x8.lt
  have q7x8 : Blk w8 (w6.heap.size) 26 (ucells m) := (q7x7.alloc _).calls hb8
  clear q7x7 c7x7 l7x7
  have c7x8 := cl4 q7x8
  have l7x8 := q7x8.lt
  have q8x8 : Blk w8 (w7.heap.size) 26 (ucells d) := (Blk.newAt w7 _ (ucells d) rfl).calls hb8
  have c8x8 := cl4 q8x8
  have l8x8 := q8x8.lt
  clear hb8 b7
  go_upto_region 9 with fail
  have r0 := q0x8.alloc (Obj.cells (ucells m) 26)
  have r1 := q1x8.alloc (Obj.cells (ucells m) 26)
  have r2 := q2x8.alloc (Obj.cells (ucells m) 26)
  have r3 := q3x8.alloc (Obj.cells (ucells m) 26)
  have r4 := q4x8.alloc (Obj.cells (ucells m) 26)
  have r5 := q5x8.alloc (Obj.cells (ucells m) 26)
  have r6 := q6x8.alloc (Obj.cells (ucells m) 26)
  have r7 := q7x8.alloc (Obj.cells (ucells m) 26)
  have r8 := q8x8.alloc (Obj.cells (ucells m) 26)
  have r9 := (Blk.new w8 26 (ucells m))
  have rb := ba b8 (Obj.cells (ucells m) 26)
  clear q0x8 c0x8 l0x8 q1x8 c1x8 l1x8 q2x8 c2x8 l2x8 q3x8 c3x8 l3x8 q4x8 c4x8 l4x8 q5x8 c5x8 l5x8 q6x8 c6x8 l6x8 q7x8 c7x8 l7x8 q8x8 c8x8 l8x8 b8
  change Code.wp _ _ _ _ (w8.alloc (Obj.cells (ucells m) 26))
  generalize w8.alloc (Obj.cells (ucells m) 26) = W9 at *
  go_cut [20, 21] (fun s20 s21 wx => ∃ (g : Nat) (b : Bool), s20 = .pointer (some ⟨g, 0, none⟩) ∧ s21 = .bool b ∧ Blk wx g 26 (ucells (T - 1)) ∧ Blk wx (w.heap.size) 24 (ucells m) ∧ Blk wx (w.heap.size + 1) 24 (ucells n) ∧ Blk wx (w.heap.size + 1 + 1) 24 (ucells k) ∧ Blk wx (w2.heap.size) 26 (ucells m) ∧ Blk wx (w3.heap.size) 26 (ucells n) ∧ Blk wx (w4.heap.size) 26 (ucells s) ∧ Blk wx (w5.heap.size) 26 (ucells s) ∧ Blk wx (w6.heap.size) 26 (ucells m) ∧ Blk wx (w7.heap.size) 26 (ucells d) ∧ Blk wx (w8.heap.size) 26 (ucells m) ∧ Below w.heap.size w wx)
  case first =>
    have c3 : Cl W9 (w2.heap.size) m := cl4 r3
    have l3 := r3.lt
    have H := Lib.hid (And.intro r0 (And.intro r1 (And.intro r2 (And.intro r3 (And.intro r4 (And.intro r5 (And.intro r6 (And.intro r7 (And.intro r8 (And.intro r9 rb))))))))))
    clear r0 r1 r2 r3 r4 r5 r6 r7 r8 r9 rb
    go_region_held3 (fun w' => w'.cell? ⟨w2.heap.size, 0, none⟩ = some (.int .u64 (lim m 0)) ∧ w'.cell? ⟨w2.heap.size, 1, none⟩ = some (.int .u64 (lim m 1)) ∧ w'.cell? ⟨w2.heap.size, 2, none⟩ = some (.int .u64 (lim m 2)) ∧ w'.cell? ⟨w2.heap.size, 3, none⟩ = some (.int .u64 (lim m 3))) (first | (with_reducible exact c3) | (with_reducible exact Cl.drew c3) | (with_reducible exact sy) | (with_reducible exact Cl.fill sy l3) | (with_reducible exact Cl.fill sy lz) | (with_reducible exact Cl.alloc sy _) | (with_reducible exact sz) | (with_reducible exact Cl.alloc sz _) | (with_reducible exact Cl.drew (Cl.alloc c3 _)) | (with_reducible exact Cl.alloc c3 _)) (first | (go_at_call 14; refine (Not_any m N _ HS.out.2.2.2.2.2.1).mono ?_; rintro e wz ⟨rfl, hz⟩; (first | (have sz := Cl.calls (w := W9.drew) c3 hz) | (have zb := Blk.calls (w := (W9.alloc (Obj.cells zero4 26)).drew) (Blk.drew (Blk.new W9 26 zero4)) hz; have zc := clz zb; have sz := Cl.calls (w := (W9.alloc (Obj.cells zero4 26)).drew) (Cl.drew (Cl.alloc c3 (Obj.cells zero4 26))) hz)); have lz := Cl.lt sz; simp only [uval]) | (go_at_call 12; refine (Add_any m N (T - 1) false _ HS.out.2.2.2.2.2.2.1).mono ?_; rintro e wy ⟨rfl, hy⟩; (first | (have yb := Blk.calls (w := wz) zb hy; have yc := clz yb; have sy := Cl.calls (w := wz) sz hy) | (have sy := Cl.calls (w := wz) sz hy) | (have yb := Blk.calls (w := wz.alloc (Obj.cells zero4 26)) (Blk.new wz 26 zero4) hy; have yc := clz yb; have sy := Cl.calls (w := wz.alloc (Obj.cells zero4 26)) (Cl.alloc sz (Obj.cells zero4 26)) hy)); simp only [uval]))
    all_goals
      go_wp2_with fail
      go_meet
      obtain ⟨r0, r1, r2, r3, r4, r5, r6, r7, r8, r9, rb⟩ := H.out
      first
        | (have tk := zb; exact ⟨W9.heap.size, _, rfl, rfl, Blk.fill yb rfl, Blk.farFill (Blk.calls (w := wz) (Blk.calls (w := (W9.alloc (Obj.cells zero4 26)).drew) (Blk.alloc r0 _) hz) hy) r0.lt, Blk.farFill (Blk.calls (w := wz) (Blk.calls (w := (W9.alloc (Obj.cells zero4 26)).drew) (Blk.alloc r1 _) hz) hy) r1.lt, Blk.farFill (Blk.calls (w := wz) (Blk.calls (w := (W9.alloc (Obj.cells zero4 26)).drew) (Blk.alloc r2 _) hz) hy) r2.lt, Blk.farFill (Blk.calls (w := wz) (Blk.calls (w := (W9.alloc (Obj.cells zero4 26)).drew) (Blk.alloc r3 _) hz) hy) r3.lt, Blk.farFill (Blk.calls (w := wz) (Blk.calls (w := (W9.alloc (Obj.cells zero4 26)).drew) (Blk.alloc r4 _) hz) hy) r4.lt, Blk.farFill (Blk.calls (w := wz) (Blk.calls (w := (W9.alloc (Obj.cells zero4 26)).drew) (Blk.alloc r5 _) hz) hy) r5.lt, Blk.farFill (Blk.calls (w := wz) (Blk.calls (w := (W9.alloc (Obj.cells zero4 26)).drew) (Blk.alloc r6 _) hz) hy) r6.lt, Blk.farFill (Blk.calls (w := wz) (Blk.calls (w := (W9.alloc (Obj.cells zero4 26)).drew) (Blk.alloc r7 _) hz) hy) r7.lt, Blk.farFill (Blk.calls (w := wz) (Blk.calls (w := (W9.alloc (Obj.cells zero4 26)).drew) (Blk.alloc r8 _) hz) hy) r8.lt, Blk.farFill (Blk.calls (w := wz) (Blk.calls (w := (W9.alloc (Obj.cells zero4 26)).drew) (Blk.alloc r9 _) hz) hy) r9.lt, belowFill (bt (bt (b := (W9.alloc (Obj.cells zero4 26)).drew) (ba rb _).drew hz) hy) rb.size⟩)
        | (have tk := yb; exact ⟨wz.heap.size, _, rfl, rfl, Blk.fill yb rfl, Blk.farFill (Blk.calls (w := wz.alloc (Obj.cells zero4 26)) (Blk.alloc (Blk.calls (w := W9.drew) r0 hz) _) hy) (Blk.lt (Blk.calls (w := W9.drew) r0 hz)), Blk.farFill (Blk.calls (w := wz.alloc (Obj.cells zero4 26)) (Blk.alloc (Blk.calls (w := W9.drew) r1 hz) _) hy) (Blk.lt (Blk.calls (w := W9.drew) r1 hz)), Blk.farFill (Blk.calls (w := wz.alloc (Obj.cells zero4 26)) (Blk.alloc (Blk.calls (w := W9.drew) r2 hz) _) hy) (Blk.lt (Blk.calls (w := W9.drew) r2 hz)), Blk.farFill (Blk.calls (w := wz.alloc (Obj.cells zero4 26)) (Blk.alloc (Blk.calls (w := W9.drew) r3 hz) _) hy) (Blk.lt (Blk.calls (w := W9.drew) r3 hz)), Blk.farFill (Blk.calls (w := wz.alloc (Obj.cells zero4 26)) (Blk.alloc (Blk.calls (w := W9.drew) r4 hz) _) hy) (Blk.lt (Blk.calls (w := W9.drew) r4 hz)), Blk.farFill (Blk.calls (w := wz.alloc (Obj.cells zero4 26)) (Blk.alloc (Blk.calls (w := W9.drew) r5 hz) _) hy) (Blk.lt (Blk.calls (w := W9.drew) r5 hz)), Blk.farFill (Blk.calls (w := wz.alloc (Obj.cells zero4 26)) (Blk.alloc (Blk.calls (w := W9.drew) r6 hz) _) hy) (Blk.lt (Blk.calls (w := W9.drew) r6 hz)), Blk.farFill (Blk.calls (w := wz.alloc (Obj.cells zero4 26)) (Blk.alloc (Blk.calls (w := W9.drew) r7 hz) _) hy) (Blk.lt (Blk.calls (w := W9.drew) r7 hz)), Blk.farFill (Blk.calls (w := wz.alloc (Obj.cells zero4 26)) (Blk.alloc (Blk.calls (w := W9.drew) r8 hz) _) hy) (Blk.lt (Blk.calls (w := W9.drew) r8 hz)), Blk.farFill (Blk.calls (w := wz.alloc (Obj.cells zero4 26)) (Blk.alloc (Blk.calls (w := W9.drew) r9 hz) _) hy) (Blk.lt (Blk.calls (w := W9.drew) r9 hz)), belowFill (bt (ba (bt (b := W9.drew) rb.drew hz) _) hy) (bt (b := W9.drew) rb.drew hz).size⟩)
        | exact ⟨wy.heap.size, _, rfl, rfl, Blk.newAt wy _ _ rfl, Blk.alloc (Blk.calls (w := wz) (Blk.calls (w := W9.drew) r0 hz) hy) _, Blk.alloc (Blk.calls (w := wz) (Blk.calls (w := W9.drew) r1 hz) hy) _, Blk.alloc (Blk.calls (w := wz) (Blk.calls (w := W9.drew) r2 hz) hy) _, Blk.alloc (Blk.calls (w := wz) (Blk.calls (w := W9.drew) r3 hz) hy) _, Blk.alloc (Blk.calls (w := wz) (Blk.calls (w := W9.drew) r4 hz) hy) _, Blk.alloc (Blk.calls (w := wz) (Blk.calls (w := W9.drew) r5 hz) hy) _, Blk.alloc (Blk.calls (w := wz) (Blk.calls (w := W9.drew) r6 hz) hy) _, Blk.alloc (Blk.calls (w := wz) (Blk.calls (w := W9.drew) r7 hz) hy) _, Blk.alloc (Blk.calls (w := wz) (Blk.calls (w := W9.drew) r8 hz) hy) _, Blk.alloc (Blk.calls (w := wz) (Blk.calls (w := W9.drew) r9 hz) hy) _, ba (bt (bt (b := W9.drew) rb.drew hz) hy) _⟩
  case rest =>
    obtain ⟨g20, b21, rfl, rfl, rN, r0, r1, r2, r3, r4, r5, r6, r7, r8, r9, rb⟩ := hcut
    clear r0 r1
    have e1 := eqU s s true (by have := HS.out; omega) (by have := HS.out; omega) (by simp)
    have e2 := eqU m m true (by have := HS.out; omega) (by have := HS.out; omega) (by simp)
    have e3 := eqU (T - 1) (T - 1) true (by decide) (by decide) (by simp)
    have c20 := cl4 rN
    have x2 := cl4 r2
    have x3 := cl4 r3
    have x4 := cl4 r4
    have x5 := cl4 r5
    have x6 := cl4 r6
    have x7 := cl4 r7
    have x8 := cl4 r8
    have x9 := cl4 r9
    have s0 : OrderS wc.drew g20 (w.heap.size + 1 + 1) (w2.heap.size) (w3.heap.size) (w4.heap.size) (w5.heap.size) (w6.heap.size) (w7.heap.size) (w8.heap.size) m n k s d := ⟨c20, x2, x3, x4, x5, x6, x7, x8, x9⟩
    have b0 : Below w.heap.size w wc.drew := rb.drew
    clear rN rb c20 r2 x2 r3 x3 r4 x4 r5 x5 r6 x6 r7 x7 r8 x8 r9 x9
    by_cases tA : 0 < cm
    · clear tr
      go_wp2_with fail
      try simp only [List.append_eq, List.cons_append, List.nil_append]
      refine wp_region_class (fun w' => OrderS w' g20 (w.heap.size + 1 + 1) (w2.heap.size) (w3.heap.size) (w4.heap.size) (w5.heap.size) (w6.heap.size) (w7.heap.size) (w8.heap.size) m n k s d ∧ Below w.heap.size w w') (by kernel_rfl) (by kernel_rfl) ⟨s0, b0⟩ ?_
      intro Idx hI V hS hcl
      have hf := fun n => OrderS.out (hS n).1
      repeat go_big_quiet_step (first | (go_at_call 15; (with_reducible refine Calls.cls (Cmp_any s m vs _ HC.out.1) ?_); intro w' hb; exact hcl w' ⟨OrderS.calls (hS _).1 hb, bt (hS _).2 hb⟩) | (go_at_call 15; (with_reducible refine Calls.cls (Cmp_any m n cm _ HC.out.2.1) ?_); intro w' hb; exact hcl w' ⟨OrderS.calls (hS _).1 hb, bt (hS _).2 hb⟩) | (go_at_call 15; (with_reducible refine Calls.cls (Cmp_any n m (-cm) _ HC.out.2.2.1) ?_); intro w' hb; exact hcl w' ⟨OrderS.calls (hS _).1 hb, bt (hS _).2 hb⟩) | (go_at_call 15; (with_reducible refine Calls.cls (Cmp_any n k vn _ HC.out.2.2.2.1) ?_); intro w' hb; exact hcl w' ⟨OrderS.calls (hS _).1 hb, bt (hS _).2 hb⟩) | (go_at_call 15; (with_reducible refine Calls.cls (Cmp_any m k vk _ HC.out.2.2.2.2) ?_); intro w' hb; exact hcl w' ⟨OrderS.calls (hS _).1 hb, bt (hS _).2 hb⟩) | (go_at_call 14; (with_reducible refine Calls.cls (Not_zero _) ?_); intro w' hb; exact hcl w' ⟨OrderS.calls (hS _).1 hb, bt (hS _).2 hb⟩) | (go_at_call 11; (with_reducible refine Calls.cls (Ours_any k _) ?_); intro w' hb; exact hcl w' ⟨OrderS.calls (hS _).1 hb, bt (hS _).2 hb⟩))
      refine wpQuiet_nil ?_
      rintro _ ⟨nq, rfl⟩
      have hbz := (hS nq).2
      go_wp2
      go_ret
      exact ⟨rfl, hbz⟩
    · have dA : decide (0 < cm) = false := by simpa using tA
      by_cases tB : 0 < vn
      · clear tr
        go_wp2_with fail
        try simp only [List.append_eq, List.cons_append, List.nil_append]
        refine wp_region_class (fun w' => OrderS w' g20 (w.heap.size + 1 + 1) (w2.heap.size) (w3.heap.size) (w4.heap.size) (w5.heap.size) (w6.heap.size) (w7.heap.size) (w8.heap.size) m n k s d ∧ Below w.heap.size w w') (by kernel_rfl) (by kernel_rfl) ⟨s0, b0⟩ ?_
        intro Idx hI V hS hcl
        have hf := fun n => OrderS.out (hS n).1
        repeat go_big_quiet_step (first | (go_at_call 15; (with_reducible refine Calls.cls (Cmp_any s m vs _ HC.out.1) ?_); intro w' hb; exact hcl w' ⟨OrderS.calls (hS _).1 hb, bt (hS _).2 hb⟩) | (go_at_call 15; (with_reducible refine Calls.cls (Cmp_any m n cm _ HC.out.2.1) ?_); intro w' hb; exact hcl w' ⟨OrderS.calls (hS _).1 hb, bt (hS _).2 hb⟩) | (go_at_call 15; (with_reducible refine Calls.cls (Cmp_any n m (-cm) _ HC.out.2.2.1) ?_); intro w' hb; exact hcl w' ⟨OrderS.calls (hS _).1 hb, bt (hS _).2 hb⟩) | (go_at_call 15; (with_reducible refine Calls.cls (Cmp_any n k vn _ HC.out.2.2.2.1) ?_); intro w' hb; exact hcl w' ⟨OrderS.calls (hS _).1 hb, bt (hS _).2 hb⟩) | (go_at_call 15; (with_reducible refine Calls.cls (Cmp_any m k vk _ HC.out.2.2.2.2) ?_); intro w' hb; exact hcl w' ⟨OrderS.calls (hS _).1 hb, bt (hS _).2 hb⟩) | (go_at_call 14; (with_reducible refine Calls.cls (Not_zero _) ?_); intro w' hb; exact hcl w' ⟨OrderS.calls (hS _).1 hb, bt (hS _).2 hb⟩) | (go_at_call 11; (with_reducible refine Calls.cls (Ours_any k _) ?_); intro w' hb; exact hcl w' ⟨OrderS.calls (hS _).1 hb, bt (hS _).2 hb⟩))
        refine wpQuiet_nil ?_
        rintro _ ⟨nq, rfl⟩
        have hbz := (hS nq).2
        go_wp2
        go_ret
        exact ⟨rfl, hbz⟩
      · have tC : vk ≤ 0 := by omega
        have dB : decide (0 < vn) = false := by simpa using tB
        clear tr
        go_wp2_with fail
        try simp only [List.append_eq, List.cons_append, List.nil_append]
        refine wp_region_class (fun w' => OrderS w' g20 (w.heap.size + 1 + 1) (w2.heap.size) (w3.heap.size) (w4.heap.size) (w5.heap.size) (w6.heap.size) (w7.heap.size) (w8.heap.size) m n k s d ∧ Below w.heap.size w w') (by kernel_rfl) (by kernel_rfl) ⟨s0, b0⟩ ?_
        intro Idx hI V hS hcl
        have hf := fun n => OrderS.out (hS n).1
        repeat go_big_quiet_step (first | (go_at_call 15; (with_reducible refine Calls.cls (Cmp_any s m vs _ HC.out.1) ?_); intro w' hb; exact hcl w' ⟨OrderS.calls (hS _).1 hb, bt (hS _).2 hb⟩) | (go_at_call 15; (with_reducible refine Calls.cls (Cmp_any m n cm _ HC.out.2.1) ?_); intro w' hb; exact hcl w' ⟨OrderS.calls (hS _).1 hb, bt (hS _).2 hb⟩) | (go_at_call 15; (with_reducible refine Calls.cls (Cmp_any n m (-cm) _ HC.out.2.2.1) ?_); intro w' hb; exact hcl w' ⟨OrderS.calls (hS _).1 hb, bt (hS _).2 hb⟩) | (go_at_call 15; (with_reducible refine Calls.cls (Cmp_any n k vn _ HC.out.2.2.2.1) ?_); intro w' hb; exact hcl w' ⟨OrderS.calls (hS _).1 hb, bt (hS _).2 hb⟩) | (go_at_call 15; (with_reducible refine Calls.cls (Cmp_any m k vk _ HC.out.2.2.2.2) ?_); intro w' hb; exact hcl w' ⟨OrderS.calls (hS _).1 hb, bt (hS _).2 hb⟩) | (go_at_call 14; (with_reducible refine Calls.cls (Not_zero _) ?_); intro w' hb; exact hcl w' ⟨OrderS.calls (hS _).1 hb, bt (hS _).2 hb⟩) | (go_at_call 11; (with_reducible refine Calls.cls (Ours_any k _) ?_); intro w' hb; exact hcl w' ⟨OrderS.calls (hS _).1 hb, bt (hS _).2 hb⟩))
        refine wpQuiet_nil ?_
        rintro _ ⟨nq, rfl⟩
        have hbz := (hS nq).2
        go_wp2
        go_ret
        exact ⟨rfl, hbz⟩
end Go.Proofs.Ytlnognioflfknaa
