/- HashIs: its walk. -/
import Derived.Test.YtfebknplkbeblaaDoorHiO
namespace Go.Proofs.YtfebknplkbeblaaDoor
open Go.RowKit
set_option linter.unusedVariables false
section
variable {P : Program} {Q : Exit → Act → World → Prop} {o : Oper} {A : Act} {w : World} {u : Value}
theorem op_neq_str (t r : TypeId) (x y : Operand) (m n : ByteArray) (b : Bool) (ho : o.op = .binOp .neq t x y r) (hx : A.eval x = .string m) (hy : A.eval y = .string n) (hb : (m.toList == n.toList) = b) : o.wp P A w (fun a' w'' => a' = A.put o.dst (.bool (!b)) ∧ Below w.heap.size w w'') Q := by
  refine op_run ?_
  generalize A.eval = ρ at *
  unfold execOp
  subst hb
  simp [ho, hx, hy, eqGuard, binOp, Op.stringOp, go_sem]
end
theorem idx_u4 (b k : Nat) (hk : k < 4) (w : World) : (Instr.indexAt 58 (.pointer (some ⟨b, 0, none⟩)) (.int .i64 k)).run Tryd.prog w = .ok (.pointer (some ⟨b, k, none⟩)) w := by
  obtain ⟨i, hi⟩ := Option.isSome_iff_exists.1 (show (Tryd.prog.info? 27).isSome = true by kernel_rfl)
  have h1 : i.size = 1 := by
    have : (Tryd.prog.info? 27).map (·.size) = some 1 := by kernel_rfl
    rw [hi] at this
    simpa using this
  have e1 : (0 : Int) ≤ (k : Int) ∧ (k : Int) < (4 : Int) := by omega
  simp [Instr.indexAt, Instr.sureAddr, go_sem, run_underlying Tryd.underlying58, asIntOf, sizeOf, typeInfo, hi, h1, e1, Addr.add]
  rw [if_pos (by omega)]
  by_cases h : k = 0 <;> simp [h]
theorem op_b4 {Q : Exit → Act → World → Prop} {o : Oper} {A : Act} {w : World} (a b c d : Nat) (x y z t : Operand) (ho : o.op = .build 62 #[(0, x), (1, y), (2, z), (3, t)]) (hx : A.eval x = .int .u64 a) (hy : A.eval y = .int .u64 b) (hz : A.eval z = .int .u64 c) (ht : A.eval t = .int .u64 d) :
    o.wp Tryd.prog A w (fun a' w'' => a' = A.put o.dst (.agg #[.int .u64 a, .int .u64 b, .int .u64 c, .int .u64 d]) ∧ Below w.heap.size w w'') Q := by
  have hr := run_build (P := Tryd.prog) w 62 #[(0, .int .u64 a), (1, .int .u64 b), (2, .int .u64 c), (3, .int .u64 d)] #[.int .u64 a, .int .u64 b, .int .u64 c, .int .u64 d] (by kernel_rfl)
  refine op_run ?_
  generalize A.eval = ρ at *
  unfold execOp
  simp only [ho]
  simp [hx, hy, hz, ht, hr, go_sem]
theorem op_b32 {Q : Exit → Act → World → Prop} {o : Oper} {A : Act} {w : World} (ho : o.op = .build 38 #[]) :
    o.wp Tryd.prog A w (fun a' w'' => a' = A.put o.dst (.agg #[.int .u8 0, .int .u8 0, .int .u8 0, .int .u8 0, .int .u8 0, .int .u8 0, .int .u8 0, .int .u8 0, .int .u8 0, .int .u8 0, .int .u8 0, .int .u8 0, .int .u8 0, .int .u8 0, .int .u8 0, .int .u8 0, .int .u8 0, .int .u8 0, .int .u8 0, .int .u8 0, .int .u8 0, .int .u8 0, .int .u8 0, .int .u8 0, .int .u8 0, .int .u8 0, .int .u8 0, .int .u8 0, .int .u8 0, .int .u8 0, .int .u8 0, .int .u8 0]) ∧ Below w.heap.size w w'') Q := by
  have hr := run_build (P := Tryd.prog) w 38 #[] #[.int .u8 0, .int .u8 0, .int .u8 0, .int .u8 0, .int .u8 0, .int .u8 0, .int .u8 0, .int .u8 0, .int .u8 0, .int .u8 0, .int .u8 0, .int .u8 0, .int .u8 0, .int .u8 0, .int .u8 0, .int .u8 0, .int .u8 0, .int .u8 0, .int .u8 0, .int .u8 0, .int .u8 0, .int .u8 0, .int .u8 0, .int .u8 0, .int .u8 0, .int .u8 0, .int .u8 0, .int .u8 0, .int .u8 0, .int .u8 0, .int .u8 0, .int .u8 0] (by kernel_rfl)
  refine op_run ?_
  generalize A.eval = ρ at *
  unfold execOp
  simp only [ho]
  simp [hr, go_sem]
set_option maxRecDepth 100000 in
set_option maxHeartbeats 8000000 in
theorem HIs_core (w : World) (hL : Laid w) (A1 A2 UN UM PL FB CP : Array Value) (S0 S1 : ByteArray) (M N E ns n4 n5 c4 c5 : Nat) (a4 a5 : Option Addr) (cc : Int) (bw bz : Bool)
    (i1 : (Tryd.prog.info? 38).map (·.size) = some A1.size) (i2 : (Tryd.prog.info? 38).map (·.size) = some A2.size) (iN : (Tryd.prog.info? 58).map (·.size) = some UN.size)
    (iP : (Tryd.prog.info? 38).map (·.size) = some PL.size) (zP : (#[.int .u8 0, .int .u8 0, .int .u8 0, .int .u8 0, .int .u8 0, .int .u8 0, .int .u8 0, .int .u8 0, .int .u8 0, .int .u8 0, .int .u8 0, .int .u8 0, .int .u8 0, .int .u8 0, .int .u8 0, .int .u8 0, .int .u8 0, .int .u8 0, .int .u8 0, .int .u8 0, .int .u8 0, .int .u8 0, .int .u8 0, .int .u8 0, .int .u8 0, .int .u8 0, .int .u8 0, .int .u8 0, .int .u8 0, .int .u8 0, .int .u8 0, .int .u8 0] : Array Value).size = PL.size) (aP : PL.all (·.oneCell') = true)
    (iM62 : (Tryd.prog.info? 62).map (·.size) = some UM.size) (iM58 : (Tryd.prog.info? 58).map (·.size) = some UM.size) (zM : (#[.int .u64 0, .int .u64 0, .int .u64 0, .int .u64 0] : Array Value).size = UM.size) (aM : UM.all (·.oneCell') = true)
    (hS : S0.size = ns) (hns : ns ≤ 9223372036854775807) (hn4 : n4 ≤ 140737488355328) (hn5 : n5 ≤ 140737488355328)
    (aw : ∀ w, Calls Tryd.prog 37 #[] w fun e w' => e = .returned (.bool true) ∧ Below w.heap.size w w')
    (HC : Hid ((∀ w, ns ≤ 200 → Calls Tryd.prog 42 #[.string S0] w fun e w' => e = .returned (.tuple #[.agg PL, .int .i64 (E : Nat)]) ∧ Below w.heap.size w w') ∧
      (∀ w, ns ≤ 200 → Calls Tryd.prog 43 #[.string S0] w fun e w' => e = .returned (.tuple #[.agg PL, .int .i64 (E : Nat)]) ∧ Below w.heap.size w w') ∧
      (∀ w, Calls Tryd.prog 44 #[.agg A1] w fun e w' => e = .returned (.agg UM) ∧ Below w.heap.size w w') ∧
      (∀ w, Calls Tryd.prog 45 #[.agg A1] w fun e w' => e = .returned (.agg UM) ∧ Below w.heap.size w w')))
    (H8 : Hid ((∀ w, (Op.equalIn 10000 38 (.agg PL) (.agg PL)).run Tryd.prog w = .ok true w) ∧ (∀ k, k < 4 → UM[k]? = some (.int .u64 (lim M k : Nat))) ∧ (∀ k, k < 4 → UN[k]? = some (.int .u64 (lim N k : Nat))) ∧
      (∀ w, (Op.equalIn 10000 62 (.agg UM) (.agg #[.int .u64 (lim M 0 : Nat), .int .u64 (lim M 1 : Nat), .int .u64 (lim M 2 : Nat), .int .u64 (lim M 3 : Nat)])).run Tryd.prog w = .ok true w) ∧
      (∀ w, Calls Tryd.prog 41 #[.agg A1] w fun e w' => e = .returned (.string S1) ∧ Below w.heap.size w w') ∧ (∀ w, Calls Tryd.prog 46 #[.agg A1] w fun e w' => e = .returned (.string S1) ∧ Below w.heap.size w w') ∧
      (∀ w, Calls Tryd.prog 47 #[.agg #[.int .u64 (lim N 0 : Nat), .int .u64 (lim N 1 : Nat), .int .u64 (lim N 2 : Nat), .int .u64 (lim N 3 : Nat)]] w fun e w' => e = .returned (.agg FB) ∧ Below w.heap.size w w') ∧ (∀ w, Calls Tryd.prog 48 #[.agg UN] w fun e w' => e = .returned (.agg FB) ∧ Below w.heap.size w w') ∧
      (∀ w, (Op.equalIn 10000 38 (.agg FB) (.agg FB)).run Tryd.prog w = .ok true w)))
    (H10 : Hid ((∀ w, Calls Tryd.prog 39 #[.agg A1, .agg A2] w fun e w' => e = .returned (.int .i64 cc) ∧ Below w.heap.size w w') ∧ (∀ w, Calls Tryd.prog 49 #[.agg A1, .agg A2] w fun e w' => e = .returned (.int .i64 cc) ∧ Below w.heap.size w w') ∧
      (∀ w', Below w.heap.size w w' → Calls Tryd.prog 40 #[.agg A1, .agg A2] w' fun e w'' => e = .returned (.agg CP) ∧ Below w'.heap.size w' w'') ∧ (∀ w', Below w.heap.size w w' → Calls Tryd.prog 50 #[.agg A1, .agg A2] w' fun e w'' => e = .returned (.agg CP) ∧ Below w'.heap.size w' w'') ∧
      (∀ w, (Op.equalIn 10000 38 (.agg CP) (.agg CP)).run Tryd.prog w = .ok true w) ∧
      (∀ w', Below w.heap.size w w' → Calls Tryd.prog 38 #[.slice a4 n4 c4, .slice a5 n5 c5] w' fun e w'' => e = .returned (.bool bw) ∧ Below w'.heap.size w' w'') ∧ (∀ w', Below w.heap.size w w' → n4 ≤ 200 → n5 ≤ 200 → Calls Tryd.prog 51 #[.slice a4 n4 c4, .slice a5 n5 c5] w' fun e w'' => e = .returned (.bool bw) ∧ Below w'.heap.size w' w'') ∧
      (∀ w, Calls Tryd.prog 52 #[.agg A1] w fun e w' => e = .returned (.bool bz) ∧ Below w.heap.size w w') ∧ (∀ w, (Op.equalIn 10000 38 (.agg A1) (.agg #[.int .u8 0, .int .u8 0, .int .u8 0, .int .u8 0, .int .u8 0, .int .u8 0, .int .u8 0, .int .u8 0, .int .u8 0, .int .u8 0, .int .u8 0, .int .u8 0, .int .u8 0, .int .u8 0, .int .u8 0, .int .u8 0, .int .u8 0, .int .u8 0, .int .u8 0, .int .u8 0, .int .u8 0, .int .u8 0, .int .u8 0, .int .u8 0, .int .u8 0, .int .u8 0, .int .u8 0, .int .u8 0, .int .u8 0, .int .u8 0, .int .u8 0, .int .u8 0])).run Tryd.prog w = .ok bz w))) :
    Calls Tryd.prog 10 #[.agg A1, .agg A2, .string S0, .agg UN, .slice a4 n4 c4, .slice a5 n5 c5] w fun e w' => e = .returned (.bool true) ∧ Below w.heap.size w w' := by
  have bb : Below w.heap.size w (((w.alloc (.cells A1 38)).alloc (.cells A2 38)).alloc (.cells UN 58)) := ba (ba (ba (Below.refl _ _) _) _) _
  have B1 : Blk (((w.alloc (.cells A1 38)).alloc (.cells A2 38)).alloc (.cells UN 58)) w.heap.size 38 A1 := ((Blk.newAt w _ A1 rfl).alloc _).alloc _
  have B2 : Blk (((w.alloc (.cells A1 38)).alloc (.cells A2 38)).alloc (.cells UN 58)) (w.heap.size + 1) 38 A2 := (Blk.second w _ _ _).alloc _
  have B3 : Blk (((w.alloc (.cells A1 38)).alloc (.cells A2 38)).alloc (.cells UN 58)) (w.heap.size + 2) 58 UN := Blk.newAt _ _ _ (by simp)
  have K0 := Lib.hid (And.intro B1 (And.intro B2 (And.intro B3 bb))); clear bb B1 B2 B3
  have ps1 := fun (h : ns ≤ 200) w => HC.out.1 w h
  have ps2 := fun (h : ns ≤ 200) w => HC.out.2.1 w h
  have nm1 := HC.out.2.2.1
  have nm2 := HC.out.2.2.2
  go_enter Tryd.func10, Tryd.ntmps10
  go_wp2_with fail
  refine (aw _).mono ?_
  rintro e w1 ⟨rfl, hb1⟩
  have K1 := Lib.hid (And.intro (K0.out.1.calls hb1) (And.intro (K0.out.2.1.calls hb1) (And.intro (K0.out.2.2.1.calls hb1) (bt K0.out.2.2.2 hb1))))
  clear hb1 K0
  by_cases b0 : 200 < ns
  · have b0' : (200 : Int) < (ns : Int) := by omega
    go_wp2
    go_ret
    exact ⟨rfl, K1.out.2.2.2⟩
  have b0' : ¬ (200 : Int) < (ns : Int) := by omega
  by_cases b1 : 200 < n4
  · have b1' : (200 : Int) < (n4 : Int) := by omega
    go_wp2
    go_ret
    exact ⟨rfl, K1.out.2.2.2⟩
  have b1' : ¬ (200 : Int) < (n4 : Int) := by omega
  by_cases b2 : 200 < n5
  · have b2' : (200 : Int) < (n5 : Int) := by omega
    go_wp2
    go_ret
    exact ⟨rfl, K1.out.2.2.2⟩
  have b2' : ¬ (200 : Int) < (n5 : Int) := by omega
  go_wp2_with fail
  refine (ps1 (by omega) w1).mono ?_
  rintro e w2 ⟨rfl, hb1⟩
  have K2a := Lib.hid (And.intro (K1.out.1.calls hb1) (And.intro (K1.out.2.1.calls hb1) (And.intro (K1.out.2.2.1.calls hb1) (bt K1.out.2.2.2 hb1))))
  clear hb1 K1
  have ne0 := K2a.out.1.lt
  have ne1 := K2a.out.2.1.lt
  have ne2 := K2a.out.2.2.1.lt
  have N : Blk _ w2.heap.size 38 #[.int .u8 0, .int .u8 0, .int .u8 0, .int .u8 0, .int .u8 0, .int .u8 0, .int .u8 0, .int .u8 0, .int .u8 0, .int .u8 0, .int .u8 0, .int .u8 0, .int .u8 0, .int .u8 0, .int .u8 0, .int .u8 0, .int .u8 0, .int .u8 0, .int .u8 0, .int .u8 0, .int .u8 0, .int .u8 0, .int .u8 0, .int .u8 0, .int .u8 0, .int .u8 0, .int .u8 0, .int .u8 0, .int .u8 0, .int .u8 0, .int .u8 0, .int .u8 0] := Blk.new w2 38 #[.int .u8 0, .int .u8 0, .int .u8 0, .int .u8 0, .int .u8 0, .int .u8 0, .int .u8 0, .int .u8 0, .int .u8 0, .int .u8 0, .int .u8 0, .int .u8 0, .int .u8 0, .int .u8 0, .int .u8 0, .int .u8 0, .int .u8 0, .int .u8 0, .int .u8 0, .int .u8 0, .int .u8 0, .int .u8 0, .int .u8 0, .int .u8 0, .int .u8 0, .int .u8 0, .int .u8 0, .int .u8 0, .int .u8 0, .int .u8 0, .int .u8 0, .int .u8 0]
  have Y := Lib.hid ((K2a.out.1.alloc (.cells #[.int .u8 0, .int .u8 0, .int .u8 0, .int .u8 0, .int .u8 0, .int .u8 0, .int .u8 0, .int .u8 0, .int .u8 0, .int .u8 0, .int .u8 0, .int .u8 0, .int .u8 0, .int .u8 0, .int .u8 0, .int .u8 0, .int .u8 0, .int .u8 0, .int .u8 0, .int .u8 0, .int .u8 0, .int .u8 0, .int .u8 0, .int .u8 0, .int .u8 0, .int .u8 0, .int .u8 0, .int .u8 0, .int .u8 0, .int .u8 0, .int .u8 0, .int .u8 0] 38)).rowFar (Nat.ne_of_lt ne0) PL)
  go_wp2_with (first | with_reducible refine ws_row N _ _ _ _ rfl rfl rfl rfl iP zP aP ?_)
  have K3 := Lib.hid (And.intro ((K2a.out.1.alloc (.cells #[.int .u8 0, .int .u8 0, .int .u8 0, .int .u8 0, .int .u8 0, .int .u8 0, .int .u8 0, .int .u8 0, .int .u8 0, .int .u8 0, .int .u8 0, .int .u8 0, .int .u8 0, .int .u8 0, .int .u8 0, .int .u8 0, .int .u8 0, .int .u8 0, .int .u8 0, .int .u8 0, .int .u8 0, .int .u8 0, .int .u8 0, .int .u8 0, .int .u8 0, .int .u8 0, .int .u8 0, .int .u8 0, .int .u8 0, .int .u8 0, .int .u8 0, .int .u8 0] 38)).rowFar (Nat.ne_of_lt ne0) PL) (And.intro ((K2a.out.2.1.alloc (.cells #[.int .u8 0, .int .u8 0, .int .u8 0, .int .u8 0, .int .u8 0, .int .u8 0, .int .u8 0, .int .u8 0, .int .u8 0, .int .u8 0, .int .u8 0, .int .u8 0, .int .u8 0, .int .u8 0, .int .u8 0, .int .u8 0, .int .u8 0, .int .u8 0, .int .u8 0, .int .u8 0, .int .u8 0, .int .u8 0, .int .u8 0, .int .u8 0, .int .u8 0, .int .u8 0, .int .u8 0, .int .u8 0, .int .u8 0, .int .u8 0, .int .u8 0, .int .u8 0] 38)).rowFar (Nat.ne_of_lt ne1) PL) (And.intro ((K2a.out.2.2.1.alloc (.cells #[.int .u8 0, .int .u8 0, .int .u8 0, .int .u8 0, .int .u8 0, .int .u8 0, .int .u8 0, .int .u8 0, .int .u8 0, .int .u8 0, .int .u8 0, .int .u8 0, .int .u8 0, .int .u8 0, .int .u8 0, .int .u8 0, .int .u8 0, .int .u8 0, .int .u8 0, .int .u8 0, .int .u8 0, .int .u8 0, .int .u8 0, .int .u8 0, .int .u8 0, .int .u8 0, .int .u8 0, .int .u8 0, .int .u8 0, .int .u8 0, .int .u8 0, .int .u8 0] 38)).rowFar (Nat.ne_of_lt ne2) PL) (And.intro (N.row PL) (setRow_below (ba K2a.out.2.2.2 (.cells #[.int .u8 0, .int .u8 0, .int .u8 0, .int .u8 0, .int .u8 0, .int .u8 0, .int .u8 0, .int .u8 0, .int .u8 0, .int .u8 0, .int .u8 0, .int .u8 0, .int .u8 0, .int .u8 0, .int .u8 0, .int .u8 0, .int .u8 0, .int .u8 0, .int .u8 0, .int .u8 0, .int .u8 0, .int .u8 0, .int .u8 0, .int .u8 0, .int .u8 0, .int .u8 0, .int .u8 0, .int .u8 0, .int .u8 0, .int .u8 0, .int .u8 0, .int .u8 0] 38)) K2a.out.2.2.2.size PL)))))
  clear N Y ne0 ne1 ne2 K2a
  generalize World.setRow _ _ _ = w3 at *
  generalize w2.heap.size = g14 at *
  refine (ps2 (by omega) w3).mono ?_
  rintro e w4 ⟨rfl, hb1⟩
  have K4 := Lib.hid (And.intro (K3.out.1.calls hb1) (And.intro (K3.out.2.1.calls hb1) (And.intro (K3.out.2.2.1.calls hb1) (And.intro (K3.out.2.2.2.1.calls hb1) (bt K3.out.2.2.2.2 hb1)))))
  clear hb1 K3
  have ne0 := K4.out.1.lt
  have ne1 := K4.out.2.1.lt
  have ne2 := K4.out.2.2.1.lt
  have ne3 := K4.out.2.2.2.1.lt
  have N : Blk _ w4.heap.size 38 #[.int .u8 0, .int .u8 0, .int .u8 0, .int .u8 0, .int .u8 0, .int .u8 0, .int .u8 0, .int .u8 0, .int .u8 0, .int .u8 0, .int .u8 0, .int .u8 0, .int .u8 0, .int .u8 0, .int .u8 0, .int .u8 0, .int .u8 0, .int .u8 0, .int .u8 0, .int .u8 0, .int .u8 0, .int .u8 0, .int .u8 0, .int .u8 0, .int .u8 0, .int .u8 0, .int .u8 0, .int .u8 0, .int .u8 0, .int .u8 0, .int .u8 0, .int .u8 0] := Blk.new w4 38 #[.int .u8 0, .int .u8 0, .int .u8 0, .int .u8 0, .int .u8 0, .int .u8 0, .int .u8 0, .int .u8 0, .int .u8 0, .int .u8 0, .int .u8 0, .int .u8 0, .int .u8 0, .int .u8 0, .int .u8 0, .int .u8 0, .int .u8 0, .int .u8 0, .int .u8 0, .int .u8 0, .int .u8 0, .int .u8 0, .int .u8 0, .int .u8 0, .int .u8 0, .int .u8 0, .int .u8 0, .int .u8 0, .int .u8 0, .int .u8 0, .int .u8 0, .int .u8 0]
  have Y := Lib.hid ((K4.out.1.alloc (.cells #[.int .u8 0, .int .u8 0, .int .u8 0, .int .u8 0, .int .u8 0, .int .u8 0, .int .u8 0, .int .u8 0, .int .u8 0, .int .u8 0, .int .u8 0, .int .u8 0, .int .u8 0, .int .u8 0, .int .u8 0, .int .u8 0, .int .u8 0, .int .u8 0, .int .u8 0, .int .u8 0, .int .u8 0, .int .u8 0, .int .u8 0, .int .u8 0, .int .u8 0, .int .u8 0, .int .u8 0, .int .u8 0, .int .u8 0, .int .u8 0, .int .u8 0, .int .u8 0] 38)).rowFar (Nat.ne_of_lt ne0) PL)
  go_wp2_with (first | with_reducible refine ws_row N _ _ _ _ rfl rfl rfl rfl iP zP aP ?_ | with_reducible refine wl_row Y.out _ _ rfl rfl rfl _ _ Tryd.underlying38 i1 ?_)
  have K5 := Lib.hid (And.intro ((K4.out.1.alloc (.cells #[.int .u8 0, .int .u8 0, .int .u8 0, .int .u8 0, .int .u8 0, .int .u8 0, .int .u8 0, .int .u8 0, .int .u8 0, .int .u8 0, .int .u8 0, .int .u8 0, .int .u8 0, .int .u8 0, .int .u8 0, .int .u8 0, .int .u8 0, .int .u8 0, .int .u8 0, .int .u8 0, .int .u8 0, .int .u8 0, .int .u8 0, .int .u8 0, .int .u8 0, .int .u8 0, .int .u8 0, .int .u8 0, .int .u8 0, .int .u8 0, .int .u8 0, .int .u8 0] 38)).rowFar (Nat.ne_of_lt ne0) PL) (And.intro ((K4.out.2.1.alloc (.cells #[.int .u8 0, .int .u8 0, .int .u8 0, .int .u8 0, .int .u8 0, .int .u8 0, .int .u8 0, .int .u8 0, .int .u8 0, .int .u8 0, .int .u8 0, .int .u8 0, .int .u8 0, .int .u8 0, .int .u8 0, .int .u8 0, .int .u8 0, .int .u8 0, .int .u8 0, .int .u8 0, .int .u8 0, .int .u8 0, .int .u8 0, .int .u8 0, .int .u8 0, .int .u8 0, .int .u8 0, .int .u8 0, .int .u8 0, .int .u8 0, .int .u8 0, .int .u8 0] 38)).rowFar (Nat.ne_of_lt ne1) PL) (And.intro ((K4.out.2.2.1.alloc (.cells #[.int .u8 0, .int .u8 0, .int .u8 0, .int .u8 0, .int .u8 0, .int .u8 0, .int .u8 0, .int .u8 0, .int .u8 0, .int .u8 0, .int .u8 0, .int .u8 0, .int .u8 0, .int .u8 0, .int .u8 0, .int .u8 0, .int .u8 0, .int .u8 0, .int .u8 0, .int .u8 0, .int .u8 0, .int .u8 0, .int .u8 0, .int .u8 0, .int .u8 0, .int .u8 0, .int .u8 0, .int .u8 0, .int .u8 0, .int .u8 0, .int .u8 0, .int .u8 0] 38)).rowFar (Nat.ne_of_lt ne2) PL) (And.intro ((K4.out.2.2.2.1.alloc (.cells #[.int .u8 0, .int .u8 0, .int .u8 0, .int .u8 0, .int .u8 0, .int .u8 0, .int .u8 0, .int .u8 0, .int .u8 0, .int .u8 0, .int .u8 0, .int .u8 0, .int .u8 0, .int .u8 0, .int .u8 0, .int .u8 0, .int .u8 0, .int .u8 0, .int .u8 0, .int .u8 0, .int .u8 0, .int .u8 0, .int .u8 0, .int .u8 0, .int .u8 0, .int .u8 0, .int .u8 0, .int .u8 0, .int .u8 0, .int .u8 0, .int .u8 0, .int .u8 0] 38)).rowFar (Nat.ne_of_lt ne3) PL) (And.intro (N.row PL) (setRow_below (ba K4.out.2.2.2.2 (.cells #[.int .u8 0, .int .u8 0, .int .u8 0, .int .u8 0, .int .u8 0, .int .u8 0, .int .u8 0, .int .u8 0, .int .u8 0, .int .u8 0, .int .u8 0, .int .u8 0, .int .u8 0, .int .u8 0, .int .u8 0, .int .u8 0, .int .u8 0, .int .u8 0, .int .u8 0, .int .u8 0, .int .u8 0, .int .u8 0, .int .u8 0, .int .u8 0, .int .u8 0, .int .u8 0, .int .u8 0, .int .u8 0, .int .u8 0, .int .u8 0, .int .u8 0, .int .u8 0] 38)) K4.out.2.2.2.2.size PL))))))
  clear N Y ne0 ne1 ne2 ne3 K4
  generalize World.setRow _ _ _ = w5 at *
  generalize w4.heap.size = g16 at *
  refine (nm1 w5).mono ?_
  rintro e w6 ⟨rfl, hb1⟩
  have K6 := Lib.hid (And.intro (K5.out.1.calls hb1) (And.intro (K5.out.2.1.calls hb1) (And.intro (K5.out.2.2.1.calls hb1) (And.intro (K5.out.2.2.2.1.calls hb1) (And.intro (K5.out.2.2.2.2.1.calls hb1) (bt K5.out.2.2.2.2.2 hb1))))))
  clear hb1 K5
  have ne0 := K6.out.1.lt
  have ne1 := K6.out.2.1.lt
  have ne2 := K6.out.2.2.1.lt
  have ne3 := K6.out.2.2.2.1.lt
  have ne4 := K6.out.2.2.2.2.1.lt
  have N : Blk _ w6.heap.size 62 #[.int .u64 0, .int .u64 0, .int .u64 0, .int .u64 0] := Blk.new w6 62 #[.int .u64 0, .int .u64 0, .int .u64 0, .int .u64 0]
  have Y := Lib.hid ((K6.out.1.alloc (.cells #[.int .u64 0, .int .u64 0, .int .u64 0, .int .u64 0] 62)).rowFar (Nat.ne_of_lt ne0) UM)
  go_wp2_with (first | with_reducible refine ws_row N _ _ _ _ rfl rfl rfl rfl iM62 zM aM ?_ | with_reducible refine wl_row Y.out _ _ rfl rfl rfl _ _ Tryd.underlying38 i1 ?_)
  have K7 := Lib.hid (And.intro ((K6.out.1.alloc (.cells #[.int .u64 0, .int .u64 0, .int .u64 0, .int .u64 0] 62)).rowFar (Nat.ne_of_lt ne0) UM) (And.intro ((K6.out.2.1.alloc (.cells #[.int .u64 0, .int .u64 0, .int .u64 0, .int .u64 0] 62)).rowFar (Nat.ne_of_lt ne1) UM) (And.intro ((K6.out.2.2.1.alloc (.cells #[.int .u64 0, .int .u64 0, .int .u64 0, .int .u64 0] 62)).rowFar (Nat.ne_of_lt ne2) UM) (And.intro ((K6.out.2.2.2.1.alloc (.cells #[.int .u64 0, .int .u64 0, .int .u64 0, .int .u64 0] 62)).rowFar (Nat.ne_of_lt ne3) UM) (And.intro ((K6.out.2.2.2.2.1.alloc (.cells #[.int .u64 0, .int .u64 0, .int .u64 0, .int .u64 0] 62)).rowFar (Nat.ne_of_lt ne4) UM) (And.intro (N.row UM) (setRow_below (ba K6.out.2.2.2.2.2 (.cells #[.int .u64 0, .int .u64 0, .int .u64 0, .int .u64 0] 62)) K6.out.2.2.2.2.2.size UM)))))))
  clear N Y ne0 ne1 ne2 ne3 ne4 K6
  generalize World.setRow _ _ _ = w7 at *
  generalize w6.heap.size = g18 at *
  refine (nm2 w7).mono ?_
  rintro e w8 ⟨rfl, hb1⟩
  have K8 := Lib.hid (And.intro (K7.out.1.calls hb1) (And.intro (K7.out.2.1.calls hb1) (And.intro (K7.out.2.2.1.calls hb1) (And.intro (K7.out.2.2.2.1.calls hb1) (And.intro (K7.out.2.2.2.2.1.calls hb1) (And.intro (K7.out.2.2.2.2.2.1.calls hb1) (bt K7.out.2.2.2.2.2.2 hb1)))))))
  clear hb1 K7
  have ne0 := K8.out.1.lt
  have ne1 := K8.out.2.1.lt
  have ne2 := K8.out.2.2.1.lt
  have ne3 := K8.out.2.2.2.1.lt
  have ne4 := K8.out.2.2.2.2.1.lt
  have ne5 := K8.out.2.2.2.2.2.1.lt
  have N : Blk _ w8.heap.size 58 #[.int .u64 0, .int .u64 0, .int .u64 0, .int .u64 0] := Blk.new w8 58 #[.int .u64 0, .int .u64 0, .int .u64 0, .int .u64 0]
  have Y := Lib.hid ((K8.out.1.alloc (.cells #[.int .u64 0, .int .u64 0, .int .u64 0, .int .u64 0] 58)).rowFar (Nat.ne_of_lt ne0) UM)
  go_wp2_with (first | with_reducible refine ws_row N _ _ _ _ rfl rfl rfl rfl iM58 zM aM ?_)
  have KK := Lib.hid (And.intro ((K8.out.1.alloc (.cells #[.int .u64 0, .int .u64 0, .int .u64 0, .int .u64 0] 58)).rowFar (Nat.ne_of_lt ne0) UM) (And.intro ((K8.out.2.1.alloc (.cells #[.int .u64 0, .int .u64 0, .int .u64 0, .int .u64 0] 58)).rowFar (Nat.ne_of_lt ne1) UM) (And.intro ((K8.out.2.2.1.alloc (.cells #[.int .u64 0, .int .u64 0, .int .u64 0, .int .u64 0] 58)).rowFar (Nat.ne_of_lt ne2) UM) (And.intro ((K8.out.2.2.2.1.alloc (.cells #[.int .u64 0, .int .u64 0, .int .u64 0, .int .u64 0] 58)).rowFar (Nat.ne_of_lt ne3) UM) (And.intro ((K8.out.2.2.2.2.1.alloc (.cells #[.int .u64 0, .int .u64 0, .int .u64 0, .int .u64 0] 58)).rowFar (Nat.ne_of_lt ne4) UM) (And.intro ((K8.out.2.2.2.2.2.1.alloc (.cells #[.int .u64 0, .int .u64 0, .int .u64 0, .int .u64 0] 58)).rowFar (Nat.ne_of_lt ne5) UM) (And.intro (N.row UM) (setRow_below (ba K8.out.2.2.2.2.2.2 (.cells #[.int .u64 0, .int .u64 0, .int .u64 0, .int .u64 0] 58)) K8.out.2.2.2.2.2.2.size UM))))))))
  clear N Y ne0 ne1 ne2 ne3 ne4 ne5 K8
  generalize World.setRow _ _ _ = w9 at *
  generalize w8.heap.size = g19 at *
  clear ps1 ps2 nm1 nm2
  go_wp2_with fail
  obtain ⟨qP, mC, nC, qM, t1, t2, f1, f2, qF⟩ := H8.out
  try simp only [List.append_eq, List.cons_append, List.nil_append]
  refine wp_region_g [some 49, some 50, some 51, some 52, some 53, some 54, some 55, some 56, some 57, some 58, some 59, some 60, some 61, some 62, some 63, some 64, some 65, some 66, some 67, some 68, some 69, some 70, some 71, some 72, some 73, some 74, some 75, some 76, some 77, some 78, some 79, some 80, some 81, some 82, some 83, some 84, some 85, some 86, some 87, some 88, some 89, some 90, some 91] (FL [
      EqV (.agg PL),
      EqV (.agg PL),
      EqV (.bool false),
      EqV (.bool false),
      EqV (.int .i64 (E : Nat)),
      EqV (.int .i64 (E : Nat)),
      EqV (.bool false),
      EqV (.bool false),
      EqV (.bool false),
      EqV (.agg UM),
      EqV (.pointer (some ⟨g19, 0, none⟩)),
      EqV (.int .u64 (lim M 0 : Nat)),
      EqV (.pointer (some ⟨g19, 1, none⟩)),
      EqV (.int .u64 (lim M 1 : Nat)),
      EqV (.pointer (some ⟨g19, 2, none⟩)),
      EqV (.int .u64 (lim M 2 : Nat)),
      EqV (.pointer (some ⟨g19, 3, none⟩)),
      EqV (.int .u64 (lim M 3 : Nat)),
      EqV (.agg #[.int .u64 (lim M 0 : Nat), .int .u64 (lim M 1 : Nat), .int .u64 (lim M 2 : Nat), .int .u64 (lim M 3 : Nat)]),
      EqV (.bool false),
      EqV (.bool false),
      EqV (.bool false),
      EqV (.agg A1),
      EqV (.string S1),
      EqV (.agg A1),
      EqV (.string S1),
      EqV (.bool false),
      EqV (.bool false),
      EqV (.bool false),
      EqV (.pointer (some ⟨(w.heap.size + 2), 0, none⟩)),
      EqV (.int .u64 (lim N 0 : Nat)),
      EqV (.pointer (some ⟨(w.heap.size + 2), 1, none⟩)),
      EqV (.int .u64 (lim N 1 : Nat)),
      EqV (.pointer (some ⟨(w.heap.size + 2), 2, none⟩)),
      EqV (.int .u64 (lim N 2 : Nat)),
      EqV (.pointer (some ⟨(w.heap.size + 2), 3, none⟩)),
      EqV (.int .u64 (lim N 3 : Nat)),
      EqV (.agg #[.int .u64 (lim N 0 : Nat), .int .u64 (lim N 1 : Nat), .int .u64 (lim N 2 : Nat), .int .u64 (lim N 3 : Nat)]),
      EqV (.agg FB),
      EqV (.agg UN),
      EqV (.agg FB),
      EqV (.bool false),
      EqV (.bool false)
    ]) (FL_keeps ⟨keeps_eq _, keeps_eq _, keeps_eq _, keeps_eq _, keeps_eq _, keeps_eq _, keeps_eq _, keeps_eq _, keeps_eq _, keeps_eq _, keeps_eq _, keeps_eq _, keeps_eq _, keeps_eq _, keeps_eq _, keeps_eq _, keeps_eq _, keeps_eq _, keeps_eq _, keeps_eq _, keeps_eq _, keeps_eq _, keeps_eq _, keeps_eq _, keeps_eq _, keeps_eq _, keeps_eq _, keeps_eq _, keeps_eq _, keeps_eq _, keeps_eq _, keeps_eq _, keeps_eq _, keeps_eq _, keeps_eq _, keeps_eq _, keeps_eq _, keeps_eq _, keeps_eq _, keeps_eq _, keeps_eq _, keeps_eq _, keeps_eq _, trivial⟩) (by kernel_rfl) rfl rfl rfl rfl ⟨
    .inr ⟨gk0 rfl, fun A w' γ hb hF hs => g_eq (op_load 38 (.tmp 14) rfl ((hs.2 14 rfl).trans rfl) (KK.out.2.2.2.1.below hb KK.out.2.2.2.1.lt) Tryd.underlying38 (iP))⟩,
    .inr ⟨gk0 rfl, fun A w' γ hb hF hs => g_eq (op_load 38 (.tmp 16) rfl ((hs.2 16 rfl).trans rfl) (KK.out.2.2.2.2.1.below hb KK.out.2.2.2.2.1.lt) Tryd.underlying38 (iP))⟩,
    .inr ⟨gk0 rfl, fun A w' γ hb hF hs => g_eq (op_neq_agg 38 _ (.tmp 49) (.tmp 50) (PL) (PL) true rfl ((hs.1 0 rfl 49 rfl).trans (hF 0 rfl)) ((hs.1 1 rfl 50 rfl).trans (hF 1 rfl)) (by kernel_rfl) (qP _))⟩,
    .inr ⟨gk0 rfl, fun A w' γ hb hF hs => g_eq (op_move (.tmp 51) (.inl rfl) ((hs.1 2 rfl 51 rfl).trans (hF 2 rfl)))⟩,
    .inr ⟨gkT 3 false rfl rfl 52 rfl (fun _ _ h => h), fun A w' γ hb hF hs => g_eq (op_move (.tmp 15) (.inl rfl) ((hs.2 15 rfl).trans rfl))⟩,
    .inr ⟨gkT 3 false rfl rfl 52 rfl (fun _ _ h => h), fun A w' γ hb hF hs => g_eq (op_move (.tmp 17) (.inl rfl) ((hs.2 17 rfl).trans rfl))⟩,
    .inr ⟨gkT 3 false rfl rfl 52 rfl (fun _ _ h => h), fun A w' γ hb hF hs => g_eq (op_neq_int 59 _ (.tmp 53) (.tmp 54) .i64 ((E : Nat)) ((E : Nat)) false rfl ((hs.1 4 rfl 53 rfl).trans (hF 4 rfl)) ((hs.1 5 rfl 54 rfl).trans (hF 5 rfl)) (by simp))⟩,
    .inr ⟨gk0 rfl, fun A w' γ hb hF hs => g_eq (op_pick (.tmp 52) (.const (.bool true)) (.tmp 55) false rfl ((hs.1 3 rfl 52 rfl).trans (hF 3 rfl)) ((hs.1 6 rfl 55 rfl).trans (hF 6 rfl)))⟩,
    .inr ⟨gk0 rfl, fun A w' γ hb hF hs => g_eq (op_move (.tmp 56) (.inl rfl) ((hs.1 7 rfl 56 rfl).trans (hF 7 rfl)))⟩,
    .inr ⟨gkT 8 false rfl rfl 57 rfl (fun _ _ h => h), fun A w' γ hb hF hs => g_eq (op_load 62 (.tmp 18) rfl ((hs.2 18 rfl).trans rfl) (KK.out.2.2.2.2.2.1.below hb KK.out.2.2.2.2.2.1.lt) Tryd.underlying62 (iM62))⟩,
    .inr ⟨gkT 8 false rfl rfl 57 rfl (fun _ _ h => h), fun A w' γ hb hF hs => g_eq (op_idxa 58 (.tmp 19) (.const (.int .i64 0)) rfl ((hs.2 19 rfl).trans rfl) rfl (idx_u4 g19 0 (by omega) _))⟩,
    .inr ⟨gkT 8 false rfl rfl 57 rfl (fun _ _ h => h), fun A w' γ hb hF hs => g_eq (op_cell 27 (.tmp 59) rfl ⟨g19, 0, none⟩ ((hs.1 10 rfl 59 rfl).trans (hF 10 rfl)) (.int .u64 (lim M 0 : Nat)) (((KK.out.2.2.2.2.2.2.1.below hb KK.out.2.2.2.2.2.2.1.lt).cell 0).trans (mC 0 (by omega))) _ Tryd.underlying27 rfl)⟩,
    .inr ⟨gkT 8 false rfl rfl 57 rfl (fun _ _ h => h), fun A w' γ hb hF hs => g_eq (op_idxa 58 (.tmp 19) (.const (.int .i64 1)) rfl ((hs.2 19 rfl).trans rfl) rfl (idx_u4 g19 1 (by omega) _))⟩,
    .inr ⟨gkT 8 false rfl rfl 57 rfl (fun _ _ h => h), fun A w' γ hb hF hs => g_eq (op_cell 27 (.tmp 61) rfl ⟨g19, 1, none⟩ ((hs.1 12 rfl 61 rfl).trans (hF 12 rfl)) (.int .u64 (lim M 1 : Nat)) (((KK.out.2.2.2.2.2.2.1.below hb KK.out.2.2.2.2.2.2.1.lt).cell 1).trans (mC 1 (by omega))) _ Tryd.underlying27 rfl)⟩,
    .inr ⟨gkT 8 false rfl rfl 57 rfl (fun _ _ h => h), fun A w' γ hb hF hs => g_eq (op_idxa 58 (.tmp 19) (.const (.int .i64 2)) rfl ((hs.2 19 rfl).trans rfl) rfl (idx_u4 g19 2 (by omega) _))⟩,
    .inr ⟨gkT 8 false rfl rfl 57 rfl (fun _ _ h => h), fun A w' γ hb hF hs => g_eq (op_cell 27 (.tmp 63) rfl ⟨g19, 2, none⟩ ((hs.1 14 rfl 63 rfl).trans (hF 14 rfl)) (.int .u64 (lim M 2 : Nat)) (((KK.out.2.2.2.2.2.2.1.below hb KK.out.2.2.2.2.2.2.1.lt).cell 2).trans (mC 2 (by omega))) _ Tryd.underlying27 rfl)⟩,
    .inr ⟨gkT 8 false rfl rfl 57 rfl (fun _ _ h => h), fun A w' γ hb hF hs => g_eq (op_idxa 58 (.tmp 19) (.const (.int .i64 3)) rfl ((hs.2 19 rfl).trans rfl) rfl (idx_u4 g19 3 (by omega) _))⟩,
    .inr ⟨gkT 8 false rfl rfl 57 rfl (fun _ _ h => h), fun A w' γ hb hF hs => g_eq (op_cell 27 (.tmp 65) rfl ⟨g19, 3, none⟩ ((hs.1 16 rfl 65 rfl).trans (hF 16 rfl)) (.int .u64 (lim M 3 : Nat)) (((KK.out.2.2.2.2.2.2.1.below hb KK.out.2.2.2.2.2.2.1.lt).cell 3).trans (mC 3 (by omega))) _ Tryd.underlying27 rfl)⟩,
    .inr ⟨gkT 8 false rfl rfl 57 rfl (fun _ _ h => h), fun A w' γ hb hF hs => g_eq (op_b4 ((lim M 0 : Nat)) ((lim M 1 : Nat)) ((lim M 2 : Nat)) ((lim M 3 : Nat)) (.tmp 60) (.tmp 62) (.tmp 64) (.tmp 66) rfl ((hs.1 11 rfl 60 rfl).trans (hF 11 rfl)) ((hs.1 13 rfl 62 rfl).trans (hF 13 rfl)) ((hs.1 15 rfl 64 rfl).trans (hF 15 rfl)) ((hs.1 17 rfl 66 rfl).trans (hF 17 rfl)))⟩,
    .inr ⟨gkT 8 false rfl rfl 57 rfl (fun _ _ h => h), fun A w' γ hb hF hs => g_eq (op_neq_agg 62 _ (.tmp 58) (.tmp 67) (UM) (#[.int .u64 (lim M 0 : Nat), .int .u64 (lim M 1 : Nat), .int .u64 (lim M 2 : Nat), .int .u64 (lim M 3 : Nat)]) true rfl ((hs.1 9 rfl 58 rfl).trans (hF 9 rfl)) ((hs.1 18 rfl 67 rfl).trans (hF 18 rfl)) (by kernel_rfl) (qM _))⟩,
    .inr ⟨gk0 rfl, fun A w' γ hb hF hs => g_eq (op_pick (.tmp 57) (.const (.bool true)) (.tmp 68) false rfl ((hs.1 8 rfl 57 rfl).trans (hF 8 rfl)) ((hs.1 19 rfl 68 rfl).trans (hF 19 rfl)))⟩,
    .inr ⟨gk0 rfl, fun A w' γ hb hF hs => g_eq (op_move (.tmp 69) (.inl rfl) ((hs.1 20 rfl 69 rfl).trans (hF 20 rfl)))⟩,
    .inr ⟨gkT 21 false rfl rfl 70 rfl (fun _ _ h => h), fun A w' γ hb hF hs => g_eq (op_load 38 (.tmp 6) rfl ((hs.2 6 rfl).trans rfl) (KK.out.1.below hb KK.out.1.lt) Tryd.underlying38 (i1))⟩,
    .inr ⟨gkT 21 false rfl rfl 70 rfl (fun _ _ h => h), fun A w' γ hb hF hs => g_eq (op_call 41 #[.agg A1] (exec_call _ 41 #[.agg A1] rfl rfl (margs1 ((hs.1 22 rfl 71 rfl).trans (hF 22 rfl))) Tryd.func41 rfl rfl) (t1 w'))⟩,
    .inr ⟨gkT 21 false rfl rfl 70 rfl (fun _ _ h => h), fun A w' γ hb hF hs => g_eq (op_load 38 (.tmp 6) rfl ((hs.2 6 rfl).trans rfl) (KK.out.1.below hb KK.out.1.lt) Tryd.underlying38 (i1))⟩,
    .inr ⟨gkT 21 false rfl rfl 70 rfl (fun _ _ h => h), fun A w' γ hb hF hs => g_eq (op_call 46 #[.agg A1] (exec_call _ 46 #[.agg A1] rfl rfl (margs1 ((hs.1 24 rfl 73 rfl).trans (hF 24 rfl))) Tryd.func46 rfl rfl) (t2 w'))⟩,
    .inr ⟨gkT 21 false rfl rfl 70 rfl (fun _ _ h => h), fun A w' γ hb hF hs => g_eq (op_neq_str _ _ (.tmp 72) (.tmp 74) S1 S1 true rfl ((hs.1 23 rfl 72 rfl).trans (hF 23 rfl)) ((hs.1 25 rfl 74 rfl).trans (hF 25 rfl)) (by simp))⟩,
    .inr ⟨gk0 rfl, fun A w' γ hb hF hs => g_eq (op_pick (.tmp 70) (.const (.bool true)) (.tmp 75) false rfl ((hs.1 21 rfl 70 rfl).trans (hF 21 rfl)) ((hs.1 26 rfl 75 rfl).trans (hF 26 rfl)))⟩,
    .inr ⟨gk0 rfl, fun A w' γ hb hF hs => g_eq (op_move (.tmp 76) (.inl rfl) ((hs.1 27 rfl 76 rfl).trans (hF 27 rfl)))⟩,
    .inr ⟨gkT 28 false rfl rfl 77 rfl (fun _ _ h => h), fun A w' γ hb hF hs => g_eq (op_idxa 58 (.tmp 9) (.const (.int .i64 0)) rfl ((hs.2 9 rfl).trans rfl) rfl (idx_u4 (w.heap.size + 2) 0 (by omega) _))⟩,
    .inr ⟨gkT 28 false rfl rfl 77 rfl (fun _ _ h => h), fun A w' γ hb hF hs => g_eq (op_cell 27 (.tmp 78) rfl ⟨(w.heap.size + 2), 0, none⟩ ((hs.1 29 rfl 78 rfl).trans (hF 29 rfl)) (.int .u64 (lim N 0 : Nat)) (((KK.out.2.2.1.below hb KK.out.2.2.1.lt).cell 0).trans (nC 0 (by omega))) _ Tryd.underlying27 rfl)⟩,
    .inr ⟨gkT 28 false rfl rfl 77 rfl (fun _ _ h => h), fun A w' γ hb hF hs => g_eq (op_idxa 58 (.tmp 9) (.const (.int .i64 1)) rfl ((hs.2 9 rfl).trans rfl) rfl (idx_u4 (w.heap.size + 2) 1 (by omega) _))⟩,
    .inr ⟨gkT 28 false rfl rfl 77 rfl (fun _ _ h => h), fun A w' γ hb hF hs => g_eq (op_cell 27 (.tmp 80) rfl ⟨(w.heap.size + 2), 1, none⟩ ((hs.1 31 rfl 80 rfl).trans (hF 31 rfl)) (.int .u64 (lim N 1 : Nat)) (((KK.out.2.2.1.below hb KK.out.2.2.1.lt).cell 1).trans (nC 1 (by omega))) _ Tryd.underlying27 rfl)⟩,
    .inr ⟨gkT 28 false rfl rfl 77 rfl (fun _ _ h => h), fun A w' γ hb hF hs => g_eq (op_idxa 58 (.tmp 9) (.const (.int .i64 2)) rfl ((hs.2 9 rfl).trans rfl) rfl (idx_u4 (w.heap.size + 2) 2 (by omega) _))⟩,
    .inr ⟨gkT 28 false rfl rfl 77 rfl (fun _ _ h => h), fun A w' γ hb hF hs => g_eq (op_cell 27 (.tmp 82) rfl ⟨(w.heap.size + 2), 2, none⟩ ((hs.1 33 rfl 82 rfl).trans (hF 33 rfl)) (.int .u64 (lim N 2 : Nat)) (((KK.out.2.2.1.below hb KK.out.2.2.1.lt).cell 2).trans (nC 2 (by omega))) _ Tryd.underlying27 rfl)⟩,
    .inr ⟨gkT 28 false rfl rfl 77 rfl (fun _ _ h => h), fun A w' γ hb hF hs => g_eq (op_idxa 58 (.tmp 9) (.const (.int .i64 3)) rfl ((hs.2 9 rfl).trans rfl) rfl (idx_u4 (w.heap.size + 2) 3 (by omega) _))⟩,
    .inr ⟨gkT 28 false rfl rfl 77 rfl (fun _ _ h => h), fun A w' γ hb hF hs => g_eq (op_cell 27 (.tmp 84) rfl ⟨(w.heap.size + 2), 3, none⟩ ((hs.1 35 rfl 84 rfl).trans (hF 35 rfl)) (.int .u64 (lim N 3 : Nat)) (((KK.out.2.2.1.below hb KK.out.2.2.1.lt).cell 3).trans (nC 3 (by omega))) _ Tryd.underlying27 rfl)⟩,
    .inr ⟨gkT 28 false rfl rfl 77 rfl (fun _ _ h => h), fun A w' γ hb hF hs => g_eq (op_b4 ((lim N 0 : Nat)) ((lim N 1 : Nat)) ((lim N 2 : Nat)) ((lim N 3 : Nat)) (.tmp 79) (.tmp 81) (.tmp 83) (.tmp 85) rfl ((hs.1 30 rfl 79 rfl).trans (hF 30 rfl)) ((hs.1 32 rfl 81 rfl).trans (hF 32 rfl)) ((hs.1 34 rfl 83 rfl).trans (hF 34 rfl)) ((hs.1 36 rfl 85 rfl).trans (hF 36 rfl)))⟩,
    .inr ⟨gkT 28 false rfl rfl 77 rfl (fun _ _ h => h), fun A w' γ hb hF hs => g_eq (op_call 47 #[.agg #[.int .u64 (lim N 0 : Nat), .int .u64 (lim N 1 : Nat), .int .u64 (lim N 2 : Nat), .int .u64 (lim N 3 : Nat)]] (exec_call _ 47 #[.agg #[.int .u64 (lim N 0 : Nat), .int .u64 (lim N 1 : Nat), .int .u64 (lim N 2 : Nat), .int .u64 (lim N 3 : Nat)]] rfl rfl (margs1 ((hs.1 37 rfl 86 rfl).trans (hF 37 rfl))) Tryd.func47 rfl rfl) (f1 w'))⟩,
    .inr ⟨gkT 28 false rfl rfl 77 rfl (fun _ _ h => h), fun A w' γ hb hF hs => g_eq (op_load 58 (.tmp 9) rfl ((hs.2 9 rfl).trans rfl) (KK.out.2.2.1.below hb KK.out.2.2.1.lt) Tryd.underlying58 (iN))⟩,
    .inr ⟨gkT 28 false rfl rfl 77 rfl (fun _ _ h => h), fun A w' γ hb hF hs => g_eq (op_call 48 #[.agg UN] (exec_call _ 48 #[.agg UN] rfl rfl (margs1 ((hs.1 39 rfl 88 rfl).trans (hF 39 rfl))) Tryd.func48 rfl rfl) (f2 w'))⟩,
    .inr ⟨gkT 28 false rfl rfl 77 rfl (fun _ _ h => h), fun A w' γ hb hF hs => g_eq (op_neq_agg 38 _ (.tmp 87) (.tmp 89) (FB) (FB) true rfl ((hs.1 38 rfl 87 rfl).trans (hF 38 rfl)) ((hs.1 40 rfl 89 rfl).trans (hF 40 rfl)) (by kernel_rfl) (qF _))⟩,
    .inr ⟨gk0 rfl, fun A w' γ hb hF hs => g_eq (op_pick (.tmp 77) (.const (.bool true)) (.tmp 90) false rfl ((hs.1 28 rfl 77 rfl).trans (hF 28 rfl)) ((hs.1 41 rfl 90 rfl).trans (hF 41 rfl)))⟩,
    trivial⟩ ?_
  intro γ w' hb hF
  have K2 := Lib.hid (And.intro (KK.out.1.calls hb) (And.intro (KK.out.2.1.calls hb) (And.intro (KK.out.2.2.1.calls hb) (And.intro (KK.out.2.2.2.1.calls hb) (And.intro (KK.out.2.2.2.2.1.calls hb) (And.intro (KK.out.2.2.2.2.2.1.calls hb) (And.intro (KK.out.2.2.2.2.2.2.1.calls hb) (bt KK.out.2.2.2.2.2.2.2 hb))))))))
  have ez : γ 42 = .bool false := hF 42 (by decide)
  simp only [Fr, if_true, Act.put, List.setIfInBounds_toArray, List.set_cons_zero, List.set_cons_succ]
  rw [ez]
  clear ez hF hb KK qP mC nC qM t1 t2 f1 f2 qF
  go_wp2_with fail
  obtain ⟨c1, c2, p1, p2, qC, x1, x2, z1, qz⟩ := H10.out
  try simp only [List.append_eq, List.cons_append, List.nil_append]
  refine wp_region_g [some 92, some 93, some 94, some 95, some 96, some 97, some 98, some 99, some 100, some 101, some 102, some 103, some 104, some 105, some 106, some 107, some 108, some 109, some 110, some 111, some 112, some 113, some 114, some 115, some 116, some 117, some 118, some 119, some 120, some 121, some 122, some 123, some 124, some 125, some 126, some 127, some 12] (FL [
      EqV (.bool true),
      EqV (.bool true),
      EqV (.agg A1),
      EqV (.agg A2),
      EqV (.int .i64 cc),
      EqV (.agg A1),
      EqV (.agg A2),
      EqV (.int .i64 cc),
      EqV (.bool true),
      EqV (.bool true),
      EqV (.bool true),
      EqV (.agg A1),
      EqV (.agg A2),
      EqV (.agg CP),
      EqV (.agg A1),
      EqV (.agg A2),
      EqV (.agg CP),
      EqV (.bool true),
      EqV (.bool true),
      EqV (.bool true),
      EqV (.slice a4 n4 c4),
      EqV (.slice a5 n5 c5),
      EqV (.bool bw),
      EqV (.slice a4 n4 c4),
      EqV (.slice a5 n5 c5),
      EqV (.bool bw),
      EqV (.bool true),
      EqV (.bool true),
      EqV (.bool true),
      EqV (.agg A1),
      EqV (.bool bz),
      EqV (.agg A1),
      EqV (.agg #[.int .u8 0, .int .u8 0, .int .u8 0, .int .u8 0, .int .u8 0, .int .u8 0, .int .u8 0, .int .u8 0, .int .u8 0, .int .u8 0, .int .u8 0, .int .u8 0, .int .u8 0, .int .u8 0, .int .u8 0, .int .u8 0, .int .u8 0, .int .u8 0, .int .u8 0, .int .u8 0, .int .u8 0, .int .u8 0, .int .u8 0, .int .u8 0, .int .u8 0, .int .u8 0, .int .u8 0, .int .u8 0, .int .u8 0, .int .u8 0, .int .u8 0, .int .u8 0]),
      EqV (.bool bz),
      EqV (.bool true),
      EqV (.bool true),
      EqV (.bool true)
    ]) (FL_keeps ⟨keeps_eq _, keeps_eq _, keeps_eq _, keeps_eq _, keeps_eq _, keeps_eq _, keeps_eq _, keeps_eq _, keeps_eq _, keeps_eq _, keeps_eq _, keeps_eq _, keeps_eq _, keeps_eq _, keeps_eq _, keeps_eq _, keeps_eq _, keeps_eq _, keeps_eq _, keeps_eq _, keeps_eq _, keeps_eq _, keeps_eq _, keeps_eq _, keeps_eq _, keeps_eq _, keeps_eq _, keeps_eq _, keeps_eq _, keeps_eq _, keeps_eq _, keeps_eq _, keeps_eq _, keeps_eq _, keeps_eq _, keeps_eq _, keeps_eq _, trivial⟩) (by kernel_rfl) rfl rfl rfl rfl ⟨
    .inr ⟨gk0 rfl, fun A w' γ hb hF hs => g_eq (op_move (.tmp 13) (.inl rfl) ((hs.2 13 rfl).trans rfl))⟩,
    .inr ⟨gk0 rfl, fun A w' γ hb hF hs => g_eq (op_move (.tmp 92) (.inl rfl) ((hs.1 0 rfl 92 rfl).trans (hF 0 rfl)))⟩,
    .inr ⟨gkT 1 true rfl rfl 93 rfl (fun _ _ h => h), fun A w' γ hb hF hs => g_eq (op_load 38 (.tmp 6) rfl ((hs.2 6 rfl).trans rfl) (K2.out.1.below hb K2.out.1.lt) Tryd.underlying38 (i1))⟩,
    .inr ⟨gkT 1 true rfl rfl 93 rfl (fun _ _ h => h), fun A w' γ hb hF hs => g_eq (op_load 38 (.tmp 7) rfl ((hs.2 7 rfl).trans rfl) (K2.out.2.1.below hb K2.out.2.1.lt) Tryd.underlying38 (i2))⟩,
    .inr ⟨gkT 1 true rfl rfl 93 rfl (fun _ _ h => h), fun A w' γ hb hF hs => g_eq (op_call 39 #[.agg A1, .agg A2] (exec_call _ 39 #[.agg A1, .agg A2] rfl rfl (margs2 ((hs.1 2 rfl 94 rfl).trans (hF 2 rfl)) ((hs.1 3 rfl 95 rfl).trans (hF 3 rfl))) Tryd.func39 rfl rfl) (c1 w'))⟩,
    .inr ⟨gkT 1 true rfl rfl 93 rfl (fun _ _ h => h), fun A w' γ hb hF hs => g_eq (op_load 38 (.tmp 6) rfl ((hs.2 6 rfl).trans rfl) (K2.out.1.below hb K2.out.1.lt) Tryd.underlying38 (i1))⟩,
    .inr ⟨gkT 1 true rfl rfl 93 rfl (fun _ _ h => h), fun A w' γ hb hF hs => g_eq (op_load 38 (.tmp 7) rfl ((hs.2 7 rfl).trans rfl) (K2.out.2.1.below hb K2.out.2.1.lt) Tryd.underlying38 (i2))⟩,
    .inr ⟨gkT 1 true rfl rfl 93 rfl (fun _ _ h => h), fun A w' γ hb hF hs => g_eq (op_call 49 #[.agg A1, .agg A2] (exec_call _ 49 #[.agg A1, .agg A2] rfl rfl (margs2 ((hs.1 5 rfl 97 rfl).trans (hF 5 rfl)) ((hs.1 6 rfl 98 rfl).trans (hF 6 rfl))) Tryd.func49 rfl rfl) (c2 w'))⟩,
    .inr ⟨gkT 1 true rfl rfl 93 rfl (fun _ _ h => h), fun A w' γ hb hF hs => g_eq (op_eq_int 3 _ (.tmp 96) (.tmp 99) .i64 (cc) (cc) true rfl ((hs.1 4 rfl 96 rfl).trans (hF 4 rfl)) ((hs.1 7 rfl 99 rfl).trans (hF 7 rfl)) (by simp))⟩,
    .inr ⟨gk0 rfl, fun A w' γ hb hF hs => g_eq (op_pick (.tmp 93) (.tmp 100) (.const (.bool false)) true rfl ((hs.1 1 rfl 93 rfl).trans (hF 1 rfl)) ((hs.1 8 rfl 100 rfl).trans (hF 8 rfl)))⟩,
    .inr ⟨gk0 rfl, fun A w' γ hb hF hs => g_eq (op_move (.tmp 101) (.inl rfl) ((hs.1 9 rfl 101 rfl).trans (hF 9 rfl)))⟩,
    .inr ⟨gkT 10 true rfl rfl 102 rfl (fun _ _ h => h), fun A w' γ hb hF hs => g_eq (op_load 38 (.tmp 6) rfl ((hs.2 6 rfl).trans rfl) (K2.out.1.below hb K2.out.1.lt) Tryd.underlying38 (i1))⟩,
    .inr ⟨gkT 10 true rfl rfl 102 rfl (fun _ _ h => h), fun A w' γ hb hF hs => g_eq (op_load 38 (.tmp 7) rfl ((hs.2 7 rfl).trans rfl) (K2.out.2.1.below hb K2.out.2.1.lt) Tryd.underlying38 (i2))⟩,
    .inr ⟨gkT 10 true rfl rfl 102 rfl (fun _ _ h => h), fun A w' γ hb hF hs => g_eq (op_call 40 #[.agg A1, .agg A2] (exec_call _ 40 #[.agg A1, .agg A2] rfl rfl (margs2 ((hs.1 11 rfl 103 rfl).trans (hF 11 rfl)) ((hs.1 12 rfl 104 rfl).trans (hF 12 rfl))) Tryd.func40 rfl rfl) (p1 w' (bt K2.out.2.2.2.2.2.2.2 hb)))⟩,
    .inr ⟨gkT 10 true rfl rfl 102 rfl (fun _ _ h => h), fun A w' γ hb hF hs => g_eq (op_load 38 (.tmp 6) rfl ((hs.2 6 rfl).trans rfl) (K2.out.1.below hb K2.out.1.lt) Tryd.underlying38 (i1))⟩,
    .inr ⟨gkT 10 true rfl rfl 102 rfl (fun _ _ h => h), fun A w' γ hb hF hs => g_eq (op_load 38 (.tmp 7) rfl ((hs.2 7 rfl).trans rfl) (K2.out.2.1.below hb K2.out.2.1.lt) Tryd.underlying38 (i2))⟩,
    .inr ⟨gkT 10 true rfl rfl 102 rfl (fun _ _ h => h), fun A w' γ hb hF hs => g_eq (op_call 50 #[.agg A1, .agg A2] (exec_call _ 50 #[.agg A1, .agg A2] rfl rfl (margs2 ((hs.1 14 rfl 106 rfl).trans (hF 14 rfl)) ((hs.1 15 rfl 107 rfl).trans (hF 15 rfl))) Tryd.func50 rfl rfl) (p2 w' (bt K2.out.2.2.2.2.2.2.2 hb)))⟩,
    .inr ⟨gkT 10 true rfl rfl 102 rfl (fun _ _ h => h), fun A w' γ hb hF hs => g_eq (op_eq_agg 38 _ (.tmp 105) (.tmp 108) (CP) (CP) true rfl ((hs.1 13 rfl 105 rfl).trans (hF 13 rfl)) ((hs.1 16 rfl 108 rfl).trans (hF 16 rfl)) (by kernel_rfl) (qC _))⟩,
    .inr ⟨gk0 rfl, fun A w' γ hb hF hs => g_eq (op_pick (.tmp 102) (.tmp 109) (.const (.bool false)) true rfl ((hs.1 10 rfl 102 rfl).trans (hF 10 rfl)) ((hs.1 17 rfl 109 rfl).trans (hF 17 rfl)))⟩,
    .inr ⟨gk0 rfl, fun A w' γ hb hF hs => g_eq (op_move (.tmp 110) (.inl rfl) ((hs.1 18 rfl 110 rfl).trans (hF 18 rfl)))⟩,
    .inr ⟨gkT 19 true rfl rfl 111 rfl (fun _ _ h => h), fun A w' γ hb hF hs => g_eq (op_move (.tmp 4) (.inl rfl) ((hs.2 4 rfl).trans rfl))⟩,
    .inr ⟨gkT 19 true rfl rfl 111 rfl (fun _ _ h => h), fun A w' γ hb hF hs => g_eq (op_move (.tmp 5) (.inl rfl) ((hs.2 5 rfl).trans rfl))⟩,
    .inr ⟨gkT 19 true rfl rfl 111 rfl (fun _ _ h => h), fun A w' γ hb hF hs => g_eq (op_call 38 #[.slice a4 n4 c4, .slice a5 n5 c5] (exec_call _ 38 #[.slice a4 n4 c4, .slice a5 n5 c5] rfl rfl (margs2 ((hs.1 20 rfl 112 rfl).trans (hF 20 rfl)) ((hs.1 21 rfl 113 rfl).trans (hF 21 rfl))) Tryd.func38 rfl rfl) (x1 w' (bt K2.out.2.2.2.2.2.2.2 hb)))⟩,
    .inr ⟨gkT 19 true rfl rfl 111 rfl (fun _ _ h => h), fun A w' γ hb hF hs => g_eq (op_move (.tmp 4) (.inl rfl) ((hs.2 4 rfl).trans rfl))⟩,
    .inr ⟨gkT 19 true rfl rfl 111 rfl (fun _ _ h => h), fun A w' γ hb hF hs => g_eq (op_move (.tmp 5) (.inl rfl) ((hs.2 5 rfl).trans rfl))⟩,
    .inr ⟨gkT 19 true rfl rfl 111 rfl (fun _ _ h => h), fun A w' γ hb hF hs => g_eq (op_call 51 #[.slice a4 n4 c4, .slice a5 n5 c5] (exec_call _ 51 #[.slice a4 n4 c4, .slice a5 n5 c5] rfl rfl (margs2 ((hs.1 23 rfl 115 rfl).trans (hF 23 rfl)) ((hs.1 24 rfl 116 rfl).trans (hF 24 rfl))) Tryd.func51 rfl rfl) (x2 w' (bt K2.out.2.2.2.2.2.2.2 hb) (by omega) (by omega)))⟩,
    .inr ⟨gkT 19 true rfl rfl 111 rfl (fun _ _ h => h), fun A w' γ hb hF hs => g_eq (op_eq_bool 4 _ (.tmp 114) (.tmp 117) (bw) (bw) true rfl ((hs.1 22 rfl 114 rfl).trans (hF 22 rfl)) ((hs.1 25 rfl 117 rfl).trans (hF 25 rfl)) Tryd.underlying4 (by simp))⟩,
    .inr ⟨gk0 rfl, fun A w' γ hb hF hs => g_eq (op_pick (.tmp 111) (.tmp 118) (.const (.bool false)) true rfl ((hs.1 19 rfl 111 rfl).trans (hF 19 rfl)) ((hs.1 26 rfl 118 rfl).trans (hF 26 rfl)))⟩,
    .inr ⟨gk0 rfl, fun A w' γ hb hF hs => g_eq (op_move (.tmp 119) (.inl rfl) ((hs.1 27 rfl 119 rfl).trans (hF 27 rfl)))⟩,
    .inr ⟨gkT 28 true rfl rfl 120 rfl (fun _ _ h => h), fun A w' γ hb hF hs => g_eq (op_load 38 (.tmp 6) rfl ((hs.2 6 rfl).trans rfl) (K2.out.1.below hb K2.out.1.lt) Tryd.underlying38 (i1))⟩,
    .inr ⟨gkT 28 true rfl rfl 120 rfl (fun _ _ h => h), fun A w' γ hb hF hs => g_eq (op_call 52 #[.agg A1] (exec_call _ 52 #[.agg A1] rfl rfl (margs1 ((hs.1 29 rfl 121 rfl).trans (hF 29 rfl))) Tryd.func52 rfl rfl) (z1 w'))⟩,
    .inr ⟨gkT 28 true rfl rfl 120 rfl (fun _ _ h => h), fun A w' γ hb hF hs => g_eq (op_load 38 (.tmp 6) rfl ((hs.2 6 rfl).trans rfl) (K2.out.1.below hb K2.out.1.lt) Tryd.underlying38 (i1))⟩,
    .inr ⟨gkT 28 true rfl rfl 120 rfl (fun _ _ h => h), fun A w' γ hb hF hs => g_eq (op_b32 rfl)⟩,
    .inr ⟨gkT 28 true rfl rfl 120 rfl (fun _ _ h => h), fun A w' γ hb hF hs => g_eq (op_eq_agg 38 _ (.tmp 123) (.tmp 124) (A1) (#[.int .u8 0, .int .u8 0, .int .u8 0, .int .u8 0, .int .u8 0, .int .u8 0, .int .u8 0, .int .u8 0, .int .u8 0, .int .u8 0, .int .u8 0, .int .u8 0, .int .u8 0, .int .u8 0, .int .u8 0, .int .u8 0, .int .u8 0, .int .u8 0, .int .u8 0, .int .u8 0, .int .u8 0, .int .u8 0, .int .u8 0, .int .u8 0, .int .u8 0, .int .u8 0, .int .u8 0, .int .u8 0, .int .u8 0, .int .u8 0, .int .u8 0, .int .u8 0]) bz rfl ((hs.1 31 rfl 123 rfl).trans (hF 31 rfl)) ((hs.1 32 rfl 124 rfl).trans (hF 32 rfl)) (by kernel_rfl) (qz _))⟩,
    .inr ⟨gkT 28 true rfl rfl 120 rfl (fun _ _ h => h), fun A w' γ hb hF hs => g_eq (op_eq_bool 4 _ (.tmp 122) (.tmp 125) (bz) (bz) true rfl ((hs.1 30 rfl 122 rfl).trans (hF 30 rfl)) ((hs.1 33 rfl 125 rfl).trans (hF 33 rfl)) Tryd.underlying4 (by simp))⟩,
    .inr ⟨gk0 rfl, fun A w' γ hb hF hs => g_eq (op_pick (.tmp 120) (.tmp 126) (.const (.bool false)) true rfl ((hs.1 28 rfl 120 rfl).trans (hF 28 rfl)) ((hs.1 34 rfl 126 rfl).trans (hF 34 rfl)))⟩,
    .inr ⟨gk0 rfl, fun A w' γ hb hF hs => g_eq (op_move (.tmp 127) (.inr rfl) ((hs.1 35 rfl 127 rfl).trans (hF 35 rfl)))⟩,
    trivial⟩ ?_
  intro γ wz hb hF
  have bzz := bt K2.out.2.2.2.2.2.2.2 hb
  have ez : γ 36 = .bool true := hF 36 (by decide)
  simp only [Fr, if_true, Act.put, List.setIfInBounds_toArray, List.set_cons_zero, List.set_cons_succ]
  rw [ez]
  clear ez hF c1 c2 p1 p2 qC x1 x2 z1 qz
  go_wp2
  go_ret
  exact ⟨rfl, bzz⟩
theorem uvalL (n : Nat) : uval n = .agg #[.int .u64 (lim n 0 : Nat), .int .u64 (lim n 1 : Nat), .int .u64 (lim n 2 : Nat), .int .u64 (lim n 3 : Nat)] := rfl
theorem ucells_k (n k : Nat) (h : k < 4) : (ucells n)[k]? = some (.int .u64 (lim n k : Nat)) := ucells_at n k h
theorem ucells_lit (n : Nat) : ucells n = #[.int .u64 (lim n 0 : Nat), .int .u64 (lim n 1 : Nat), .int .u64 (lim n 2 : Nat), .int .u64 (lim n 3 : Nat)] := rfl
theorem isU62 (c : Array Value) (h : c.size = 4) : (Tryd.prog.info? 62).map (·.size) = some c.size := by rw [h]; kernel_rfl
theorem bstr_of (s : ByteArray) : s = bstr s.data.toList := by
  cases s
  rfl
set_option maxHeartbeats 1000000 in
theorem HIs_walk (w : World) (hL : Laid w) (a : List UInt8) (ha : a.length = 32) (b : List UInt8) (hb : b.length = 32) (s : ByteArray) (hs : s.size ≤ maxLen) (n : Nat) (hn : n < T)
    (a4 : Option Addr) (l4 : List UInt8) (n4 c4 : Nat) (hn4 : l4.length = n4) (hc4 : n4 ≤ c4) (hm4 : c4 ≤ 140737488355328) (ho4 : a4 = none → n4 = 0 ∧ c4 = 0) (hr4 : RdS w a4 l4)
    (a5 : Option Addr) (l5 : List UInt8) (n5 c5 : Nat) (hn5 : l5.length = n5) (hc5 : n5 ≤ c5) (hm5 : c5 ≤ 140737488355328) (ho5 : a5 = none → n5 = 0 ∧ c5 = 0) (hr5 : RdS w a5 l5) :
    Calls Tryd.prog 10 #[.agg (u8cells a), .agg (u8cells b), .string s, uval n, .slice a4 n4 c4, .slice a5 n5 c5] w fun e w' => e = .returned (.bool true) ∧ Below w.heap.size w w' := by
  obtain ⟨sl, hsl⟩ : ∃ sl : List UInt8, s = bstr sl := ⟨_, bstr_of s⟩
  subst hsl
  have hsz : sl.length = (bstr sl).size := (bstr_size sl).symm
  obtain ⟨cc, hcc⟩ := cmp_ex (leN a 32) (leN b 32) (leN_T a 32 (Nat.le_refl _)) (leN_T b 32 (Nat.le_refl _))
  have r4 : n4 ≤ 140737488355328 ∧ c4 ≤ 9223372036854775807 := by omega
  have r5 : n5 ≤ 140737488355328 ∧ c5 ≤ 9223372036854775807 := by omega
  have i1 := isH a ha
  have i2 := isH b hb
  have iP := isH _ (parseL_length sl)
  have zP : (#[.int .u8 0, .int .u8 0, .int .u8 0, .int .u8 0, .int .u8 0, .int .u8 0, .int .u8 0, .int .u8 0, .int .u8 0, .int .u8 0, .int .u8 0, .int .u8 0, .int .u8 0, .int .u8 0, .int .u8 0, .int .u8 0, .int .u8 0, .int .u8 0, .int .u8 0, .int .u8 0, .int .u8 0, .int .u8 0, .int .u8 0, .int .u8 0, .int .u8 0, .int .u8 0, .int .u8 0, .int .u8 0, .int .u8 0, .int .u8 0, .int .u8 0, .int .u8 0] : Array Value).size = (u8cells (parseL sl)).size := by rw [u8cells_size, parseL_length]; rfl
  have aP := u8cells_one (parseL sl)
  have hMT := leN_T a 32 (Nat.le_refl _)
  have ps1 := fun w (h : (bstr sl).size ≤ 200) => Parse_any sl (by omega) w
  have ps2 := fun w (h : (bstr sl).size ≤ 200) => HRParse_any sl (by omega) w
  have nm1 := fun w => Number_any a ha w
  have nm2 := fun w => HRNumber_any a ha w
  have qP := fun w => eqH _ _ true (parseL_length sl) (parseL_length sl) (by simp) w
  have eM := fun w => eqU (leN a 32) (leN a 32) true hMT hMT (by simp) w
  have t1 := fun w => Text_any a ha w
  have t2 := fun w => HRText_any a ha w
  have f1 := fun w => FromNumber_any n hn w
  have f2 := fun w => HRFromNumber_any n hn w
  have qF := fun w => eqH _ _ true (leB_length n) (leB_length n) (by simp) w
  have k1 := fun w => HCmp_any a b ha hb cc hcc w
  have k2 := fun w => HRCmp_any a b ha hb cc hcc w
  have p1 := fun w' (h : Below w.heap.size w w') => Pair_any a b ha hb w' (hL.below h (Nat.le_refl _))
  have p2 := fun w' (h : Below w.heap.size w w') => HRPair_any a b ha hb w'
  have qC := fun w => eqH _ _ true (sumOf_length (sumOf (a ++ b))) (sumOf_length (sumOf (a ++ b))) (by simp) w
  have x1 := fun w' (h : Below w.heap.size w w') => Witness_any a4 l4 n4 c4 hn4 hc4 r4 ho4 a5 l5 n5 c5 hn5 hc5 r5 ho5 w' (hr4.below h (Nat.le_refl _)) (hr5.below h (Nat.le_refl _)) (hL.below h (Nat.le_refl _)) _ rfl
  have x2 := fun w' (h : Below w.heap.size w w') (h4 : n4 ≤ 200) (h5 : n5 ≤ 200) => HRWitness_any a4 l4 n4 c4 hn4 hc4 (by omega) ho4 a5 l5 n5 c5 hn5 hc5 (by omega) ho5 w' (hr4.below h (Nat.le_refl _)) (hr5.below h (Nat.le_refl _)) _ rfl
  have z1 := fun w => Zero_any a ha _ rfl w
  have qz := fun w => eqH a zeroH (decide (a = zeroH)) ha rfl rfl w
  rw [zeroH_cells] at qz
  clear hcc
  generalize leN a 32 = M at *
  have uM : uval M = .agg (ucells M) := rfl
  have uN : uval n = .agg (ucells n) := rfl
  have mC := fun k (h : k < 4) => ucells_k M k h
  have nC := fun k (h : k < 4) => ucells_k n k h
  have aM := u_one M
  have sM : (ucells M).size = 4 := rfl
  have sN : (ucells n).size = 4 := rfl
  have iN := isR4 _ sN
  have iM58 := isR4 _ sM
  have iM62 := isU62 _ sM
  have zM : (#[.int .u64 0, .int .u64 0, .int .u64 0, .int .u64 0] : Array Value).size = (ucells M).size := by rw [sM]; rfl
  have eM2 : ∀ w, (Op.equalIn 10000 62 (.agg (ucells M)) (.agg #[.int .u64 (lim M 0 : Nat), .int .u64 (lim M 1 : Nat), .int .u64 (lim M 2 : Nat), .int .u64 (lim M 3 : Nat)])).run Tryd.prog w = .ok true w := fun w => by rw [ucells_lit M]; exact eM w
  clear eM
  rw [uvalL n] at f1
  rw [uM] at nm1 nm2
  rw [uN] at f2 ⊢
  clear sM sN uM uN hMT
  generalize ucells M = UM at *
  generalize ucells n = UN at *
  generalize u8cells (parseL sl) = PL at *
  generalize parseE sl = E at *
  generalize u8cells (leB n) = FB at *
  generalize u8cells (sumOf (sumOf (a ++ b))) = CP at *
  generalize bstr (hexT a) = S1 at *
  generalize witB l4 l5 = bw at *
  generalize decide (a = zeroH) = bz at *
  generalize u8cells a = A1 at *
  generalize u8cells b = A2 at *
  have hS : (bstr sl).size = (bstr sl).size := rfl
  have hsm : (bstr sl).size ≤ 9223372036854775807 := by unfold maxLen at hs; omega
  generalize bstr sl = S0 at *
  exact HIs_core w hL A1 A2 UN UM PL FB CP S0 S1 M n E S0.size n4 n5 c4 c5 a4 a5 cc bw bz i1 i2 iN iP zP aP iM62 iM58 zM aM rfl hsm (by omega) (by omega) (fun w => Awake03 w)
    (Lib.hid ⟨ps1, ps2, nm1, nm2⟩) (Lib.hid ⟨qP, mC, nC, eM2, t1, t2, f1, f2, qF⟩) (Lib.hid ⟨k1, k2, p1, p2, qC, x1, x2, z1, qz⟩)
end Go.Proofs.YtfebknplkbeblaaDoor
