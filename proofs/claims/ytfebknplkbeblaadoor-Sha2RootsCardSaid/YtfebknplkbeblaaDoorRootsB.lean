/- Sha2Roots: its walk. -/
import Derived.Test.YtfebknplkbeblaaDoorRootsA
import Derived.Test.YtfebknplkbeblaaDoorOps
import Derived.Test.YtfebknplkbeblaaDoorShaO
import Derived.Test.YtfebknplkbeblaaDoorU256b
namespace Go.Proofs.YtfebknplkbeblaaDoor
open Go.RowKit
set_option linter.unusedVariables false
def IsU (A : Array Value) : Prop := (Tryd.prog.info? 62).map (·.size) = some A.size ∧ (#[.int .u64 0, .int .u64 0, .int .u64 0, .int .u64 0] : Array Value).size = A.size ∧ A.all (·.oneCell') = true
theorem four4 (A : Array Value) (h : (#[.int .u64 0, .int .u64 0, .int .u64 0, .int .u64 0] : Array Value).size = A.size) : ∃ a b c d, A = #[a, b, c, d] := by
  obtain ⟨l⟩ := A
  match l, h with
  | [a, b, c, d], _ => exact ⟨a, b, c, d, rfl⟩
theorem isU (m : Nat) : IsU (ucells m) := ⟨by kernel_rfl, rfl, by simp [ucells, Value.oneCell']⟩
set_option maxRecDepth 100000 in
set_option maxHeartbeats 4000000 in
theorem Roots_hi (w : World) (hL : Laid w) (i : Int) (n p W x K : Nat) (k1 k2 : Int) (l1 : Bool) (PP OF C1 C2 : Array Value) (hn : n < 64) (hp : prL.getD n 0 = p) (hp1 : p ≤ 311) (hi : bits .and .i64 i 63 = (n : Int)) (hW : 1 ≤ W) (hW6 : W ≤ 6) (hWp : W * W * W ≤ p) (hWq : p < (W + 1) * (W + 1) * (W + 1)) (hxb : x < 4611686018427387904)
    (hor : bits .or .u64 ((W : Int) * 4294967296) (K : Int) = (x : Int)) (cC : ∀ w, Laid w → Calls Tryd.prog 18 #[.int .i64 n] w fun e w' => e = .returned (.int .u32 K) ∧ Below w.heap.size w w') (hK : K < 4294967296)
    (cOf : ∀ w, Calls Tryd.prog 55 #[.int .u64 p] w fun e w' => e = .returned (.agg PP) ∧ Below w.heap.size w w') (cSh : ∀ w, Calls Tryd.prog 54 #[.agg PP, .int .i64 96] w fun e w' => e = .returned (.tuple #[.agg OF, .bool l1]) ∧ Below w.heap.size w w') (cC1 : ∀ w, Calls Tryd.prog 57 #[.int .u64 x] w fun e w' => e = .returned (.agg C1) ∧ Below w.heap.size w w') (cC2 : ∀ w, Calls Tryd.prog 57 #[.int .u64 ((x + 1 : Nat) : Int)] w fun e w' => e = .returned (.agg C2) ∧ Below w.heap.size w w')
    (cK1 : ∀ w, Calls Tryd.prog 56 #[.agg C1, .agg OF] w fun e w' => e = .returned (.int .i64 k1) ∧ Below w.heap.size w w') (cK2 : ∀ w, Calls Tryd.prog 56 #[.agg C2, .agg OF] w fun e w' => e = .returned (.int .i64 k2) ∧ Below w.heap.size w w') (hk1 : decide ((0 : Int) < k1) = false) (hk2 : decide (k2 ≤ (0 : Int)) = false) (qOF : IsU OF) (h7 : 7 < n) (cI : ∀ w, Laid w → Calls Tryd.prog 20 #[.int .i64 n] w fun e w' => e = .returned (.int .u32 0) ∧ Below w.heap.size w w') :
    Calls Tryd.prog 11 #[.int .i64 i] w fun e w' => e = .returned (.bool true) ∧ Below w.heap.size w w' := by
  have HL := Lib.hid hL; clear hL
  have hx1 : IntKind.u64.wrap ((x : Int) + 1) = ((x + 1 : Nat) : Int) := by rw [IntKind.wrap_u64]; omega
  obtain ⟨qa, qb, qc⟩ := qOF
  have HC := Lib.hid (And.intro hk1 (And.intro hk2 hx1)); clear hk1 hk2 hx1
  have HW := Lib.hid (And.intro hWp hWq); clear hWp hWq
  go_enter Tryd.func11, Tryd.ntmps11
  go_wp2_with fail
  refine (Awake02 w HL.out).mono ?_
  rintro e w1 ⟨rfl, hb1⟩
  have B1 := Lib.hid hb1; clear hb1
  go_wp2_with fail
  refine (Prime_any n p hn hp _).mono ?_
  rintro e w2 ⟨rfl, rfl⟩
  go_wp2
  go_loopw [6] (fun v wr => ∃ k : Nat, 1 ≤ k ∧ k ≤ W ∧ v = .int .u64 k ∧ wr = w2) (fun v _ => 7 - (intOf v).toNat)
  case atStart => exact ⟨1, Nat.le_refl _, hW, rfl, rfl⟩
  case round =>
    obtain ⟨k, hk1', hkW, rfl, rfl⟩ := hrel
    obtain ⟨m1, hm1⟩ : ∃ m, m = (k + 1) * (k + 1) := ⟨_, rfl⟩
    obtain ⟨m2, hm2⟩ : ∃ m, m = m1 * (k + 1) := ⟨_, rfl⟩
    have e1 : ((k : Int) + 1) * ((k : Int) + 1) = (m1 : Int) := by rw [hm1]; push_cast; rfl
    have e2 : (m1 : Int) * ((k : Int) + 1) = (m2 : Int) := by rw [hm2]; push_cast; rfl
    have b1 : m1 ≤ 49 := by rw [hm1]; exact Nat.mul_le_mul (show k + 1 ≤ 7 by omega) (show k + 1 ≤ 7 by omega)
    have b2 : m2 ≤ 343 := by rw [hm2]; exact Nat.mul_le_mul b1 (show k + 1 ≤ 7 by omega)
    by_cases hlt : k < W
    · have hle : m2 ≤ p := by
        rw [hm2, hm1]
        exact Nat.le_trans (Nat.mul_le_mul (Nat.mul_le_mul (show k + 1 ≤ W by omega) (show k + 1 ≤ W by omega)) (show k + 1 ≤ W by omega)) HW.out.1
      have hle' : (m2 : Int) ≤ (p : Int) := by omega
      clear hm1 hm2
      go_wp2
      go_roundw
      case rel => exact ⟨k + 1, by omega, by omega, by go_num, by first | rfl | trivial⟩
      case measure => simp [intOf]; omega
    · obtain rfl : k = W := by omega
      have hle' : ¬ (m2 : Int) ≤ (p : Int) := by
        have := HW.out.2
        rw [← hm1, ← hm2] at this
        omega
      clear hm1 hm2
      go_wp2_with fail
      refine (cC _ (HL.out.below B1.out (Nat.le_refl _))).mono ?_
      rintro e w3 ⟨rfl, hb1⟩
      have B3 := Lib.hid (bt B1.out hb1); clear hb1
      clear e1 e2 hle'
      go_wp2_with fail
      refine (cOf _).mono ?_
      rintro e w4 ⟨rfl, hb1⟩
      have B4 := Lib.hid (bt B3.out hb1); clear hb1 B3
      go_wp2_with fail
      refine (cSh _).mono ?_
      rintro e w5 ⟨rfl, hb1⟩
      have B5 := Lib.hid (bt B4.out hb1); clear hb1 B4
      have BZ : Blk (w5.alloc (.cells #[.int .u64 0, .int .u64 0, .int .u64 0, .int .u64 0] 62)) w5.heap.size 62 #[.int .u64 0, .int .u64 0, .int .u64 0, .int .u64 0] := Blk.newAt w5 _ _ rfl
      go_wp2_with (with_reducible refine ws_row BZ _ _ _ _ rfl rfl rfl rfl qa qb qc ?_)
      have bw := setRow_below (ba B5.out (.cells #[.int .u64 0, .int .u64 0, .int .u64 0, .int .u64 0] 62)) B5.out.size OF
      have K := Lib.hid (And.intro (BZ.row OF) bw); clear BZ bw B5
      generalize World.setRow _ _ _ = w6 at *
      generalize w5.heap.size = g8 at *
      have hk1 := HC.out.1
      have hk2 := HC.out.2.1
      have hx1 := HC.out.2.2
      try simp only [List.append_eq, List.cons_append, List.nil_append]
      refine wp_region_g [some 47, some 48, some 49, some 50, some 51, some 52, some 53, some 54, some 55, some 56, some 57, some 58, some 59] (FL [
          EqV (.int .u64 (x : Nat)),
          EqV (.agg C1),
          EqV (.agg OF),
          EqV (.int .i64 k1),
          EqV (.bool false),
          EqV (.bool false),
          EqV (.int .u64 (x : Nat)),
          EqV (.int .u64 (((x + 1 : Nat) : Int))),
          EqV (.agg C2),
          EqV (.agg OF),
          EqV (.int .i64 k2),
          EqV (.bool false),
          EqV (.bool false)
        ]) (FL_keeps ⟨keeps_eq _, keeps_eq _, keeps_eq _, keeps_eq _, keeps_eq _, keeps_eq _, keeps_eq _, keeps_eq _, keeps_eq _, keeps_eq _, keeps_eq _, keeps_eq _, keeps_eq _, trivial⟩) (by kernel_rfl) rfl rfl rfl rfl ⟨
        .inr ⟨gk0 rfl, fun A w' γ hb hF hs => g_eq (op_move (.tmp 7) (.inl rfl) ((hs.2 7 rfl).trans rfl))⟩,
        .inr ⟨gk0 rfl, fun A w' γ hb hF hs => g_eq (op_call 57 #[.int .u64 (x : Nat)] (exec_call _ 57 #[.int .u64 (x : Nat)] rfl rfl (margs1 ((hs.1 0 rfl 47 rfl).trans (hF 0 rfl))) Tryd.func57 rfl rfl) (cC1 w'))⟩,
        .inr ⟨gk0 rfl, fun A w' γ hb hF hs => g_eq (op_load 62 (.tmp 8) rfl ((hs.2 8 rfl).trans rfl) (K.out.1.below hb K.out.1.lt) Tryd.underlying62 (qa))⟩,
        .inr ⟨gk0 rfl, fun A w' γ hb hF hs => g_eq (op_call 56 #[.agg C1, .agg OF] (exec_call _ 56 #[.agg C1, .agg OF] rfl rfl (margs2 ((hs.1 1 rfl 48 rfl).trans (hF 1 rfl)) ((hs.1 2 rfl 49 rfl).trans (hF 2 rfl))) Tryd.func56 rfl rfl) (cK1 w'))⟩,
        .inr ⟨gk0 rfl, fun A w' γ hb hF hs => g_eq (op_gtr 3 _ (.tmp 50) (.const (.int .i64 0)) .i64 (k1) (0) false rfl ((hs.1 3 rfl 50 rfl).trans (hF 3 rfl)) rfl (hk1))⟩,
        .inr ⟨gk0 rfl, fun A w' γ hb hF hs => g_eq (op_move (.tmp 51) (.inl rfl) ((hs.1 4 rfl 51 rfl).trans (hF 4 rfl)))⟩,
        .inr ⟨gkT 5 false rfl rfl 52 rfl (fun _ _ h => h), fun A w' γ hb hF hs => g_eq (op_move (.tmp 7) (.inl rfl) ((hs.2 7 rfl).trans rfl))⟩,
        .inr ⟨gkT 5 false rfl rfl 52 rfl (fun _ _ h => h), fun A w' γ hb hF hs => g_eq (op_add 27 _ (.tmp 53) (.const (.int .u64 1)) .u64 ((x : Nat)) (1) (((x + 1 : Nat) : Int)) rfl ((hs.1 6 rfl 53 rfl).trans (hF 6 rfl)) rfl (hx1))⟩,
        .inr ⟨gkT 5 false rfl rfl 52 rfl (fun _ _ h => h), fun A w' γ hb hF hs => g_eq (op_call 57 #[.int .u64 (((x + 1 : Nat) : Int))] (exec_call _ 57 #[.int .u64 (((x + 1 : Nat) : Int))] rfl rfl (margs1 ((hs.1 7 rfl 54 rfl).trans (hF 7 rfl))) Tryd.func57 rfl rfl) (cC2 w'))⟩,
        .inr ⟨gkT 5 false rfl rfl 52 rfl (fun _ _ h => h), fun A w' γ hb hF hs => g_eq (op_load 62 (.tmp 8) rfl ((hs.2 8 rfl).trans rfl) (K.out.1.below hb K.out.1.lt) Tryd.underlying62 (qa))⟩,
        .inr ⟨gkT 5 false rfl rfl 52 rfl (fun _ _ h => h), fun A w' γ hb hF hs => g_eq (op_call 56 #[.agg C2, .agg OF] (exec_call _ 56 #[.agg C2, .agg OF] rfl rfl (margs2 ((hs.1 8 rfl 55 rfl).trans (hF 8 rfl)) ((hs.1 9 rfl 56 rfl).trans (hF 9 rfl))) Tryd.func56 rfl rfl) (cK2 w'))⟩,
        .inr ⟨gkT 5 false rfl rfl 52 rfl (fun _ _ h => h), fun A w' γ hb hF hs => g_eq (op_leq 3 _ (.tmp 57) (.const (.int .i64 0)) .i64 (k2) (0) false rfl ((hs.1 10 rfl 57 rfl).trans (hF 10 rfl)) rfl (hk2))⟩,
        .inr ⟨gk0 rfl, fun A w' γ hb hF hs => g_eq (op_pick (.tmp 52) (.const (.bool true)) (.tmp 58) false rfl ((hs.1 5 rfl 52 rfl).trans (hF 5 rfl)) ((hs.1 11 rfl 58 rfl).trans (hF 11 rfl)))⟩,
        trivial⟩ ?_
      intro γ w' hb hF
      have bz := bt K.out.2 hb
      have ez : γ 12 = .bool false := hF 12 (by decide)
      simp only [Fr, if_true, Act.put, List.setIfInBounds_toArray, List.set_cons_zero, List.set_cons_succ]
      rw [ez]
      have B7 := Lib.hid bz
      clear bz hb ez hF hk1 hk2 hx1 K
      have h7' : (7 : Int) < (n : Int) := by omega
      go_wp2_with fail
      refine (cI _ (HL.out.below B7.out (Nat.le_refl _))).mono ?_
      rintro e w8 ⟨rfl, hb1⟩
      have B8 := bt B7.out hb1; clear hb1 B7
      go_wp2
      go_ret
      exact ⟨rfl, B8⟩
set_option maxRecDepth 100000 in
set_option maxHeartbeats 4000000 in
theorem Roots_lo (k3 k4 : Int) (l2 l3 l4 : Bool) (TO YY SS YZ TT : Array Value) (R y I : Nat) (w : World) (hL : Laid w) (i : Int) (n p W x K : Nat) (k1 k2 : Int) (l1 : Bool) (PP OF C1 C2 : Array Value) (hn : n < 64) (hp : prL.getD n 0 = p) (hp1 : p ≤ 311) (hi : bits .and .i64 i 63 = (n : Int)) (hW : 1 ≤ W) (hW6 : W ≤ 6) (hWp : W * W * W ≤ p) (hWq : p < (W + 1) * (W + 1) * (W + 1)) (hxb : x < 4611686018427387904)
    (hor : bits .or .u64 ((W : Int) * 4294967296) (K : Int) = (x : Int)) (cC : ∀ w, Laid w → Calls Tryd.prog 18 #[.int .i64 n] w fun e w' => e = .returned (.int .u32 K) ∧ Below w.heap.size w w') (hK : K < 4294967296)
    (cOf : ∀ w, Calls Tryd.prog 55 #[.int .u64 p] w fun e w' => e = .returned (.agg PP) ∧ Below w.heap.size w w') (cSh : ∀ w, Calls Tryd.prog 54 #[.agg PP, .int .i64 96] w fun e w' => e = .returned (.tuple #[.agg OF, .bool l1]) ∧ Below w.heap.size w w') (cC1 : ∀ w, Calls Tryd.prog 57 #[.int .u64 x] w fun e w' => e = .returned (.agg C1) ∧ Below w.heap.size w w') (cC2 : ∀ w, Calls Tryd.prog 57 #[.int .u64 ((x + 1 : Nat) : Int)] w fun e w' => e = .returned (.agg C2) ∧ Below w.heap.size w w')
    (cK1 : ∀ w, Calls Tryd.prog 56 #[.agg C1, .agg OF] w fun e w' => e = .returned (.int .i64 k1) ∧ Below w.heap.size w w') (cK2 : ∀ w, Calls Tryd.prog 56 #[.agg C2, .agg OF] w fun e w' => e = .returned (.int .i64 k2) ∧ Below w.heap.size w w') (hk1 : decide ((0 : Int) < k1) = false) (hk2 : decide (k2 ≤ (0 : Int)) = false) (qOF : IsU OF) (h7 : n ≤ 7) (cI : ∀ w, Laid w → Calls Tryd.prog 20 #[.int .i64 n] w fun e w' => e = .returned (.int .u32 I) ∧ Below w.heap.size w w')
    (cSh2 : ∀ w, Calls Tryd.prog 54 #[.agg PP, .int .i64 64] w fun e w' => e = .returned (.tuple #[.agg TO, .bool l2]) ∧ Below w.heap.size w w') (cOy : ∀ w, Calls Tryd.prog 55 #[.int .u64 y] w fun e w' => e = .returned (.agg YY) ∧ Below w.heap.size w w') (cMs : ∀ w, Calls Tryd.prog 58 #[.agg YY, .int .u64 y] w fun e w' => e = .returned (.tuple #[.agg SS, .bool l3]) ∧ Below w.heap.size w w')
    (cOz : ∀ w, Calls Tryd.prog 55 #[.int .u64 (y + 1)] w fun e w' => e = .returned (.agg YZ) ∧ Below w.heap.size w w') (cMt : ∀ w, Calls Tryd.prog 58 #[.agg YZ, .int .u64 (y + 1)] w fun e w' => e = .returned (.tuple #[.agg TT, .bool l4]) ∧ Below w.heap.size w w') (cK3 : ∀ w, Calls Tryd.prog 56 #[.agg SS, .agg TO] w fun e w' => e = .returned (.int .i64 k3) ∧ Below w.heap.size w w') (cK4 : ∀ w, Calls Tryd.prog 56 #[.agg TT, .agg TO] w fun e w' => e = .returned (.int .i64 k4) ∧ Below w.heap.size w w')
    (hk3 : k3 ≤ 0) (hk4 : 0 < k4) (qTO : IsU TO) (qSS : IsU SS) (qTT : IsU TT) (hR : 1 ≤ R) (hR6 : R ≤ 4) (hRp : R * R ≤ p) (hRq : p < (R + 1) * (R + 1)) (hyb : y < 4611686018427387904) (hI : I < 4294967296) (hory : bits .or .u64 ((R : Int) * 4294967296) (I : Int) = (y : Int)) :
    Calls Tryd.prog 11 #[.int .i64 i] w fun e w' => e = .returned (.bool true) ∧ Below w.heap.size w w' := by
  have HR := Lib.hid (And.intro hRp hRq); clear hRp hRq
  have HL := Lib.hid hL; clear hL
  have hx1 : IntKind.u64.wrap ((x : Int) + 1) = ((x + 1 : Nat) : Int) := by rw [IntKind.wrap_u64]; omega
  obtain ⟨qa, qb, qc⟩ := qOF
  have HC := Lib.hid (And.intro hk1 (And.intro hk2 hx1)); clear hk1 hk2 hx1
  have HW := Lib.hid (And.intro hWp hWq); clear hWp hWq
  go_enter Tryd.func11, Tryd.ntmps11
  go_wp2_with fail
  refine (Awake02 w HL.out).mono ?_
  rintro e w1 ⟨rfl, hb1⟩
  have B1 := Lib.hid hb1; clear hb1
  go_wp2_with fail
  refine (Prime_any n p hn hp _).mono ?_
  rintro e w2 ⟨rfl, rfl⟩
  go_wp2
  go_loopw [6] (fun v wr => ∃ k : Nat, 1 ≤ k ∧ k ≤ W ∧ v = .int .u64 k ∧ wr = w2) (fun v _ => 7 - (intOf v).toNat)
  case atStart => exact ⟨1, Nat.le_refl _, hW, rfl, rfl⟩
  case round =>
    obtain ⟨k, hk1', hkW, rfl, rfl⟩ := hrel
    obtain ⟨m1, hm1⟩ : ∃ m, m = (k + 1) * (k + 1) := ⟨_, rfl⟩
    obtain ⟨m2, hm2⟩ : ∃ m, m = m1 * (k + 1) := ⟨_, rfl⟩
    have e1 : ((k : Int) + 1) * ((k : Int) + 1) = (m1 : Int) := by rw [hm1]; push_cast; rfl
    have e2 : (m1 : Int) * ((k : Int) + 1) = (m2 : Int) := by rw [hm2]; push_cast; rfl
    have b1 : m1 ≤ 49 := by rw [hm1]; exact Nat.mul_le_mul (show k + 1 ≤ 7 by omega) (show k + 1 ≤ 7 by omega)
    have b2 : m2 ≤ 343 := by rw [hm2]; exact Nat.mul_le_mul b1 (show k + 1 ≤ 7 by omega)
    by_cases hlt : k < W
    · have hle : m2 ≤ p := by
        rw [hm2, hm1]
        exact Nat.le_trans (Nat.mul_le_mul (Nat.mul_le_mul (show k + 1 ≤ W by omega) (show k + 1 ≤ W by omega)) (show k + 1 ≤ W by omega)) HW.out.1
      have hle' : (m2 : Int) ≤ (p : Int) := by omega
      clear hm1 hm2
      go_wp2
      go_roundw
      case rel => exact ⟨k + 1, by omega, by omega, by go_num, by first | rfl | trivial⟩
      case measure => simp [intOf]; omega
    · obtain rfl : k = W := by omega
      have hle' : ¬ (m2 : Int) ≤ (p : Int) := by
        have := HW.out.2
        rw [← hm1, ← hm2] at this
        omega
      clear hm1 hm2
      go_wp2_with fail
      refine (cC _ (HL.out.below B1.out (Nat.le_refl _))).mono ?_
      rintro e w3 ⟨rfl, hb1⟩
      have B3 := Lib.hid (bt B1.out hb1); clear hb1
      clear e1 e2 hle'
      go_wp2_with fail
      refine (cOf _).mono ?_
      rintro e w4 ⟨rfl, hb1⟩
      have B4 := Lib.hid (bt B3.out hb1); clear hb1 B3
      go_wp2_with fail
      refine (cSh _).mono ?_
      rintro e w5 ⟨rfl, hb1⟩
      have B5 := Lib.hid (bt B4.out hb1); clear hb1 B4
      have BZ : Blk (w5.alloc (.cells #[.int .u64 0, .int .u64 0, .int .u64 0, .int .u64 0] 62)) w5.heap.size 62 #[.int .u64 0, .int .u64 0, .int .u64 0, .int .u64 0] := Blk.newAt w5 _ _ rfl
      go_wp2_with (with_reducible refine ws_row BZ _ _ _ _ rfl rfl rfl rfl qa qb qc ?_)
      have bw := setRow_below (ba B5.out (.cells #[.int .u64 0, .int .u64 0, .int .u64 0, .int .u64 0] 62)) B5.out.size OF
      have K := Lib.hid (And.intro (BZ.row OF) bw); clear BZ bw B5
      generalize World.setRow _ _ _ = w6 at *
      generalize w5.heap.size = g8 at *
      have hk1 := HC.out.1
      have hk2 := HC.out.2.1
      have hx1 := HC.out.2.2
      try simp only [List.append_eq, List.cons_append, List.nil_append]
      refine wp_region_g [some 47, some 48, some 49, some 50, some 51, some 52, some 53, some 54, some 55, some 56, some 57, some 58, some 59] (FL [
          EqV (.int .u64 (x : Nat)),
          EqV (.agg C1),
          EqV (.agg OF),
          EqV (.int .i64 k1),
          EqV (.bool false),
          EqV (.bool false),
          EqV (.int .u64 (x : Nat)),
          EqV (.int .u64 (((x + 1 : Nat) : Int))),
          EqV (.agg C2),
          EqV (.agg OF),
          EqV (.int .i64 k2),
          EqV (.bool false),
          EqV (.bool false)
        ]) (FL_keeps ⟨keeps_eq _, keeps_eq _, keeps_eq _, keeps_eq _, keeps_eq _, keeps_eq _, keeps_eq _, keeps_eq _, keeps_eq _, keeps_eq _, keeps_eq _, keeps_eq _, keeps_eq _, trivial⟩) (by kernel_rfl) rfl rfl rfl rfl ⟨
        .inr ⟨gk0 rfl, fun A w' γ hb hF hs => g_eq (op_move (.tmp 7) (.inl rfl) ((hs.2 7 rfl).trans rfl))⟩,
        .inr ⟨gk0 rfl, fun A w' γ hb hF hs => g_eq (op_call 57 #[.int .u64 (x : Nat)] (exec_call _ 57 #[.int .u64 (x : Nat)] rfl rfl (margs1 ((hs.1 0 rfl 47 rfl).trans (hF 0 rfl))) Tryd.func57 rfl rfl) (cC1 w'))⟩,
        .inr ⟨gk0 rfl, fun A w' γ hb hF hs => g_eq (op_load 62 (.tmp 8) rfl ((hs.2 8 rfl).trans rfl) (K.out.1.below hb K.out.1.lt) Tryd.underlying62 (qa))⟩,
        .inr ⟨gk0 rfl, fun A w' γ hb hF hs => g_eq (op_call 56 #[.agg C1, .agg OF] (exec_call _ 56 #[.agg C1, .agg OF] rfl rfl (margs2 ((hs.1 1 rfl 48 rfl).trans (hF 1 rfl)) ((hs.1 2 rfl 49 rfl).trans (hF 2 rfl))) Tryd.func56 rfl rfl) (cK1 w'))⟩,
        .inr ⟨gk0 rfl, fun A w' γ hb hF hs => g_eq (op_gtr 3 _ (.tmp 50) (.const (.int .i64 0)) .i64 (k1) (0) false rfl ((hs.1 3 rfl 50 rfl).trans (hF 3 rfl)) rfl (hk1))⟩,
        .inr ⟨gk0 rfl, fun A w' γ hb hF hs => g_eq (op_move (.tmp 51) (.inl rfl) ((hs.1 4 rfl 51 rfl).trans (hF 4 rfl)))⟩,
        .inr ⟨gkT 5 false rfl rfl 52 rfl (fun _ _ h => h), fun A w' γ hb hF hs => g_eq (op_move (.tmp 7) (.inl rfl) ((hs.2 7 rfl).trans rfl))⟩,
        .inr ⟨gkT 5 false rfl rfl 52 rfl (fun _ _ h => h), fun A w' γ hb hF hs => g_eq (op_add 27 _ (.tmp 53) (.const (.int .u64 1)) .u64 ((x : Nat)) (1) (((x + 1 : Nat) : Int)) rfl ((hs.1 6 rfl 53 rfl).trans (hF 6 rfl)) rfl (hx1))⟩,
        .inr ⟨gkT 5 false rfl rfl 52 rfl (fun _ _ h => h), fun A w' γ hb hF hs => g_eq (op_call 57 #[.int .u64 (((x + 1 : Nat) : Int))] (exec_call _ 57 #[.int .u64 (((x + 1 : Nat) : Int))] rfl rfl (margs1 ((hs.1 7 rfl 54 rfl).trans (hF 7 rfl))) Tryd.func57 rfl rfl) (cC2 w'))⟩,
        .inr ⟨gkT 5 false rfl rfl 52 rfl (fun _ _ h => h), fun A w' γ hb hF hs => g_eq (op_load 62 (.tmp 8) rfl ((hs.2 8 rfl).trans rfl) (K.out.1.below hb K.out.1.lt) Tryd.underlying62 (qa))⟩,
        .inr ⟨gkT 5 false rfl rfl 52 rfl (fun _ _ h => h), fun A w' γ hb hF hs => g_eq (op_call 56 #[.agg C2, .agg OF] (exec_call _ 56 #[.agg C2, .agg OF] rfl rfl (margs2 ((hs.1 8 rfl 55 rfl).trans (hF 8 rfl)) ((hs.1 9 rfl 56 rfl).trans (hF 9 rfl))) Tryd.func56 rfl rfl) (cK2 w'))⟩,
        .inr ⟨gkT 5 false rfl rfl 52 rfl (fun _ _ h => h), fun A w' γ hb hF hs => g_eq (op_leq 3 _ (.tmp 57) (.const (.int .i64 0)) .i64 (k2) (0) false rfl ((hs.1 10 rfl 57 rfl).trans (hF 10 rfl)) rfl (hk2))⟩,
        .inr ⟨gk0 rfl, fun A w' γ hb hF hs => g_eq (op_pick (.tmp 52) (.const (.bool true)) (.tmp 58) false rfl ((hs.1 5 rfl 52 rfl).trans (hF 5 rfl)) ((hs.1 11 rfl 58 rfl).trans (hF 11 rfl)))⟩,
        trivial⟩ ?_
      intro γ w' hb hF
      have bz := bt K.out.2 hb
      have ez : γ 12 = .bool false := hF 12 (by decide)
      simp only [Fr, if_true, Act.put, List.setIfInBounds_toArray, List.set_cons_zero, List.set_cons_succ]
      rw [ez]
      have B7 := Lib.hid bz
      clear bz hb ez hF hk1 hk2 hx1 K
      have h7' : ¬ (7 : Int) < (n : Int) := by omega
      obtain ⟨ta, tb, tc⟩ := qTO
      obtain ⟨sa, sb, sc⟩ := qSS
      obtain ⟨ua, ub, uc⟩ := qTT
      obtain ⟨t0, t1, t2, t3, rfl⟩ := four4 TO tb
      obtain ⟨s0, s1, s2, s3, rfl⟩ := four4 SS sb
      obtain ⟨v0, v1, v2, v3, rfl⟩ := four4 TT ub
      go_wp2
      go_loopw [10] (fun v wr => ∃ k : Nat, 1 ≤ k ∧ k ≤ R ∧ v = .int .u64 k ∧ wr = w') (fun v _ => 7 - (intOf v).toNat)
      case atStart => exact ⟨1, Nat.le_refl _, hR, rfl, rfl⟩
      case round =>
        obtain ⟨j, hj1, hjR, rfl, rfl⟩ := hrel
        obtain ⟨m3, hm3⟩ : ∃ m, m = (j + 1) * (j + 1) := ⟨_, rfl⟩
        have e3 : ((j : Int) + 1) * ((j : Int) + 1) = (m3 : Int) := by rw [hm3]; push_cast; rfl
        have b3 : m3 ≤ 49 := by rw [hm3]; exact Nat.mul_le_mul (show j + 1 ≤ 7 by omega) (show j + 1 ≤ 7 by omega)
        by_cases hlt3 : j < R
        · have hle : m3 ≤ p := by
            rw [hm3]
            exact Nat.le_trans (Nat.mul_le_mul (show j + 1 ≤ R by omega) (show j + 1 ≤ R by omega)) HR.out.1
          have hle' : (m3 : Int) ≤ (p : Int) := by omega
          clear hm3
          go_wp2
          go_roundw
          case rel => exact ⟨j + 1, by omega, by omega, by go_num, by first | rfl | trivial⟩
          case measure => simp [intOf]; omega
        · obtain rfl : j = R := by omega
          have hle' : ¬ (m3 : Int) ≤ (p : Int) := by
            have := HR.out.2
            rw [← hm3] at this
            omega
          clear hm3
          go_wp2_with fail
          refine (cI _ (HL.out.below B7.out (Nat.le_refl _))).mono ?_
          rintro e wa ⟨rfl, hb1⟩
          have BA := Lib.hid (bt B7.out hb1); clear hb1 e3 hle'
          go_wp2_with fail
          refine (cOf _).mono ?_
          rintro e wb ⟨rfl, hb1⟩
          have BB := Lib.hid (bt BA.out hb1); clear hb1 BA
          go_wp2_with fail
          refine (cSh2 _).mono ?_
          rintro e wc ⟨rfl, hb1⟩
          have BC := Lib.hid (bt BB.out hb1); clear hb1 BB
          have BZ : Blk (wc.alloc (.cells #[.int .u64 0, .int .u64 0, .int .u64 0, .int .u64 0] 62)) wc.heap.size 62 #[.int .u64 0, .int .u64 0, .int .u64 0, .int .u64 0] := Blk.newAt wc _ _ rfl
          have bw := setRow_below (ba BC.out (.cells #[.int .u64 0, .int .u64 0, .int .u64 0, .int .u64 0] 62)) BC.out.size #[t0, t1, t2, t3]
          have M := Lib.hid (And.intro (BZ.row #[t0, t1, t2, t3]) bw)
          go_wp2_with (with_reducible refine ws_row BZ _ _ _ _ rfl rfl rfl rfl ta tb tc ?_)
          clear BZ bw BC
          generalize World.setRow _ _ _ = wd at *
          generalize wc.heap.size = gt at *
          refine (cOy _).mono ?_
          rintro e we ⟨rfl, hb1⟩
          have M2 := Lib.hid (And.intro (M.out.1.calls hb1) (bt M.out.2 hb1)); clear hb1 M
          go_wp2_with fail
          refine (cMs _).mono ?_
          rintro e wf ⟨rfl, hb1⟩
          have M3 := Lib.hid (And.intro (M2.out.1.calls hb1) (bt M2.out.2 hb1)); clear hb1 M2
          have BZ : Blk (wf.alloc (.cells #[.int .u64 0, .int .u64 0, .int .u64 0, .int .u64 0] 62)) wf.heap.size 62 #[.int .u64 0, .int .u64 0, .int .u64 0, .int .u64 0] := Blk.newAt wf _ _ rfl
          have bw := setRow_below (ba M3.out.2 (.cells #[.int .u64 0, .int .u64 0, .int .u64 0, .int .u64 0] 62)) M3.out.2.size #[s0, s1, s2, s3]
          have lt := M3.out.1.lt
          have M := Lib.hid (And.intro ((M3.out.1.alloc (.cells #[.int .u64 0, .int .u64 0, .int .u64 0, .int .u64 0] 62)).rowFar (show gt ≠ wf.heap.size by omega) #[s0, s1, s2, s3]) (And.intro (BZ.row #[s0, s1, s2, s3]) bw))
          go_wp2_with (with_reducible refine ws_row BZ _ _ _ _ rfl rfl rfl rfl sa sb sc ?_)
          clear BZ bw M3 lt
          generalize World.setRow _ _ _ = wg at *
          generalize wf.heap.size = gs at *
          refine (cOz _).mono ?_
          rintro e wh ⟨rfl, hb1⟩
          have M2 := Lib.hid (And.intro (M.out.1.calls hb1) (And.intro (M.out.2.1.calls hb1) (bt M.out.2.2 hb1))); clear hb1 M
          go_wp2_with fail
          refine (cMt _).mono ?_
          rintro e wi ⟨rfl, hb1⟩
          have M3 := Lib.hid (And.intro (M2.out.1.calls hb1) (And.intro (M2.out.2.1.calls hb1) (bt M2.out.2.2 hb1))); clear hb1 M2
          have BZ : Blk (wi.alloc (.cells #[.int .u64 0, .int .u64 0, .int .u64 0, .int .u64 0] 62)) wi.heap.size 62 #[.int .u64 0, .int .u64 0, .int .u64 0, .int .u64 0] := Blk.newAt wi _ _ rfl
          have bw := setRow_below (ba M3.out.2.2 (.cells #[.int .u64 0, .int .u64 0, .int .u64 0, .int .u64 0] 62)) M3.out.2.2.size #[v0, v1, v2, v3]
          have lt := M3.out.1.lt
          have lt2 := M3.out.2.1.lt
          have M := Lib.hid (And.intro ((M3.out.1.alloc (.cells #[.int .u64 0, .int .u64 0, .int .u64 0, .int .u64 0] 62)).rowFar (show gt ≠ wi.heap.size by omega) #[v0, v1, v2, v3]) (And.intro ((M3.out.2.1.alloc (.cells #[.int .u64 0, .int .u64 0, .int .u64 0, .int .u64 0] 62)).rowFar (show gs ≠ wi.heap.size by omega) #[v0, v1, v2, v3]) (And.intro (BZ.row #[v0, v1, v2, v3]) bw)))
          have d0 := blk_get M.out.1 0 _ rfl; have d1 := blk_get M.out.1 1 _ rfl; have d2 := blk_get M.out.1 2 _ rfl; have d3 := blk_get M.out.1 3 _ rfl
          have f0 := blk_get M.out.2.1 0 _ rfl; have f1 := blk_get M.out.2.1 1 _ rfl; have f2 := blk_get M.out.2.1 2 _ rfl; have f3 := blk_get M.out.2.1 3 _ rfl
          go_wp2_with (with_reducible refine ws_row BZ _ _ _ _ rfl rfl rfl rfl ua ub uc ?_)
          clear BZ bw M3 lt lt2 d0 d1 d2 d3 f0 f1 f2 f3
          generalize World.setRow _ _ _ = wj at *
          generalize wi.heap.size = gu at *
          refine (cK3 _).mono ?_
          rintro e wk ⟨rfl, hb1⟩
          have M4 := Lib.hid (And.intro (M.out.1.calls hb1) (And.intro (M.out.2.2.1.calls hb1) (bt M.out.2.2.2 hb1))); clear hb1 M
          have d0 := blk_get M4.out.1 0 _ rfl; have d1 := blk_get M4.out.1 1 _ rfl; have d2 := blk_get M4.out.1 2 _ rfl; have d3 := blk_get M4.out.1 3 _ rfl
          have f0 := blk_get M4.out.2.1 0 _ rfl; have f1 := blk_get M4.out.2.1 1 _ rfl; have f2 := blk_get M4.out.2.1 2 _ rfl; have f3 := blk_get M4.out.2.1 3 _ rfl
          go_wp2_with fail
          refine (cK4 _).mono ?_
          rintro e wl ⟨rfl, hb1⟩
          have M5 := bt M4.out.2.2 hb1; clear hb1 M4
          go_wp2
          go_ret
          exact ⟨rfl, M5⟩
end Go.Proofs.YtfebknplkbeblaaDoor
