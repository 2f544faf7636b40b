/- Sha2Pads: its walk. -/
import Derived.Test.YtfebknplkbeblaaDoorShaO
import Derived.Laws.Bits64b
namespace Go.Proofs.YtfebknplkbeblaaDoor
open Go.RowKit
set_option linter.unusedVariables false
theorem or_byte8 (a y : Nat) (ha : a < 72057594037927936) (hy : y < 256) : bits .or .u64 (IntKind.u64.wrap ((a : Int) * 256)) (IntKind.u64.wrap (y : Int)) = ((a * 256 + y : Nat) : Int) := by
  have e1 : IntKind.u64.wrap ((a : Int) * 256) = ((a * 256 : Nat) : Int) := by rw [IntKind.wrap_u64]; omega
  have e2 : IntKind.u64.wrap (y : Int) = (y : Int) := by rw [IntKind.wrap_u64]; omega
  rw [e1, e2, bits_or_u64_nat _ _ (by omega) (by omega)]
  congr 1
  have h := Nat.shiftLeft_add_eq_or_of_lt (show y < 2 ^ 8 by omega) a
  rw [Nat.shiftLeft_eq] at h
  exact h.symm
set_option maxRecDepth 100000 in
set_option maxHeartbeats 1000000 in
theorem Sha2Pads_any (n : Nat) (hn : n < W64) (w : World) (hL : Laid w) :
    Calls Tryd.prog 5 #[.int .u64 n] w fun e w' => e = .returned (.bool true) ∧ Below w.heap.size w w' := by
  obtain ⟨l, hl⟩ : ∃ l, l = padOf n := ⟨_, rfl⟩
  obtain ⟨L, hLl⟩ : ∃ L, L = (padOf n).length := ⟨_, rfl⟩
  obtain ⟨z, hz⟩ : ∃ z, z = zerosOf n := ⟨_, rfl⟩
  have hLz : L = z + 9 := by rw [hLl, padOf_length, hz]
  have hz64 : z < 64 := by rw [hz]; unfold zerosOf; split <;> omega
  have hmod : (n % 64 + L) % 64 = 0 := by rw [hLz, hz]; unfold zerosOf; split <;> omega
  have g1 : ¬ ((L : Int) < 9) := by omega
  have g2 : ¬ ((72 : Int) < L) := by omega
  have g3 : ((n : Int) % 64 + (L : Int)) % 64 = 0 := by omega
  have g4 : IntKind.u64.wrap ((n : Int) % 64 + (L : Int)) = (n : Int) % 64 + (L : Int) := by rw [IntKind.wrap_u64]; omega
  have g5 : IntKind.u64.wrap (L : Int) = (L : Int) := by rw [IntKind.wrap_u64]; omega
  have F := Lib.hid (And.intro hl (And.intro hLl (And.intro hz (And.intro hn hL)))); clear hl hz hn hL hmod
  go_enter Tryd.func5, Tryd.ntmps5
  go_wp2_with fail
  refine (Awake02 w F.out.2.2.2.2).mono ?_
  rintro e w1 ⟨rfl, hb1⟩
  go_wp2_with fail
  refine (Pad_any n F.out.2.2.2.1 L F.out.2.1.symm w1).mono ?_
  rintro e w2 ⟨rfl, hb2, hB⟩
  have AB := bt hb1 hb2
  rw [← F.out.1] at hB
  have hll : l.length = L := by rw [F.out.1, F.out.2.1]
  have c0 := blk_get hB 0 _ (u8cells_at l 0 (by omega))
  rw [show (l.getD 0 0).toNat = 128 by rw [F.out.1]; rfl] at c0
  have A := Lib.hid (And.intro AB (And.intro hB hll)); clear AB hB hb1 hb2 hll
  go_wp2_with fail
  go_loopw [7] (fun i wr => ∃ k : Nat, 1 ≤ k ∧ k ≤ z + 1 ∧ i = .int .i64 k ∧ wr = w2) (fun i _ => z + 1 - (intOf i).toNat)
  case atStart => exact ⟨1, by omega, by omega, rfl, rfl⟩
  case round =>
    obtain ⟨k, hk1, hk, rfl, rfl⟩ := hrel
    have e8 : (L : Int) - 8 = ((z + 1 : Nat) : Int) := by omega
    by_cases hlt : k < z + 1
    · have ck := blk_get A.out.2.1 k _ (u8cells_at l k (by have := A.out.2.2; omega))
      rw [show l.getD k 0 = 0 by rw [F.out.1]; exact padOf_mid n k (by omega) (by rw [← F.out.2.2.1]; omega)] at ck
      have ck' : wr.cell? ⟨w1.heap.size, k, none⟩ = some (.int .u8 0) := ck
      have kL : (k : Int) < (L : Int) := by omega
      have kL' : k < L := by omega
      have kz : (k : Int) < (L : Int) - 8 := by omega
      clear ck e8
      go_wp2
      go_roundw
      case rel => exact ⟨k + 1, by omega, by omega, by go_num, trivial⟩
      case measure => simp [intOf]; omega
    · obtain rfl : k = z + 1 := by omega
      have kz : ¬ (((z + 1 : Nat) : Int) < (L : Int) - 8) := by omega
      have kz' : ¬ ((z : Int) + 1 < (L : Int) - 8) := by omega
      clear e8
      go_wp2
      obtain ⟨M, hM⟩ : ∃ M, M = n * 8 % W64 := ⟨_, rfl⟩
      have HM := Lib.hid hM; clear hM
      clear kz kz' hlt hk hk1
      have e8 : (L : Int) - 8 = ((z + 1 : Nat) : Int) := by omega
      go_loopw [6, 8] (fun m i wq => ∃ j : Nat, j ≤ 8 ∧ i = .int .i64 ((z + 1 + j : Nat) : Int) ∧ m = .int .u64 ((M / 256 ^ (8 - j) : Nat) : Int) ∧ wq = wr) (fun _ i _ => L - (intOf i).toNat)
      case atStart =>
        refine ⟨0, by omega, by simp; omega, ?_, rfl⟩
        have : M < 256 ^ 8 := by rw [HM.out]; exact Nat.mod_lt _ (by decide)
        rw [Nat.sub_zero, Nat.div_eq_of_lt this]
        rfl
      case round =>
        obtain ⟨j, hj, rfl, rfl, rfl⟩ := hrel
        by_cases hlt : j < 8
        · obtain ⟨q, hq⟩ : ∃ q, q = z + 1 + j := ⟨_, rfl⟩
          obtain ⟨m0, hm0⟩ : ∃ m0, m0 = M / 256 ^ (8 - j) := ⟨_, rfl⟩
          obtain ⟨y, hy⟩ : ∃ y, y = (l.getD q 0).toNat := ⟨_, rfl⟩
          have qL : q < L := by omega
          have qLi : (q : Int) < (L : Int) := by omega
          have ck := blk_get A.out.2.1 q _ (u8cells_at l q (by have := A.out.2.2; omega))
          rw [← hy] at ck
          rw [← hq, ← hm0]
          have HQ := Lib.hid (And.intro hq (And.intro hm0 hy)); clear hq hm0 hy
          go_wp2
          obtain ⟨hq, hm0, hy⟩ := HQ.out
          refine ⟨⟨j + 1, by omega, by rw [hq]; simp; omega, ?_, trivial⟩, by simp [intOf]; omega⟩
          have hM8 : M < 256 ^ 8 := by rw [HM.out]; exact Nat.mod_lt _ (by decide)
          have hy2 : y = M / 256 ^ (7 - j) % 256 := by
            have h := padOf_end n j hlt
            rw [← F.out.1, ← F.out.2.2.1, show 1 + z + j = q by omega, ← HM.out] at h
            rw [hy, h]
            simp
          have hm1 : m0 < 72057594037927936 := by
            rw [hm0]
            refine Nat.lt_of_le_of_lt (Nat.div_le_div_left (show 256 ^ 1 ≤ 256 ^ (8 - j) from Nat.pow_le_pow_right (by omega) (by omega)) (by decide)) ?_
            omega
          rw [or_byte8 m0 y hm1 (by omega)]
          have e : 256 ^ (8 - j) = 256 ^ (7 - j) * 256 := by rw [← Nat.pow_succ]; congr 1; omega
          rw [show 8 - (j + 1) = 7 - j by omega, hm0, hy2, e, ← Nat.div_div_eq_div_mul]
          congr 2
          omega
        · obtain rfl : j = 8 := by omega
          go_wp2
          have hMn : IntKind.u64.wrap ((n : Int) * 8) = (M : Int) := by
            rw [HM.out, IntKind.wrap_u64]
            unfold W64
            omega
          go_ret
          exact ⟨by simp [hMn], A.out.1⟩
end Go.Proofs.YtfebknplkbeblaaDoor
