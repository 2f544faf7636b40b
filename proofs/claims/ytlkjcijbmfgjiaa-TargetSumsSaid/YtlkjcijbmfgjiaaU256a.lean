/- What u256's sums, differences, turned numbers and comparisons come to. -/
import Derived.Test.YtlkjcijbmfgjiaaProg
import Derived.Test.YtlkjcijbmfgjiaaBase
import Derived.Deep.RegionHeld3
import Derived.Deep.QuietTactic
import Derived.BigQuiet
import Derived.Outline
namespace Go.Proofs.Ytlkjcijbmfgjiaa
open Go.RowKit
set_option linter.unusedVariables false

theorem add64_run (x y c s d : Nat) (hc : c ≤ 1) (hs : s < W64) (h : x + y + c = s + W64 * d) (w : World) :
    (callFunc 44 #[.int .u64 x, .int .u64 y, .int .u64 c]).run Try.prog w = .ok (.value (.tuple #[.int .u64 s, .int .u64 d])) w := by
  rw [run_callFunc_extern Try.func44 (by kernel_rfl) (by kernel_rfl) (by kernel_rfl) (e := add64Entry) (by kernel_rfl), run_add64 x y c (by omega) (by omega) (by omega) (by omega)]
  unfold W64 at *
  have e1 : ((x : Int) + y + c) % 18446744073709551616 = s := by omega
  have e2 : ((x : Int) + y + c) / 18446744073709551616 = d := by omega
  rw [e1, e2]
  rfl

theorem eqU (m n : Nat) (b : Bool) (hm : m < T) (hn : n < T) (h : decide (m = n) = b) (w : World) :
    (Op.equalIn 10000 26 (.agg #[.int .u64 (lim m 0), .int .u64 (lim m 1), .int .u64 (lim m 2), .int .u64 (lim m 3)]) (.agg #[.int .u64 (lim n 0), .int .u64 (lim n 1), .int .u64 (lim n 2), .int .u64 (lim n 3)])).run Try.prog w = .ok b w := by
  obtain ⟨i, hi⟩ := Option.isSome_iff_exists.1 (show (Try.prog.info? 22).isSome = true by kernel_rfl)
  exact run_eqInts w .u64 .u64 (by kernel_rfl) Try.underlying22 Try.underlying26 hi (by kernel_rfl) (fun i => lim m i) (fun i => lim n i) (ucells m) (ucells n)
    (fun i hi => ⟨ucells_at m i hi, ucells_at n i hi⟩) b (parts_eq m n hm hn b h)

theorem eqU0 (m : Nat) (b : Bool) (hm : m < T) (h : decide (m = 0) = b) (w : World) :
    (Op.equalIn 10000 26 (.agg #[.int .u64 (lim m 0), .int .u64 (lim m 1), .int .u64 (lim m 2), .int .u64 (lim m 3)]) (.agg #[.int .u64 0, .int .u64 0, .int .u64 0, .int .u64 0])).run Try.prog w = .ok b w := by
  have q := eqU m 0 b hm (by decide) h w
  rw [show lim 0 0 = 0 by rfl, show lim 0 1 = 0 by rfl, show lim 0 2 = 0 by rfl, show lim 0 3 = 0 by rfl] at q
  exact q

/-- The model's entry for math/bits.Sub64. -/
def sub64Entry : Array Value → Sem Value := fun args => do
  let (x, y, b) ← Extern.MathBitsCarry.three "Sub64" args
  pure (Extern.MathBitsCarry.pair ((x + Extern.MathBitsCarry.m64 - y - b) % Extern.MathBitsCarry.m64) (if x < y + b then 1 else 0))
theorem run_sub64 {P : Program} (x y b : Nat) (hb : b ≤ 1) (w : World) :
    (sub64Entry #[.int .u64 x, .int .u64 y, .int .u64 b]).run P w =
      .ok (.tuple #[.int .u64 (((x + 18446744073709551616 - y - b) % 18446744073709551616 : Nat) : Int), .int .u64 ((if x < y + b then 1 else 0 : Nat) : Int)]) w := by
  have : b = 0 ∨ b = 1 := by omega
  rcases this with rfl | rfl <;> rfl
theorem sub64_run (x y b s d : Nat) (hb : b ≤ 1) (hs : s < W64) (hx : x < W64) (hy : y < W64) (hd : d ≤ 1) (h : x + W64 * d = s + y + b) (w : World) :
    (callFunc 43 #[.int .u64 x, .int .u64 y, .int .u64 b]).run Try.prog w = .ok (.value (.tuple #[.int .u64 s, .int .u64 d])) w := by
  rw [run_callFunc_extern Try.func43 (by kernel_rfl) (by kernel_rfl) (by kernel_rfl) (e := sub64Entry) (by kernel_rfl), run_sub64 x y b hb]
  unfold W64 at *
  have e1 : (x + 18446744073709551616 - y - b) % 18446744073709551616 = s := by omega
  have e2 : (if x < y + b then 1 else 0 : Nat) = d := by split <;> omega
  rw [e1, e2]
  rfl

abbrev SumIs (m n r : Nat) (b : Bool) : Prop := m < T ∧ n < T ∧ r < T ∧ m + n = r + T * b.toNat

theorem sum_ex (m n : Nat) (hm : m < T) (hn : n < T) : ∃ s b, SumIs m n s b := by
  by_cases h : T ≤ m + n
  · exact ⟨m + n - T, true, hm, hn, by omega, by simp; omega⟩
  · exact ⟨m + n, false, hm, hn, by omega, by simp⟩
theorem blk_get {w : World} {g : Nat} {t : TypeId} {cs : Array Value} (h : Blk w g t cs) (i : Nat) (v : Value) (hv : cs[i]? = some v) : w.cell? ⟨g, i, none⟩ = some v := (h.cell i).trans hv

set_option maxHeartbeats 400000 in
theorem Add_any (m n r : Nat) (b : Bool) (w : World) (h : SumIs m n r b) :
    Calls Try.prog 20 #[uval m, uval n] w fun e w' => e = .returned (.tuple #[uval r, .bool b]) ∧ Below w.heap.size w w' := by
  obtain ⟨hm, hn, hr, hsum⟩ := h
  have hadd : ∀ k, k < 4 → ∀ w, (callFunc 44 #[.int .u64 (lim m k), .int .u64 (lim n k), .int .u64 (cry m n k)]).run Try.prog w = .ok (.value (.tuple #[.int .u64 (lim r k), .int .u64 (cry m n (k + 1))])) w := by
    intro k hk w
    have e : lim r k = lim (m + n) k := by rw [← lim_mod (m + n) k hk, hsum, Nat.add_mul_mod_self_left, Nat.mod_eq_of_lt hr]
    exact add64_run _ _ _ _ _ (cry_le m n k) (lim_lt r k) (by rw [e]; exact cry_step m n k) w
  have hc4 : cry m n 4 = b.toNat := by
    have hT : 0 < T := by decide
    rw [cry_four m n hm hn, hsum, Nat.add_mul_div_left _ _ hT, Nat.div_eq_of_lt hr]; omega
  have HS := Lib.hid hsum; clear hsum hm hn hr
  have HC := Lib.hid hc4; clear hc4
  have HA := Lib.hid hadd; clear hadd
  unfold uval
  go_enter Try.func20, Try.ntmps20
  go_wp2
  go_loopw [7, 9] (fun c i wr => ∃ k : Nat, k ≤ 4 ∧ i = .int .i64 k ∧ c = .int .u64 (cry m n k) ∧ Blk wr (w.heap.size) 26 (ucells m) ∧ Blk wr (w.heap.size + 1) 26 (ucells n) ∧ Blk wr (w.heap.size + 1 + 1) 26 (outs 0 0) ∧ Blk wr (w.heap.size + 1 + 1 + 1) 26 (outs r k) ∧ Below w.heap.size w wr) (fun _ i _ => 4 - (intOf i).toNat)
  case atStart =>
    refine ⟨0, by omega, rfl, by rw [cry_zero]; rfl, ?_, ?_, ?_, ?_, ?_⟩
    · exact (((Blk.newAt _ _ _ (by simp)).alloc _).alloc _).alloc _
    · exact ((Blk.newAt _ _ _ (by simp)).alloc _).alloc _
    · exact (Blk.newAt _ _ _ (by simp)).alloc _
    · exact Blk.newAt _ _ _ (by simp)
    · exact ((((Below.refl _ _).alloc (Nat.le_refl _) _).alloc (by simp) _).alloc (by simp; omega) _).alloc (by simp; omega) _
  case round =>
    obtain ⟨k, hk, rfl, rfl, h1, h2, h3, h4, hb⟩ := hrel
    by_cases hlt : k < 4
    · have hs := HA.out k hlt
      have c1 := blk_get h1 k _ (ucells_at m k hlt)
      have c2 := blk_get h2 k _ (ucells_at n k hlt)
      obtain ⟨v4, hv4⟩ := outs_at r k k hlt
      have c4 := blk_get h4 k _ hv4
      have f4 := h4.frozen k
      have H := Lib.hid (And.intro h1 (And.intro h2 (And.intro h3 (And.intro h4 hb)))); clear h1 h2 h3 h4 hb hv4
      go_wp2
      go_region_held3 (fun w' => w'.cell? ⟨w.heap.size, k, none⟩ = some (.int .u64 (lim m k)) ∧ w'.cell? ⟨w.heap.size + 1, k, none⟩ = some (.int .u64 (lim n k))) (first | exact ⟨c1, c2⟩ | exact ⟨set_other c1 (by omega), set_other c2 (by omega)⟩) ((fail))
      go_wp2
      obtain ⟨h1, h2, h3, h4, hb⟩ := H.out
      go_roundw
      case rel =>
        exact ⟨k + 1, by omega, by go_num, rfl, (h1.far (by omega) _).drew, (h2.far (by omega) _).drew, (h3.far (by omega) _).drew, ((h4.set_ k _).to (outs_set r k hlt)).drew, (hb.setCell (by simp; omega) _).drew⟩
      case measure => simp [intOf]; omega
    · obtain rfl : k = 4 := by omega
      have e4 := HC.out
      have hb4 : ((cry m n 4 : Int) != 0) = b := by rw [e4]; cases b <;> rfl
      have HO := Lib.hid hb; clear hb
      have HK := Lib.hid h3
      have q3 := h3.cell
      have f3 := h3.frozen
      rw [outs_full] at h4
      have q4 := h4.cell
      simp only [ucells] at q4
      simp only [outs] at q3
      clear h1 h2 h3 h4 e4
      go_wp2
      have hW := ((((HK.out.set_ 0 (lv r 0)).set_ 1 (lv r 1)).set_ 2 (lv r 2)).set_ 3 (lv r 3))
      refine bodyPost_ret (v := .tuple #[uval r, .bool b]) ?_ rfl ⟨rfl, ?_⟩
      · simp [results, Try.results20, go_sem, uval, q3]
      · exact (((HO.out.setCell (by simp; omega) _).setCell (by simp; omega) _).setCell (by simp; omega) _).setCell (by simp; omega) _
abbrev DiffIs (m n r : Nat) (b : Bool) : Prop := m < T ∧ n < T ∧ r < T ∧ m + T * b.toNat = r + n
theorem diff_ex (m n : Nat) (hm : m < T) (hn : n < T) : ∃ d b, DiffIs m n d b := by
  by_cases h : m < n
  · exact ⟨m + T - n, true, hm, hn, by omega, by simp; omega⟩
  · exact ⟨m - n, false, hm, hn, by omega, by simp; omega⟩

set_option maxHeartbeats 400000 in
theorem Sub_any (m n r : Nat) (b : Bool) (w : World) (h : DiffIs m n r b) :
    Calls Try.prog 16 #[uval m, uval n] w fun e w' => e = .returned (.tuple #[uval r, .bool b]) ∧ Below w.heap.size w w' := by
  obtain ⟨hm, hn, hr, hsum⟩ := h
  have hadd : ∀ k, k < 4 → ∀ w, (callFunc 43 #[.int .u64 (lim m k), .int .u64 (lim n k), .int .u64 (cry r n k)]).run Try.prog w = .ok (.value (.tuple #[.int .u64 (lim r k), .int .u64 (cry r n (k + 1))])) w := by
    intro k hk w
    have e : lim m k = lim (r + n) k := by rw [← lim_mod (r + n) k hk, ← hsum, Nat.add_mul_mod_self_left, Nat.mod_eq_of_lt hm]
    have e2 := cry_step r n k
    exact sub64_run _ _ _ _ _ (cry_le r n k) (lim_lt r k) (lim_lt m k) (lim_lt n k) (cry_le r n (k + 1)) (by rw [e]; omega) w
  have hc4 : cry r n 4 = b.toNat := by
    have hT : 0 < T := by decide
    rw [cry_four r n hr hn, ← hsum, Nat.add_mul_div_left _ _ hT, Nat.div_eq_of_lt hm]; omega
  have HS := Lib.hid hsum; clear hsum hm hn hr
  have HC := Lib.hid hc4; clear hc4
  have HA := Lib.hid hadd; clear hadd
  unfold uval
  go_enter Try.func16, Try.ntmps16
  go_wp2
  go_loopw [7, 9] (fun c i wr => ∃ k : Nat, k ≤ 4 ∧ i = .int .i64 k ∧ c = .int .u64 (cry r n k) ∧ Blk wr (w.heap.size) 26 (ucells m) ∧ Blk wr (w.heap.size + 1) 26 (ucells n) ∧ Blk wr (w.heap.size + 1 + 1) 26 (outs 0 0) ∧ Blk wr (w.heap.size + 1 + 1 + 1) 26 (outs r k) ∧ Below w.heap.size w wr) (fun _ i _ => 4 - (intOf i).toNat)
  case atStart =>
    refine ⟨0, by omega, rfl, by rw [cry_zero]; rfl, ?_, ?_, ?_, ?_, ?_⟩
    · exact (((Blk.newAt _ _ _ (by simp)).alloc _).alloc _).alloc _
    · exact ((Blk.newAt _ _ _ (by simp)).alloc _).alloc _
    · exact (Blk.newAt _ _ _ (by simp)).alloc _
    · exact Blk.newAt _ _ _ (by simp)
    · exact ((((Below.refl _ _).alloc (Nat.le_refl _) _).alloc (by simp) _).alloc (by simp; omega) _).alloc (by simp; omega) _
  case round =>
    obtain ⟨k, hk, rfl, rfl, h1, h2, h3, h4, hb⟩ := hrel
    by_cases hlt : k < 4
    · have hs := HA.out k hlt
      have c1 := blk_get h1 k _ (ucells_at m k hlt)
      have c2 := blk_get h2 k _ (ucells_at n k hlt)
      obtain ⟨v4, hv4⟩ := outs_at r k k hlt
      have c4 := blk_get h4 k _ hv4
      have f4 := h4.frozen k
      have H := Lib.hid (And.intro h1 (And.intro h2 (And.intro h3 (And.intro h4 hb)))); clear h1 h2 h3 h4 hb hv4
      go_wp2
      go_region_held3 (fun w' => w'.cell? ⟨w.heap.size, k, none⟩ = some (.int .u64 (lim m k)) ∧ w'.cell? ⟨w.heap.size + 1, k, none⟩ = some (.int .u64 (lim n k))) (first | exact ⟨c1, c2⟩ | exact ⟨set_other c1 (by omega), set_other c2 (by omega)⟩) ((fail))
      go_wp2
      obtain ⟨h1, h2, h3, h4, hb⟩ := H.out
      go_roundw
      case rel =>
        exact ⟨k + 1, by omega, by go_num, rfl, (h1.far (by omega) _).drew, (h2.far (by omega) _).drew, (h3.far (by omega) _).drew, ((h4.set_ k _).to (outs_set r k hlt)).drew, (hb.setCell (by simp; omega) _).drew⟩
      case measure => simp [intOf]; omega
    · obtain rfl : k = 4 := by omega
      have e4 := HC.out
      have hb4 : ((cry r n 4 : Int) != 0) = b := by rw [e4]; cases b <;> rfl
      have HO := Lib.hid hb; clear hb
      have HK := Lib.hid h3
      have q3 := h3.cell
      have f3 := h3.frozen
      rw [outs_full] at h4
      have q4 := h4.cell
      simp only [ucells] at q4
      simp only [outs] at q3
      clear h1 h2 h3 h4 e4
      go_wp2
      have hW := ((((HK.out.set_ 0 (lv r 0)).set_ 1 (lv r 1)).set_ 2 (lv r 2)).set_ 3 (lv r 3))
      refine bodyPost_ret (v := .tuple #[uval r, .bool b]) ?_ rfl ⟨rfl, ?_⟩
      · simp [results, Try.results16, go_sem, uval, q3]
      · exact (((HO.out.setCell (by simp; omega) _).setCell (by simp; omega) _).setCell (by simp; omega) _).setCell (by simp; omega) _

end Go.Proofs.Ytlkjcijbmfgjiaa
