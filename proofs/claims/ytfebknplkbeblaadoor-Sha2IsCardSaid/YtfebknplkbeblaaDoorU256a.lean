/- What u256's sums, differences, turned numbers and comparisons come to. -/
import Derived.Test.YtfebknplkbeblaaDoorProg
import Derived.Test.YtfebknplkbeblaaDoorBase
import Derived.Deep.RegionHeld3
import Derived.Deep.QuietTactic
import Derived.BigQuiet
import Derived.Outline
namespace Go.Proofs.YtfebknplkbeblaaDoor
open Go.RowKit
set_option linter.unusedVariables false

theorem add64_run (x y c s d : Nat) (hc : c ≤ 1) (hs : s < W64) (h : x + y + c = s + W64 * d) (w : World) :
    (callFunc 75 #[.int .u64 x, .int .u64 y, .int .u64 c]).run Tryd.prog w = .ok (.value (.tuple #[.int .u64 s, .int .u64 d])) w := by
  rw [run_callFunc_extern Tryd.func75 (by kernel_rfl) (by kernel_rfl) (by kernel_rfl) (e := add64Entry) (by kernel_rfl), run_add64 x y c (by omega) (by omega) (by omega) (by omega)]
  unfold W64 at *
  have e1 : ((x : Int) + y + c) % 18446744073709551616 = s := by omega
  have e2 : ((x : Int) + y + c) / 18446744073709551616 = d := by omega
  rw [e1, e2]
  rfl

theorem eqU (m n : Nat) (b : Bool) (hm : m < T) (hn : n < T) (h : decide (m = n) = b) (w : World) :
    (Op.equalIn 10000 62 (.agg #[.int .u64 (lim m 0), .int .u64 (lim m 1), .int .u64 (lim m 2), .int .u64 (lim m 3)]) (.agg #[.int .u64 (lim n 0), .int .u64 (lim n 1), .int .u64 (lim n 2), .int .u64 (lim n 3)])).run Tryd.prog w = .ok b w := by
  obtain ⟨i, hi⟩ := Option.isSome_iff_exists.1 (show (Tryd.prog.info? 27).isSome = true by kernel_rfl)
  exact run_eqInts w .u64 .u64 (by kernel_rfl) Tryd.underlying27 Tryd.underlying62 hi (by kernel_rfl) (fun i => lim m i) (fun i => lim n i) (ucells m) (ucells n)
    (fun i hi => ⟨ucells_at m i hi, ucells_at n i hi⟩) b (parts_eq m n hm hn b h)

theorem eqU0 (m : Nat) (b : Bool) (hm : m < T) (h : decide (m = 0) = b) (w : World) :
    (Op.equalIn 10000 62 (.agg #[.int .u64 (lim m 0), .int .u64 (lim m 1), .int .u64 (lim m 2), .int .u64 (lim m 3)]) (.agg #[.int .u64 0, .int .u64 0, .int .u64 0, .int .u64 0])).run Tryd.prog w = .ok b w := by
  have q := eqU m 0 b hm (by decide) h w
  rw [show lim 0 0 = 0 by rfl, show lim 0 1 = 0 by rfl, show lim 0 2 = 0 by rfl, show lim 0 3 = 0 by rfl] at q
  exact q

/-- The model's entry for math/bits.Sub64. -/
def sub64Entry : Array Value → Sem Value := fun args => do
  let (x, y, b) ← Extern.MathBitsCarry.three "Sub64" args
  pure (Extern.MathBitsCarry.pair ((x + Extern.MathBitsCarry.m64 - y - b) % Extern.MathBitsCarry.m64) (if x < y + b then 1 else 0))
theorem run_sub64 {P : Program} (x y b : Nat) (hb : b ≤ 1) (w : World) :
    (sub64Entry #[.int .u64 x, .int .u64 y, .int .u64 b]).run P w =
      .ok (.tuple #[.int .u64 (((x + 18446744073709551616 - y - b) % 18446744073709551616 : Nat) : Int), .int .u64 ((if x < y + b then 1 else 0 : Nat) : Int)]) w := by
  have : b = 0 ∨ b = 1 := by omega
  rcases this with rfl | rfl <;> rfl

abbrev SumIs (m n r : Nat) (b : Bool) : Prop := m < T ∧ n < T ∧ r < T ∧ m + n = r + T * b.toNat

theorem sum_ex (m n : Nat) (hm : m < T) (hn : n < T) : ∃ s b, SumIs m n s b := by
  by_cases h : T ≤ m + n
  · exact ⟨m + n - T, true, hm, hn, by omega, by simp; omega⟩
  · exact ⟨m + n, false, hm, hn, by omega, by simp⟩
theorem blk_get {w : World} {g : Nat} {t : TypeId} {cs : Array Value} (h : Blk w g t cs) (i : Nat) (v : Value) (hv : cs[i]? = some v) : w.cell? ⟨g, i, none⟩ = some v := (h.cell i).trans hv

abbrev DiffIs (m n r : Nat) (b : Bool) : Prop := m < T ∧ n < T ∧ r < T ∧ m + T * b.toNat = r + n
theorem diff_ex (m n : Nat) (hm : m < T) (hn : n < T) : ∃ d b, DiffIs m n d b := by
  by_cases h : m < n
  · exact ⟨m + T - n, true, hm, hn, by omega, by simp; omega⟩
  · exact ⟨m - n, false, hm, hn, by omega, by simp; omega⟩


end Go.Proofs.YtfebknplkbeblaaDoor
