/- What math/bits' Len64 and Mul64 come to (by the library's own text, walked). -/
import Derived.Test.YtfebknplkbeblaaDoorProg
import Derived.Test.YtfebknplkbeblaaDoorBase
import Derived.Lib.Strings
import Derived.Lib.Slices
import Derived.Lib.Small
import Derived.Lib.Walk
import Derived.Lib.BitFns
import Derived.Lib.Mul64
import Derived.Laws.Bits64b
namespace Go.Proofs.YtfebknplkbeblaaDoor
open Go.RowKit
set_option linter.unusedVariables false

/-- How many digits of two n has. -/
def bl (n : Nat) : Nat := if n = 0 then 0 else n.log2 + 1
theorem bl_half (n : Nat) (h : n ≠ 0) : bl n = 1 + bl (n / 2) := by
  unfold bl
  rw [if_neg h]
  by_cases h2 : n / 2 = 0
  · have : n = 1 := by omega
    subst this
    rfl
  · rw [if_neg h2, Nat.log2_def, if_pos (by omega)]
    omega
theorem bl_lib (n : Nat) : n < 2 ^ 64 → Lib.bitLen n = bl n := by
  induction n using Nat.strongRecOn with
  | _ n ih =>
    intro h
    by_cases h0 : n = 0
    · subst h0; rfl
    · rw [Lib.bitLen_half n h0 h, bl_half n h0, ih (n / 2) (by omega) (by omega)]
theorem bl_lt (n k : Nat) : bl n ≤ k ↔ n < 2 ^ k := by
  unfold bl
  split
  · rename_i h; subst h; simp [Nat.two_pow_pos]
  · rename_i h; rw [Nat.succ_le_iff, Nat.log2_lt h]

theorem len8tab_at' : ∀ i : Fin 256, (Lib.len8tab[i.val]'(by rw [Lib.len8tab_size]; exact i.isLt)).toNat = Lib.bitLen i.val := by decide +kernel
theorem len8tab_at (i : Nat) (h : i < Lib.len8tab.size) : (Lib.len8tab[i]'h).toNat = Lib.bitLen i := len8tab_at' ⟨i, by rw [← Lib.len8tab_size]; exact h⟩
theorem wl (c n : Nat) (h1 : c ≤ 56) (hn : n ≤ 8) : RowKit.wrap64 ((c : Int) + RowKit.wrap64 (n : Int)) = ((c + n : Nat) : Int) := by
  unfold RowKit.wrap64
  omega
theorem wl0 (n : Nat) (hn : n ≤ 8) : RowKit.wrap64 (RowKit.wrap64 (n : Int)) = (n : Int) := by
  unfold RowKit.wrap64
  omega

set_option maxHeartbeats 4000000 in
set_option maxRecDepth 100000 in
theorem Len64_int (x : Int) (w : World) (h0 : 0 ≤ x) (h1 : x ≤ 18446744073709551615) :
    Calls Tryd.prog 80 #[.int .u64 x] w fun e w' => e = .returned (.int .i64 (Lib.bitLen x.toNat)) ∧ w' = w := by
  have hs : Lib.len8tab.size = 256 := Lib.len8tab_size
  go_enter Tryd.func80, Tryd.ntmps80
  go_wp2
  all_goals (go_ret; refine ⟨congrArg Ending.returned (congrArg (Value.int IntKind.i64) ?_), rfl⟩; rw [len8tab_at])
  all_goals first
    | (have e : (x / 4294967296 / 65536 / 256).toNat = x.toNat / 72057594037927936 := by omega
       rw [e]
       rw [Lib.bitLen_shift56 x.toNat (by omega) (by omega)]
       exact wl 56 _ (by decide) (Lib.bitLen_le8 ⟨x.toNat / 72057594037927936, by omega⟩))
    | (have e : (x / 4294967296 / 65536).toNat = x.toNat / 281474976710656 := by omega
       rw [e]
       rw [Lib.bitLen_shift48 x.toNat (by omega) (by omega)]
       exact wl 48 _ (by decide) (Lib.bitLen_le8 ⟨x.toNat / 281474976710656, by omega⟩))
    | (have e : (x / 4294967296 / 256).toNat = x.toNat / 1099511627776 := by omega
       rw [e]
       rw [Lib.bitLen_shift40 x.toNat (by omega) (by omega)]
       exact wl 40 _ (by decide) (Lib.bitLen_le8 ⟨x.toNat / 1099511627776, by omega⟩))
    | (have e : (x / 4294967296).toNat = x.toNat / 4294967296 := by omega
       rw [e]
       rw [Lib.bitLen_shift32 x.toNat (by omega) (by omega)]
       exact wl 32 _ (by decide) (Lib.bitLen_le8 ⟨x.toNat / 4294967296, by omega⟩))
    | (have e : (x / 65536 / 256).toNat = x.toNat / 16777216 := by omega
       rw [e]
       rw [Lib.bitLen_shift24 x.toNat (by omega) (by omega)]
       exact wl 24 _ (by decide) (Lib.bitLen_le8 ⟨x.toNat / 16777216, by omega⟩))
    | (have e : (x / 65536).toNat = x.toNat / 65536 := by omega
       rw [e]
       rw [Lib.bitLen_shift16 x.toNat (by omega) (by omega)]
       exact wl 16 _ (by decide) (Lib.bitLen_le8 ⟨x.toNat / 65536, by omega⟩))
    | (have e : (x / 256).toNat = x.toNat / 256 := by omega
       rw [e]
       rw [Lib.bitLen_shift8 x.toNat (by omega) (by omega)]
       exact wl 8 _ (by decide) (Lib.bitLen_le8 ⟨x.toNat / 256, by omega⟩))
    | exact wl0 _ (Lib.bitLen_le8 ⟨x.toNat, by omega⟩)
theorem Len64_any (n : Nat) (w : World) (h : n < W64) :
    Calls Tryd.prog 80 #[.int .u64 n] w fun e w' => e = .returned (.int .i64 (bl n)) ∧ w' = w := by
  unfold W64 at h
  have := Len64_int n w (by omega) (by omega)
  rw [Int.toNat_natCast, bl_lib n (by omega)] at this
  exact this

namespace Mul64
theorem maskN (a : Nat) (ha : a < 18446744073709551616) : bits .and .u64 (a : Int) 4294967295 = ((a % 4294967296 : Nat) : Int) := by
  have h := bits_and_u64_nat a 4294967295 ha (by omega)
  have e : a &&& 4294967295 = a % 4294967296 := Nat.and_two_pow_sub_one_eq_mod a 32
  rw [e] at h
  exact h
theorem divN (a : Nat) : (a : Int) / 4294967296 = ((a / 4294967296 : Nat) : Int) := by omega
theorem mulN (a b : Nat) : (a : Int) * (b : Int) = ((a * b : Nat) : Int) := (Int.natCast_mul a b).symm
theorem addN (a b : Nat) : (a : Int) + (b : Int) = ((a + b : Nat) : Int) := (Int.natCast_add a b).symm
theorem wrapN (a : Nat) (ha : a < 18446744073709551616) : IntKind.u64.wrap (a : Int) = (a : Int) := by rw [IntKind.wrap_u64]; omega
theorem wrapM (a : Nat) : IntKind.u64.wrap (a : Int) = ((a % 18446744073709551616 : Nat) : Int) := by rw [IntKind.wrap_u64]; omega
end Mul64
set_option maxHeartbeats 1000000 in
theorem Mul64_nat (x y : Nat) (hx : x < 18446744073709551616) (hy : y < 18446744073709551616) (w : World) :
    Calls Tryd.prog 74 #[.int .u64 x, .int .u64 y] w fun e w' => e = .returned (.tuple #[.int .u64 ((x * y / 18446744073709551616 : Nat) : Int), .int .u64 ((x * y % 18446744073709551616 : Nat) : Int)]) ∧ w' = w := by
  obtain ⟨bd, bt, bw, hhi⟩ := Lib.mul64_hi x y hx hy
  have ba := Lib.half_mul_le (a := x / 4294967296) (b := y / 4294967296) (by omega) (by omega)
  have bb := Lib.half_mul_le (a := x / 4294967296) (b := y % 4294967296) (by omega) (by omega)
  have bc := Lib.half_mul_le (a := x % 4294967296) (b := y / 4294967296) (by omega) (by omega)
  have ba' : x / 4294967296 * (y / 4294967296) < 18446744073709551616 := by omega
  have bb' : x / 4294967296 * (y % 4294967296) < 18446744073709551616 := by omega
  have bc' : x % 4294967296 * (y / 4294967296) < 18446744073709551616 := by omega
  have bh1 : x / 4294967296 * (y / 4294967296) + (x / 4294967296 * (y % 4294967296) + x % 4294967296 * (y % 4294967296) / 4294967296) / 4294967296 < 18446744073709551616 := by omega
  have bh : x / 4294967296 * (y / 4294967296) + (x / 4294967296 * (y % 4294967296) + x % 4294967296 * (y % 4294967296) / 4294967296) / 4294967296 + ((x / 4294967296 * (y % 4294967296) + x % 4294967296 * (y % 4294967296) / 4294967296) % 4294967296 + x % 4294967296 * (y / 4294967296)) / 4294967296 < 18446744073709551616 := by omega
  go_enter Tryd.func74, Tryd.ntmps74
  go_wp2
  -- the walk's numbers, folded from the inside out: each step of the school method is a natural number that does not wrap
  simp only [Mul64.maskN x hx, Mul64.maskN y hy, Mul64.divN, Mul64.mulN, Mul64.addN, Mul64.wrapN _ bd, Mul64.wrapN _ bb', Mul64.wrapN _ bt, Mul64.maskN _ bt, Mul64.wrapN _ bc', Mul64.wrapN _ bw, Mul64.wrapN _ ba', Mul64.wrapN _ bh1, Mul64.wrapN _ bh, Mul64.wrapM (x * y)]
  rw [hhi]
  go_ret2
  exact ⟨rfl, rfl⟩

theorem Mul64_any (x y hi lo : Nat) (hx : x < W64) (hy : y < W64) (hl : lo < W64) (h : x * y = hi * W64 + lo) (w : World) :
    Calls Tryd.prog 74 #[.int .u64 x, .int .u64 y] w fun e w' => e = .returned (.tuple #[.int .u64 hi, .int .u64 lo]) ∧ w' = w := by
  unfold W64 at *
  have := Mul64_nat x y hx hy w
  rw [h, show (hi * 18446744073709551616 + lo) / 18446744073709551616 = hi by omega, show (hi * 18446744073709551616 + lo) % 18446744073709551616 = lo by omega] at this
  exact this
end Go.Proofs.YtfebknplkbeblaaDoor
