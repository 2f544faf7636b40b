/- SHA-256: words, and what is turned. -/
import Derived.Test.YtfebknplkbeblaaDoorProg
import Derived.Test.YtfebknplkbeblaaDoorInv
import Derived.Deep.RegionHeld3
import Derived.Outline
namespace Go.Proofs.YtfebknplkbeblaaDoor
open Go.RowKit
set_option linter.unusedVariables false

abbrev Wd := BitVec 32
/-- A word as a number; behind a name. -/
def wn (x : Wd) : Nat := x.toNat
theorem wn_lt (x : Wd) : wn x < 4294967296 := x.isLt
theorem ofInt_wd (a : Wd) : BitVec.ofInt 32 (wn a : Int) = a := by
  apply BitVec.eq_of_toNat_eq
  rw [BitVec.toNat_ofInt]
  have := wn_lt a
  unfold wn at *
  omega
theorem wrap_wd (a : Wd) : IntKind.u32.wrap (a.toNat : Int) = (wn a : Int) := by
  have := wn_lt a
  unfold wn at *
  simp [IntKind.wrap, IntKind.signed, IntKind.bits]
  omega
theorem bxor_wd (a b : Wd) : bits .xor .u32 (wn a : Int) (wn b : Int) = (wn (a ^^^ b) : Int) := by
  show IntKind.u32.wrap ((BitVec.ofInt 32 (wn a : Int) ^^^ BitVec.ofInt 32 (wn b : Int)).toNat : Int) = _
  rw [ofInt_wd, ofInt_wd, wrap_wd]
theorem band_wd (a b : Wd) : bits .and .u32 (wn a : Int) (wn b : Int) = (wn (a &&& b) : Int) := by
  show IntKind.u32.wrap ((BitVec.ofInt 32 (wn a : Int) &&& BitVec.ofInt 32 (wn b : Int)).toNat : Int) = _
  rw [ofInt_wd, ofInt_wd, wrap_wd]
theorem bor_wd (a b : Wd) : bits .or .u32 (wn a : Int) (wn b : Int) = (wn (a ||| b) : Int) := by
  show IntKind.u32.wrap ((BitVec.ofInt 32 (wn a : Int) ||| BitVec.ofInt 32 (wn b : Int)).toNat : Int) = _
  rw [ofInt_wd, ofInt_wd, wrap_wd]
theorem bnot_wd (a : Wd) : bits .xor .u32 IntKind.u32.max (wn a : Int) = (wn (~~~a) : Int) := by
  show IntKind.u32.wrap ((BitVec.ofInt 32 IntKind.u32.max ^^^ BitVec.ofInt 32 (wn a : Int)).toNat : Int) = _
  rw [ofInt_wd, show BitVec.ofInt 32 IntKind.u32.max = BitVec.allOnes 32 by decide, BitVec.allOnes_xor, wrap_wd]
theorem add_wd (a b : Wd) : IntKind.u32.wrap ((wn a : Int) + (wn b : Int)) = (wn (a + b) : Int) := by
  have h1 := wn_lt a
  have h2 := wn_lt b
  unfold wn at *
  rw [BitVec.toNat_add, IntKind.wrap_u32]
  omega
theorem wn_add (a b : Wd) : wn (a + b) = (wn a + wn b) % 4294967296 := by
  unfold wn
  rw [BitVec.toNat_add]
theorem add4_wd (a b c d : Wd) : ((wn a : Int) + (wn b : Int) + (wn c : Int) + (wn d : Int)) % 4294967296 = (wn (a + b + c + d) : Int) := by
  rw [wn_add, wn_add, wn_add]
  omega
theorem add5_wd (a b c d e : Wd) : ((wn a : Int) + (wn b : Int) + (wn c : Int) + (wn d : Int) + (wn e : Int)) % 4294967296 = (wn (a + b + c + d + e) : Int) := by
  rw [wn_add, wn_add, wn_add, wn_add]
  omega
theorem add2_wd (a b : Wd) : ((wn a : Int) + (wn b : Int)) % 4294967296 = (wn (a + b) : Int) := by
  rw [wn_add]
  omega
theorem shr_wd (a : Wd) (n : Nat) : ((wn a : Int) / 2 ^ n) = (wn (a >>> n) : Int) := by
  unfold wn
  rw [BitVec.toNat_ushiftRight, Nat.shiftRight_eq_div_pow]
  generalize a.toNat = y
  push_cast
  rfl
theorem shl_wd (a : Wd) (n : Nat) : IntKind.u32.wrap ((wn a : Int) * 2 ^ n) = (wn (a <<< n) : Int) := by
  unfold wn
  rw [BitVec.toNat_shiftLeft, Nat.shiftLeft_eq, IntKind.wrap_u32]
  generalize a.toNat = y
  have e : ((y : Int) * 2 ^ n) = ((y * 2 ^ n : Nat) : Int) := by push_cast; rfl
  rw [e]
  generalize y * 2 ^ n = z
  omega
/-- x turned to the right by n. -/
def rr (x : Wd) (n : Nat) : Wd := x >>> n ||| x <<< (32 - n)

set_option maxHeartbeats 400000 in
theorem RotateLeft_any (x : Wd) (n : Nat) (h0 : 0 < n) (h1 : n < 32) (w : World) :
    Calls Tryd.prog 77 #[.int .u32 (wn x), .int .i64 (-(n : Int))] w fun e w' => e = .returned (.int .u32 (wn (rr x n))) ∧ w' = w := by
  have e1 : bits .and .u64 (IntKind.u64.wrap (-(n : Int))) 31 = ((32 - n : Nat) : Int) := by
    have e2 := u64_and_nat (18446744073709551616 - n) 31 (by omega) (by omega)
    have e3 : IntKind.u64.wrap (-(n : Int)) = ((18446744073709551616 - n : Nat) : Int) := by rw [IntKind.wrap_u64]; omega
    rw [e3]
    refine e2.trans ?_
    congr 1
    have e4 : (18446744073709551616 - n) &&& 31 = (18446744073709551616 - n) % 32 := Nat.and_two_pow_sub_one_eq_mod _ 5
    rw [e4]
    omega
  obtain ⟨m, hm⟩ : ∃ m, m = 32 - n := ⟨_, rfl⟩
  rw [← hm] at e1
  have hmn : (32 : Int) - (m : Int) = (n : Int) := by omega
  have hm32 : m < 32 := by omega
  have v1 := shl_wd x m
  have v2 := shr_wd x n
  have v3 := bor_wd (x <<< m) (x >>> n)
  have e5 : x <<< m ||| x >>> n = rr x n := by unfold rr; rw [← hm, BitVec.or_comm]
  rw [e5] at v3
  have H := Lib.hid (And.intro hm e5); clear hm e5
  go_enter Tryd.func77, Tryd.ntmps77
  go_wp2
  go_ret
  exact ⟨rfl, rfl⟩
set_option maxHeartbeats 400000 in
theorem turned_any (x : Wd) (n : Nat) (h0 : 0 < n) (h1 : n < 32) (w : World) :
    Calls Tryd.prog 63 #[.int .u32 (wn x), .int .i64 n] w fun e w' => e = .returned (.int .u32 (wn (rr x n))) ∧ w' = w := by
  go_enter Tryd.func63, Tryd.ntmps63
  go_wp2_with (go_at_call 77; refine (RotateLeft_any x n h0 h1 _).mono ?_; rintro e w' ⟨rfl, rfl⟩)
  go_ret
  exact ⟨rfl, rfl⟩
theorem turned_is (x : Wd) (k : Int) (n : Nat) (hk : k = n) (h0 : 0 < n) (h1 : n < 32) (w : World) :
    Calls Tryd.prog 63 #[.int .u32 (wn x), .int .i64 k] w fun e w' => e = .returned (.int .u32 (wn (rr x n))) ∧ w' = w := by
  subst hk
  exact turned_any x n h0 h1 w
end Go.Proofs.YtfebknplkbeblaaDoor
