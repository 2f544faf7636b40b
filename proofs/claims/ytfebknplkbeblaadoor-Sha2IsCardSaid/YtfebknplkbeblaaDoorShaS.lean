/- SHA-256 as a function; no program in sight but for the cells of words. -/
import Derived.Test.YtfebknplkbeblaaDoorShaA
import Derived.Test.YtfebknplkbeblaaDoorU256i
namespace Go.Proofs.YtfebknplkbeblaaDoor
open Go.RowKit
set_option linter.unusedVariables false

def s0w (x : Wd) : Wd := rr x 7 ^^^ rr x 18 ^^^ x >>> 3
def s1w (y : Wd) : Wd := rr y 17 ^^^ rr y 19 ^^^ y >>> 10
def bw (c : UInt8) : Wd := BitVec.ofNat 32 c.toNat
theorem wn_bw (c : UInt8) : wn (bw c) = c.toNat := by
  have := c.toNat_lt
  unfold wn bw
  rw [BitVec.toNat_ofNat]
  omega
/-- Word i of a block's first sixteen. -/
def fw (b : List UInt8) (i : Nat) : Wd := bw (b.getD (4 * i) 0) <<< 24 ||| bw (b.getD (4 * i + 1) 0) <<< 16 ||| bw (b.getD (4 * i + 2) 0) <<< 8 ||| bw (b.getD (4 * i + 3) 0)
def firstW (b : List UInt8) (k : Nat) : List Wd := (List.range k).map (fw b)
def nextW (l : List Wd) : Wd := s1w (l.getD (l.length - 2) 0) + l.getD (l.length - 7) 0 + s0w (l.getD (l.length - 15) 0) + l.getD (l.length - 16) 0
def extW (b : List UInt8) : Nat → List Wd
  | 0 => firstW b 16
  | j + 1 => extW b j ++ [nextW (extW b j)]
def wordsOf (b : List UInt8) : List Wd := extW b 48
def rnd (k w : Wd) : List Wd → List Wd
  | [a, b, c, d, e, f, g, h] =>
    let t1 := h + (rr e 6 ^^^ rr e 11 ^^^ rr e 25) + (e &&& f ^^^ ~~~e &&& g) + k + w
    let t2 := (rr a 2 ^^^ rr a 13 ^^^ rr a 22) + (a &&& b ^^^ a &&& c ^^^ b &&& c)
    [t1 + t2, a, b, c, d + t1, e, f, g]
  | l => l
def KC : List Wd := [0x428a2f98, 0x71374491, 0xb5c0fbcf, 0xe9b5dba5, 0x3956c25b, 0x59f111f1, 0x923f82a4, 0xab1c5ed5, 0xd807aa98, 0x12835b01, 0x243185be, 0x550c7dc3, 0x72be5d74, 0x80deb1fe, 0x9bdc06a7, 0xc19bf174, 0xe49b69c1, 0xefbe4786, 0x0fc19dc6, 0x240ca1cc, 0x2de92c6f, 0x4a7484aa, 0x5cb0a9dc, 0x76f988da, 0x983e5152, 0xa831c66d, 0xb00327c8, 0xbf597fc7, 0xc6e00bf3, 0xd5a79147, 0x06ca6351, 0x14292967, 0x27b70a85, 0x2e1b2138, 0x4d2c6dfc, 0x53380d13, 0x650a7354, 0x766a0abb, 0x81c2c92e, 0x92722c85, 0xa2bfe8a1, 0xa81a664b, 0xc24b8b70, 0xc76c51a3, 0xd192e819, 0xd6990624, 0xf40e3585, 0x106aa070, 0x19a4c116, 0x1e376c08, 0x2748774c, 0x34b0bcb5, 0x391c0cb3, 0x4ed8aa4a, 0x5b9cca4f, 0x682e6ff3, 0x748f82ee, 0x78a5636f, 0x84c87814, 0x8cc70208, 0x90befffa, 0xa4506ceb, 0xbef9a3f7, 0xc67178f2]
def HI : List Wd := [0x6a09e667, 0xbb67ae85, 0x3c6ef372, 0xa54ff53a, 0x510e527f, 0x9b05688c, 0x1f83d9ab, 0x5be0cd19]
def rounds (W v : List Wd) : Nat → List Wd
  | 0 => v
  | n + 1 => rnd (KC.getD n 0) (W.getD n 0) (rounds W v n)
/-- The words behind a block. -/
def blk (h : List Wd) (b : List UInt8) : List Wd := if b.length = 64 then List.zipWith (· + ·) (rounds (wordsOf b) h 64) h else h
theorem firstW_length (b : List UInt8) (k : Nat) : (firstW b k).length = k := by simp [firstW]
theorem extW_length (b : List UInt8) (j : Nat) : (extW b j).length = 16 + j := by
  induction j with
  | zero => simp [extW, firstW]
  | succ j ih => rw [extW, List.length_append, ih]; simp; omega
theorem firstW_snoc (b : List UInt8) (k : Nat) : firstW b (k + 1) = firstW b k ++ [fw b k] := by simp [firstW, List.range_succ]
theorem rnd_length (k w : Wd) (l : List Wd) (h : l.length = 8) : (rnd k w l).length = 8 := by
  match l, h with
  | [a, b, c, d, e, f, g, h], _ => rfl
theorem rounds_length (W v : List Wd) (h : v.length = 8) (n : Nat) : (rounds W v n).length = 8 := by
  induction n with
  | zero => exact h
  | succ n ih => exact rnd_length _ _ _ ih
theorem blk_length (h : List Wd) (b : List UInt8) (hl : h.length = 8) : (blk h b).length = 8 := by
  unfold blk
  split
  · rw [List.length_zipWith, rounds_length _ _ hl, hl]; rfl
  · exact hl

/-! ## Cells -/
def u32c (l : List Wd) : Array Value := (l.map fun x => Value.int .u32 (wn x)).toArray
/-- With zeros behind, n in all. -/
def padW (n : Nat) (l : List Wd) : Array Value := u32c (l ++ List.replicate (n - l.length) 0)
theorem u32c_size (l : List Wd) : (u32c l).size = l.length := by simp [u32c]
theorem u32c_at (l : List Wd) (i : Nat) (h : i < l.length) : (u32c l)[i]? = some (.int .u32 (wn (l.getD i 0))) := by simp [u32c, h]
theorem u32c_one (l : List Wd) : (u32c l).all (·.oneCell') = true := by simp [u32c, Value.oneCell']
theorem padW_size (n : Nat) (l : List Wd) (h : l.length ≤ n) : (padW n l).size = n := by unfold padW; rw [u32c_size]; simp; omega
theorem padW_at (n : Nat) (l : List Wd) (i : Nat) (h : i < l.length) : (padW n l)[i]? = some (.int .u32 (wn (l.getD i 0))) := by
  unfold padW
  rw [u32c_at _ _ (by simp; omega)]
  simp [List.getD, List.getElem?_append_left h]
theorem padW_some (n : Nat) (l : List Wd) (i : Nat) (hl : l.length ≤ n) (h : i < n) : ∃ v, (padW n l)[i]? = some v := by
  have : i < (padW n l).size := by rw [padW_size n l hl]; exact h
  exact ⟨_, Array.getElem?_eq_getElem this⟩
theorem padW_set (n : Nat) (l : List Wd) (x : Wd) (h : l.length < n) : (padW n l).setIfInBounds l.length (.int .u32 (wn x)) = padW n (l ++ [x]) := by
  unfold padW u32c
  have e : n - l.length = (n - (l ++ [x]).length) + 1 := by simp; omega
  rw [e, List.replicate_succ]
  simp
theorem padW_full (n : Nat) (l : List Wd) (h : l.length = n) : padW n l = u32c l := by unfold padW; rw [h, Nat.sub_self]; simp
theorem z64_cells : padW 64 [] = #[.int .u32 0, .int .u32 0, .int .u32 0, .int .u32 0, .int .u32 0, .int .u32 0, .int .u32 0, .int .u32 0, .int .u32 0, .int .u32 0, .int .u32 0, .int .u32 0, .int .u32 0, .int .u32 0, .int .u32 0, .int .u32 0, .int .u32 0, .int .u32 0, .int .u32 0, .int .u32 0, .int .u32 0, .int .u32 0, .int .u32 0, .int .u32 0, .int .u32 0, .int .u32 0, .int .u32 0, .int .u32 0, .int .u32 0, .int .u32 0, .int .u32 0, .int .u32 0, .int .u32 0, .int .u32 0, .int .u32 0, .int .u32 0, .int .u32 0, .int .u32 0, .int .u32 0, .int .u32 0, .int .u32 0, .int .u32 0, .int .u32 0, .int .u32 0, .int .u32 0, .int .u32 0, .int .u32 0, .int .u32 0, .int .u32 0, .int .u32 0, .int .u32 0, .int .u32 0, .int .u32 0, .int .u32 0, .int .u32 0, .int .u32 0, .int .u32 0, .int .u32 0, .int .u32 0, .int .u32 0, .int .u32 0, .int .u32 0, .int .u32 0, .int .u32 0] := by kernel_rfl
theorem z8_cells : padW 8 [] = #[.int .u32 0, .int .u32 0, .int .u32 0, .int .u32 0, .int .u32 0, .int .u32 0, .int .u32 0, .int .u32 0] := by kernel_rfl
theorem is64 (c : Array Value) (h : c.size = 64) : (Tryd.prog.info? 79).map (·.size) = some c.size := by rw [h]; kernel_rfl
theorem is8 (c : Array Value) (h : c.size = 8) : (Tryd.prog.info? 25).map (·.size) = some c.size := by rw [h]; kernel_rfl
end Go.Proofs.YtfebknplkbeblaaDoor
