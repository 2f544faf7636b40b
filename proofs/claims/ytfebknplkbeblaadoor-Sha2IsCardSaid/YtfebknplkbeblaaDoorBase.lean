/- Small words on memory and on numbers of four parts; no program in sight. -/
import Derived.WalkKit
import Derived.WalkSpells
import Derived.WalkLawsBesides
import Derived.Lib.Hide
import Derived.ChangeKeysEq
import Derived.Test.YtfebknplkbeblaaDoorRegion
namespace Go.Proofs.YtfebknplkbeblaaDoor
open Go.RowKit

/-! ## Blocks -/
def Blk (w : World) (g : Nat) (t : TypeId) (cs : Array Value) : Prop := w.heap[g]? = some (.cells cs t (0, 0))

section
variable {w w' : World} {g : Nat} {t : TypeId} {cs : Array Value}
theorem Blk.lt (h : Blk w g t cs) : g < w.heap.size := by
  rcases Nat.lt_or_ge g w.heap.size with hlt | hge
  · exact hlt
  · unfold Blk at h; rw [Array.getElem?_eq_none hge] at h; cases h
theorem Blk.cell (h : Blk w g t cs) (i : Nat) : w.cell? ⟨g, i, none⟩ = cs[i]? := cell_of_row w g i cs t (0, 0) h
theorem Blk.frozen (h : Blk w g t cs) (i : Nat) : w.frozen? ⟨g, i, none⟩ = false := by
  unfold Blk at h
  simp [World.frozen?, h]
theorem Blk.new (w : World) (t : TypeId) (cs : Array Value) : Blk (w.alloc (.cells cs t)) w.heap.size t cs := heap_alloc_new w _
theorem Blk.newAt (w : World) (t : TypeId) (cs : Array Value) {n : Nat} (hn : n = w.heap.size) : Blk (w.alloc (.cells cs t)) n t cs := hn ▸ Blk.new w t cs
theorem Blk.drew (h : Blk w g t cs) : Blk w.drew g t cs := h
theorem Blk.drewN (h : Blk w g t cs) (n : Nat) : Blk (w.drewN n) g t cs := h
theorem Blk.alloc (h : Blk w g t cs) (o : Obj) : Blk (w.alloc o) g t cs := (Below.heap_alloc w o g h.lt).trans h
theorem Blk.set_ (h : Blk w g t cs) (i : Nat) (u : Value) : Blk (w.setCell ⟨g, i, none⟩ u) g t (cs.setIfInBounds i u) := by
  unfold Blk at h ⊢
  simp [World.setCell, Array.getElem?_modify, h]
theorem Blk.far (h : Blk w g t cs) {b i : Nat} (hp : g ≠ b) (u : Value) : Blk (w.setCell ⟨b, i, none⟩ u) g t cs := (Below.heap_setCell w ⟨b, i, none⟩ u g hp).trans h
theorem Blk.below {B : Nat} (h : Blk w g t cs) (hb : Below B w w') (hg : g < B) : Blk w' g t cs := (hb.block g hg).trans h
theorem Blk.calls (h : Blk w g t cs) (hb : Below w.heap.size w w') : Blk w' g t cs := h.below hb h.lt
theorem Blk.to {cs' : Array Value} (h : Blk w g t cs) (e : cs = cs') : Blk w g t cs' := e ▸ h
end

theorem bdN {B : Nat} {a w : World} (h : Below B a w) (n : Nat) : Below B a (w.drewN n) := ⟨h.os, h.tape, h.output, h.size, h.block⟩
theorem bt {a b c : World} (h : Below a.heap.size a b) (k : Below b.heap.size b c) : Below a.heap.size a c := h.trans (k.mono h.size)
theorem ba {a b : World} (h : Below a.heap.size a b) (o : Obj) : Below a.heap.size a (b.alloc o) := h.alloc h.size o
theorem set_other {w : World} {b c i j : Nat} {v u : Value} (h : w.cell? ⟨b, i, none⟩ = some u) (hne : b ≠ c) : (w.setCell ⟨c, j, none⟩ v).cell? ⟨b, i, none⟩ = some u :=
  (World.cell?_setCell_other w ⟨c, j, none⟩ ⟨b, i, none⟩ v (by intro e; injection e with e1; exact hne e1.symm)).trans h

theorem bcell {W w1 : World} (hb : Below W.heap.size W w1) : (∀ b o, b < W.heap.size → w1.cell? ⟨b, o, none⟩ = W.cell? ⟨b, o, none⟩) ∧ (∀ b o, b < W.heap.size → w1.frozen? ⟨b, o, none⟩ = W.frozen? ⟨b, o, none⟩) :=
  ⟨fun b o h => hb.cell (p := ⟨b, o, none⟩) h, fun b o h => hb.frozen (p := ⟨b, o, none⟩) h⟩

theorem ret_int {k : IntKind} {a b : Int} (h : a = b) : Ending.returned (.int k a) = .returned (.int k b) := by rw [h]

theorem ret_str {a b : ByteArray} (h : a = b) : Ending.returned (.string a) = .returned (.string b) := by rw [h]

theorem Calls.cls {P : Program} {f : FuncId} {args : Array Value} {w : World} {v : Value} {R : World → Prop} (h : Calls P f args w fun e w' => e = .returned v ∧ Below w.heap.size w w') (k : ∀ w', Below w.heap.size w w' → R w') :
    Calls P f args w fun e w' => e = .returned v ∧ R w' := h.mono fun _ w' ⟨he, hb⟩ => ⟨he, k w' hb⟩

/-! ## Arrays of integers are compared -/
section
variable {P : Program} (w : World)
theorem run_eqItems_ints (d : Nat) {e : TypeId} (k k' : IntKind) (he : P.plainKey e = true) (hu : P.underlying e = some (.int k')) (f g : Nat → Int) (xs ys : Array Value) :
    ∀ is : List Nat, (∀ i, i ∈ is → xs[i]? = some (.int k (f i)) ∧ ys[i]? = some (.int k (g i))) → (Op.eqItems (d + 1) e 1 xs ys is).run P w = .ok (is.all fun i => f i == g i) w
  | [], _ => by simp [Op.eqItems]
  | i :: is, h => by
    obtain ⟨h1, h2⟩ := h i (by simp)
    have ih := run_eqItems_ints d k k' he hu f g xs ys is fun j hj => h j (by simp [hj])
    have p1 := run_part_plain (P := P) w he (off := i * 1) (by rw [Nat.mul_one]; exact h1)
    have p2 := run_part_plain (P := P) w he (off := i * 1) (by rw [Nat.mul_one]; exact h2)
    have p3 := run_equalIn_int (P := P) w d e k k' (f i) (g i) hu
    simp only [Op.eqItems, Sem.run_bind, p1, p2, p3, Result.andThen_ok, List.all_cons]
    cases f i == g i
    · simp
    · simp [ih]
theorem run_eqInts {t e : TypeId} {n : Nat} {i : TypeInfo} (k k' : IntKind) (he : P.plainKey e = true) (hu : P.underlying e = some (.int k')) (ht : P.underlying t = some (.array n e)) (hi : P.info? e = some i) (hc : P.cellsOf e = 1)
    (f g : Nat → Int) (xs ys : Array Value) (h : ∀ i, i < n → xs[i]? = some (.int k (f i)) ∧ ys[i]? = some (.int k (g i))) (b : Bool) (hb : ((List.range n).all fun i => f i == g i) = b) :
    (Op.equalIn 10000 t (.agg xs) (.agg ys)).run P w = .ok b w := by
  rw [run_equalIn_array w 9999 xs ys ht hi, hc, run_eqItems_ints w 9998 k k' he hu f g xs ys _ fun i hi => h i (by simpa using hi), hb]
end

/-! ## Numbers of four parts -/
/-- 2^64; behind a name. -/
def W64 : Nat := 18446744073709551616
/-- 2^256; behind a name. -/
def T : Nat := 115792089237316195423570985008687907853269984665640564039457584007913129639936
/-- Part k of n. -/
def lim (n k : Nat) : Nat := n / W64 ^ k % W64
abbrev lv (n k : Nat) : Value := .int .u64 (lim n k)
abbrev uval (n : Nat) : Value := .agg #[.int .u64 (lim n 0), .int .u64 (lim n 1), .int .u64 (lim n 2), .int .u64 (lim n 3)]
def ucells (n : Nat) : Array Value := #[.int .u64 (lim n 0), .int .u64 (lim n 1), .int .u64 (lim n 2), .int .u64 (lim n 3)]
abbrev Cl (w : World) (g n : Nat) : Prop := w.cell? ⟨g, 0, none⟩ = some (.int .u64 (lim n 0)) ∧ w.cell? ⟨g, 1, none⟩ = some (.int .u64 (lim n 1)) ∧ w.cell? ⟨g, 2, none⟩ = some (.int .u64 (lim n 2)) ∧ w.cell? ⟨g, 3, none⟩ = some (.int .u64 (lim n 3))
theorem cl4 {w : World} {g : Nat} {t : TypeId} {n : Nat} (h : Blk w g t (ucells n)) : w.cell? ⟨g, 0, none⟩ = some (.int .u64 (lim n 0)) ∧ w.cell? ⟨g, 1, none⟩ = some (.int .u64 (lim n 1)) ∧ w.cell? ⟨g, 2, none⟩ = some (.int .u64 (lim n 2)) ∧ w.cell? ⟨g, 3, none⟩ = some (.int .u64 (lim n 3)) := ⟨h.cell 0, h.cell 1, h.cell 2, h.cell 3⟩
theorem Cl.calls {w w' : World} {g n : Nat} (h : Cl w g n) (hb : Below w.heap.size w w') : Cl w' g n := by
  have hl : g < w.heap.size := World.block_lt_of_cell? w _ h.1
  exact ⟨(hb.cell (p := ⟨g, 0, none⟩) hl).trans h.1, (hb.cell (p := ⟨g, 1, none⟩) hl).trans h.2.1, (hb.cell (p := ⟨g, 2, none⟩) hl).trans h.2.2.1, (hb.cell (p := ⟨g, 3, none⟩) hl).trans h.2.2.2⟩
theorem Cl.alloc {w : World} {g n : Nat} (h : Cl w g n) (o : Obj) : Cl (w.alloc o) g n := by
  have hl : g < w.heap.size := World.block_lt_of_cell? w _ h.1
  exact ⟨(World.cell?_alloc_lt w o _ hl).trans h.1, (World.cell?_alloc_lt w o _ hl).trans h.2.1, (World.cell?_alloc_lt w o _ hl).trans h.2.2.1, (World.cell?_alloc_lt w o _ hl).trans h.2.2.2⟩
theorem Cl.far {w : World} {g n b i : Nat} (h : Cl w g n) (hne : g ≠ b) (u : Value) : Cl (w.setCell ⟨b, i, none⟩ u) g n :=
  ⟨set_other h.1 hne, set_other h.2.1 hne, set_other h.2.2.1 hne, set_other h.2.2.2 hne⟩
theorem Cl.lt {w : World} {g n : Nat} (h : Cl w g n) : g < w.heap.size := World.block_lt_of_cell? w _ h.1
theorem Cl.fill {w : World} {g n b m : Nat} (h : Cl w g n) (hne : g < b) :
    Cl ((((w.setCell ⟨b, 0, none⟩ (.int .u64 (lim m 0))).setCell ⟨b, 1, none⟩ (.int .u64 (lim m 1))).setCell ⟨b, 2, none⟩ (.int .u64 (lim m 2))).setCell ⟨b, 3, none⟩ (.int .u64 (lim m 3))) g n :=
  (((h.far (by omega) _).far (by omega) _).far (by omega) _).far (by omega) _
theorem Cl.drew {w : World} {g n : Nat} (h : Cl w g n) : Cl w.drew g n := h
abbrev zero4 : Array Value := #[.int .u64 0, .int .u64 0, .int .u64 0, .int .u64 0]
theorem clz {w : World} {g : Nat} {t : TypeId} (h : Blk w g t zero4) : w.cell? ⟨g, 0, none⟩ = some (.int .u64 0) ∧ w.cell? ⟨g, 1, none⟩ = some (.int .u64 0) ∧ w.cell? ⟨g, 2, none⟩ = some (.int .u64 0) ∧ w.cell? ⟨g, 3, none⟩ = some (.int .u64 0) ∧
    w.frozen? ⟨g, 0, none⟩ = false ∧ w.frozen? ⟨g, 1, none⟩ = false ∧ w.frozen? ⟨g, 2, none⟩ = false ∧ w.frozen? ⟨g, 3, none⟩ = false :=
  ⟨h.cell 0, h.cell 1, h.cell 2, h.cell 3, h.frozen 0, h.frozen 1, h.frozen 2, h.frozen 3⟩
theorem Blk.farFill {w : World} {g b n : Nat} {t : TypeId} {cs : Array Value} (h : Blk w g t cs) (hne : g < b) :
    Blk ((((w.setCell ⟨b, 0, none⟩ (.int .u64 (lim n 0))).setCell ⟨b, 1, none⟩ (.int .u64 (lim n 1))).setCell ⟨b, 2, none⟩ (.int .u64 (lim n 2))).setCell ⟨b, 3, none⟩ (.int .u64 (lim n 3))) g t cs :=
  (((h.far (by omega) _).far (by omega) _).far (by omega) _).far (by omega) _
theorem belowFill {w0 w : World} {b n B : Nat} (h : Below B w0 w) (hb : B ≤ b) :
    Below B w0 ((((w.setCell ⟨b, 0, none⟩ (.int .u64 (lim n 0))).setCell ⟨b, 1, none⟩ (.int .u64 (lim n 1))).setCell ⟨b, 2, none⟩ (.int .u64 (lim n 2))).setCell ⟨b, 3, none⟩ (.int .u64 (lim n 3))) :=
  (((h.setCell hb _).setCell hb _).setCell hb _).setCell hb _
theorem Blk.fill {w : World} {g : Nat} {t : TypeId} {cs : Array Value} {n : Nat} (h : Blk w g t cs) (hs : cs.size = 4) :
    Blk ((((w.setCell ⟨g, 0, none⟩ (.int .u64 (lim n 0))).setCell ⟨g, 1, none⟩ (.int .u64 (lim n 1))).setCell ⟨g, 2, none⟩ (.int .u64 (lim n 2))).setCell ⟨g, 3, none⟩ (.int .u64 (lim n 3))) g t (ucells n) := by
  refine ((((h.set_ 0 _).set_ 1 _).set_ 2 _).set_ 3 _).to ?_
  match cs, hs with
  | ⟨[a, b, c, d]⟩, _ => rfl
theorem uval_eq (n : Nat) : uval n = .agg (ucells n) := rfl
theorem ucells_at (n k : Nat) (h : k < 4) : (ucells n)[k]? = some (lv n k) := by
  rcases (show k = 0 ∨ k = 1 ∨ k = 2 ∨ k = 3 from by omega) with rfl | rfl | rfl | rfl <;> rfl
theorem W64_pos : 0 < W64 := by decide
theorem T_eq : T = W64 ^ 4 := by decide
theorem lim_lt (n k : Nat) : lim n k < W64 := Nat.mod_lt _ W64_pos
theorem lim_le (n k : Nat) : (lim n k : Int) ≤ 18446744073709551615 := by
  have := lim_lt n k
  unfold W64 at this
  omega
theorem lim_nonneg (n k : Nat) : (0 : Int) ≤ (lim n k : Int) := Int.natCast_nonneg _
theorem lim_wf (n k : Nat) : (Lit.int .u64 (lim n k : Nat)).wf = true := by
  have := lim_lt n k
  unfold W64 at this
  simp [Lit.wf, IntKind.min, IntKind.max, IntKind.signed, IntKind.bits]
  omega

/-- The first k parts of s, zeros behind. -/
def outs (s k : Nat) : Array Value := #[if 0 < k then lv s 0 else .int .u64 0, if 1 < k then lv s 1 else .int .u64 0, if 2 < k then lv s 2 else .int .u64 0, if 3 < k then lv s 3 else .int .u64 0]
theorem outs_set (s k : Nat) (h : k < 4) : (outs s k).setIfInBounds k (.int .u64 (lim s k)) = outs s (k + 1) := by
  rcases (show k = 0 ∨ k = 1 ∨ k = 2 ∨ k = 3 from by omega) with rfl | rfl | rfl | rfl <;> simp [outs]
theorem outs_at (s k j : Nat) (h : j < 4) : ∃ v, (outs s k)[j]? = some v := by
  rcases (show j = 0 ∨ j = 1 ∨ j = 2 ∨ j = 3 from by omega) with rfl | rfl | rfl | rfl <;> exact ⟨_, rfl⟩
theorem outs_full (s : Nat) : outs s 4 = ucells s := by simp [outs, ucells]

theorem lim_mod (n k : Nat) (h : k < 4) : lim (n % T) k = lim n k := by
  unfold lim
  rw [T_eq]
  have h4 : W64 ^ 4 = W64 ^ k * W64 ^ (4 - k) := by rw [← Nat.pow_add]; congr 1; omega
  rw [h4, Nat.mod_mul_right_div_self]
  have h5 : W64 ^ (4 - k) = W64 * W64 ^ (4 - k - 1) := by rw [← Nat.pow_succ']; congr 1; omega
  rw [h5, Nat.mod_mul_right_mod]
theorem uval_mod (n : Nat) : uval (n % T) = uval n := by simp [uval, lim_mod]

/-- n out of its parts. -/
theorem lim_sum (n : Nat) (h : n < T) : n = lim n 0 + W64 * (lim n 1 + W64 * (lim n 2 + W64 * lim n 3)) := by
  unfold lim T at *
  unfold W64
  omega
theorem lim_of (a0 a1 a2 a3 : Nat) (h0 : a0 < W64) (h1 : a1 < W64) (h2 : a2 < W64) (h3 : a3 < W64) :
    lim (a0 + W64 * (a1 + W64 * (a2 + W64 * a3))) 0 = a0 ∧ lim (a0 + W64 * (a1 + W64 * (a2 + W64 * a3))) 1 = a1 ∧ lim (a0 + W64 * (a1 + W64 * (a2 + W64 * a3))) 2 = a2 ∧ lim (a0 + W64 * (a1 + W64 * (a2 + W64 * a3))) 3 = a3 ∧
      a0 + W64 * (a1 + W64 * (a2 + W64 * a3)) < T := by
  unfold lim T at *
  unfold W64 at *
  refine ⟨?_, ?_, ?_, ?_, ?_⟩ <;> omega
theorem lim_ext (m n : Nat) (hm : m < T) (hn : n < T) (h : ∀ k, k < 4 → lim m k = lim n k) : m = n := by
  rw [lim_sum m hm, lim_sum n hn, h 0 (by omega), h 1 (by omega), h 2 (by omega), h 3 (by omega)]

theorem parts_eq (m n : Nat) (hm : m < T) (hn : n < T) (b : Bool) (h : decide (m = n) = b) : ((List.range 4).all fun i => ((lim m i : Nat) : Int) == (lim n i : Int)) = b := by
  rw [← h, Bool.eq_iff_iff]
  simp only [List.all_eq_true, List.mem_range, beq_iff_eq, decide_eq_true_eq]
  constructor
  · intro H
    exact lim_ext m n hm hn fun k hk => by have := H k hk; omega
  · rintro rfl i _
    rfl

/-- What goes over from the first k parts of a sum. -/
def cry (m n k : Nat) : Nat := (m % W64 ^ k + n % W64 ^ k) / W64 ^ k
theorem cry_zero (m n : Nat) : cry m n 0 = 0 := by simp [cry, Nat.mod_one]
theorem pow_pos' (k : Nat) : 0 < W64 ^ k := Nat.pow_pos W64_pos
theorem cry_le (m n k : Nat) : cry m n k ≤ 1 := by
  unfold cry
  have h1 := Nat.mod_lt m (pow_pos' k)
  have h2 := Nat.mod_lt n (pow_pos' k)
  generalize W64 ^ k = A at *
  have : (m % A + n % A) / A < 2 := by
    rw [Nat.div_lt_iff_lt_mul (by omega)]
    omega
  omega
theorem cry_step (m n k : Nat) : lim m k + lim n k + cry m n k = lim (m + n) k + W64 * cry m n (k + 1) := by
  unfold cry lim
  have hA := pow_pos' k
  have hX := W64_pos
  have e0 : (m + n) / W64 ^ k = m / W64 ^ k + n / W64 ^ k + if W64 ^ k ≤ m % W64 ^ k + n % W64 ^ k then 1 else 0 := Nat.add_div hA
  rw [Nat.pow_succ, Nat.mod_mul, Nat.mod_mul, e0]
  clear e0
  generalize W64 ^ k = A at *
  generalize W64 = X at *
  have hc : (if A ≤ m % A + n % A then 1 else 0) = (m % A + n % A) / A := by
    have h1 := Nat.mod_lt m hA
    have h2 := Nat.mod_lt n hA
    split
    · rw [Nat.div_eq_of_lt_le (k := 1) (by omega) (by omega)]
    · rw [Nat.div_eq_of_lt (by omega)]
  rw [hc]
  have hs : m % A + A * (m / A % X) + (n % A + A * (n / A % X)) = (m % A + n % A) + A * (m / A % X + n / A % X) := by rw [Nat.mul_add]; omega
  rw [hs, ← Nat.div_div_eq_div_mul, Nat.add_mul_div_left _ _ hA]
  generalize (m % A + n % A) / A = c at *
  generalize m / A = p at *
  generalize n / A = q at *
  have e : (p + q + c) % X = (c + (p % X + q % X)) % X := by
    rw [show p + q + c = c + (p + q) by omega, Nat.add_mod c (p + q), Nat.add_mod p q, ← Nat.add_mod c]
  rw [e]
  have := Nat.div_add_mod (c + (p % X + q % X)) X
  omega
theorem cry_four (m n : Nat) (hm : m < T) (hn : n < T) : cry m n 4 = (m + n) / T := by
  unfold cry
  rw [← T_eq, Nat.mod_eq_of_lt hm, Nat.mod_eq_of_lt hn]

/-- What is borrowed by the first k parts of a difference. -/
def brw (m n k : Nat) : Nat := if m % W64 ^ k < n % W64 ^ k then 1 else 0
theorem brw_zero (m n : Nat) : brw m n 0 = 0 := by simp [brw, Nat.mod_one]
theorem brw_le (m n k : Nat) : brw m n k ≤ 1 := by unfold brw; split <;> omega
end Go.Proofs.YtfebknplkbeblaaDoor
