/- A region that draws its order, whose values are known by what holds of them; sha2.End. What a hash is as a number and as bytes. What hash's Zero, Number and FromNumber come to. What sha2.End comes to. What sha2.Sum comes to. The sum of 'abc'; awake of florinlaw02. What sha2.Double comes to. Messages in a stream of bytes, in plain words: what is put, got, told. -/
import Derived.Test.YticiipddilabfaaDoorCqE
import Derived.Test.YticiipddilabfaaDoorCqB
import Derived.Lib.SlBytesConst
import Derived.Test.YticiipddilabfaaDoorCqD
namespace Go.Proofs.YticiipddilabfaaDoor
open Go.RowKit
set_option linter.unusedVariables false

/-- All operations but the last leave what is old alone, and of what each yields F holds; the last waits for all. -/
def ValStep (P : Program) (Q : Exit → Act → World → Prop) (w0 : World) (dsts : List (Option Tmp)) (F : Nat → Value → World → Prop) (a0 : Act) (n : Nat) (T : World → Prop) (i : Nat) (o : Oper) : Prop :=
  (i = n ∧ ((List.range n).all fun j => (edgesOf o).contains j) = true ∧ ∀ (A : Act) w' (γ : Nat → Value), Below w0.heap.size w0 w' → (∀ j, j < n → F j (γ j) w') → SlotF dsts γ a0 o A → o.wp P A w' (fun a' w'' => ∃ u, a' = A.put o.dst u ∧ T w'') Q) ∨
  (Nat.beq i n = false ∧ ∀ (A : Act) w' (γ : Nat → Value), Below w0.heap.size w0 w' → (∀ j, (edgesOf o).contains j = true → F j (γ j) w') → SlotF dsts γ a0 o A → o.wp P A w' (fun a' w'' => ∃ u, a' = A.put o.dst u ∧ Below w'.heap.size w' w'' ∧ F i u w'') Q)
theorem wp_region_vals {P : Program} {Q : Exit → Act → World → Prop} {id : Nat} {l : List Oper} {a : Act} {w : World} (dsts : List (Option Tmp)) (F : Nat → Value → World → Prop) (n : Nat) (T : World → Prop)
    (hF : ∀ j u w1 w2, F j u w1 → Below w1.heap.size w1 w2 → F j u w2)
    (hm : P.follows .mixedOrders = true) (hds : l.map (·.dst) = dsts) (hnd : nodupD dsts = true) (hng : (l.all fun o => o.guard.isNone) = true) (hord : ordGo 0 l = true) (hin : inD a.tmps.size dsts = true) (hn : l.length = n + 1)
    (step : StepAll (ValStep P Q w dsts F a n T) 0 l) (fin : ∀ γ w', T w' → Q .normal (Fr γ (fun _ => true) dsts 0 a) w') : (Code.region id l.toArray true).wp P Q a w := by
  refine wp_region_inv (Γ := Nat → Value) dsts (fun γ => γ) (fun γ L w' => (L n = false ∧ Below w.heap.size w w' ∧ ∀ j, L j = true → F j (γ j) w') ∨ (L n = true ∧ (∀ j, j < n → L j = true) ∧ T w')) hm hds hnd hng hord (fun _ => undef) (.inl ⟨rfl, (Below.refl _ _).drew, fun j h => by cases h⟩) ?_ ?_
  · have key : ∀ (l' : List Oper) (k : Nat), k + l'.length = n + 1 → StepAll (ValStep P Q w dsts F a n T) k l' → StepAll (fun i o => ∀ (γ : Nat → Value) (L : Nat → Bool) w', ((L n = false ∧ Below w.heap.size w w' ∧ ∀ j, L j = true → F j (γ j) w') ∨ (L n = true ∧ (∀ j, j < n → L j = true) ∧ T w')) → L i = false → (∀ j ∈ edgesOf o, L j = true) →
        o.wp P (Fr γ L dsts 0 a) w' (fun a' w'' => ∃ γ' : Nat → Value, (∀ j, L j = true → γ' j = γ j) ∧ a' = (Fr γ L dsts 0 a).put o.dst (γ' i) ∧ ((onL L i n = false ∧ Below w.heap.size w w'' ∧ ∀ j, onL L i j = true → F j (γ' j) w'') ∨ (onL L i n = true ∧ (∀ j, j < n → onL L i j = true) ∧ T w''))) Q) k l' := by
      intro l'
      induction l' with
      | nil => intro _ _ _; trivial
      | cons o l' ih =>
        intro k hk hs
        refine ⟨?_, ih (k + 1) (by simp at hk; omega) hs.2⟩
        intro γ L w' hI hL hdep
        have hkn : k ≤ n := by simp at hk; omega
        have hln : L n = false := by
          cases e : L n with
          | false => rfl
          | true =>
            rcases hI with ⟨h, _⟩ | ⟨_, h, _⟩
            · rw [e] at h; cases h
            · by_cases hk2 : k = n
              · rw [hk2, e] at hL; cases hL
              · rw [h k (by omega)] at hL; cases hL
        obtain ⟨hb, hFs⟩ : Below w.heap.size w w' ∧ ∀ j, L j = true → F j (γ j) w' := by
          rcases hI with ⟨_, h⟩ | ⟨h, _⟩
          · exact h
          · rw [hln] at h; cases h
        have hSF : SlotF dsts γ a o (Fr γ L dsts 0 a) :=
          ⟨fun j hj t ht => Fr_get γ L t j (hdep j (List.contains_iff_mem.1 hj)) dsts 0 a hnd (Nat.zero_le _) (by simpa using ht) (inD_lt hin ht), fun t ht => Fr_old γ L t dsts 0 a ht⟩
        have hup : ∀ u, (fun j => if j = k then u else γ j) k = u := fun u => by simp
        have hkeep : ∀ u j, L j = true → (fun j => if j = k then u else γ j) j = γ j := fun u j hj => by
          by_cases e : j = k
          · rw [e, hL] at hj; cases hj
          · simp [e]
        rcases hs.1 with ⟨rfl, hall, hq⟩ | ⟨hne, hq⟩
        · have hd : ∀ j, j < k → L j = true := fun j hj => hdep j (List.contains_iff_mem.1 (List.all_eq_true.1 hall j (List.mem_range.2 hj)))
          refine Oper.wp_mono ?_ (hq _ w' γ hb (fun j hj => hFs j (hd j hj)) hSF)
          rintro a' w'' ⟨u, rfl, hT⟩
          refine ⟨fun j => if j = k then u else γ j, hkeep u, by rw [hup u], .inr ⟨onL_same, fun j hj => ?_, hT⟩⟩
          simp [onL, hd j hj]
        · refine Oper.wp_mono ?_ (hq _ w' γ hb (fun j hj => hFs j (hdep j (List.contains_iff_mem.1 hj))) hSF)
          rintro a' w'' ⟨u, rfl, hbel, hFi⟩
          refine ⟨fun j => if j = k then u else γ j, hkeep u, by rw [hup u], .inl ⟨?_, bt hb hbel, fun j hj => ?_⟩⟩
          · have hne' : n ≠ k := fun e => by subst e; simp at hne
            rw [onL_ne hne', hln]
          · by_cases e : j = k
            · subst e
              rw [hup u]
              exact hFi
            · have hj' : L j = true := by rw [onL_ne e] at hj; exact hj
              rw [hkeep u j hj']
              exact hF j _ _ _ (hFs j hj') hbel
    exact key l 0 (by omega) step
  · rintro γ L w' hL hI
    rcases hI with ⟨h, _⟩ | ⟨_, _, h⟩
    · rw [hL n (by omega)] at h; cases h
    · exact fin γ w' h
end Go.Proofs.YticiipddilabfaaDoor

namespace Go.Proofs.YticiipddilabfaaDoor
open Go.RowKit
set_option linter.unusedVariables false

/-- The number of the first k bytes, the lowest first. -/
def leN (l : List UInt8) : Nat → Nat
  | 0 => 0
  | k + 1 => leN l k + (l.getD k 0).toNat * 256 ^ k
theorem leN_0 (l : List UInt8) : leN l 0 = 0 := rfl
theorem leN_succ (l : List UInt8) (k : Nat) : leN l (k + 1) = leN l k + (l.getD k 0).toNat * 256 ^ k := rfl
theorem leN_lt (l : List UInt8) (k : Nat) : leN l k < 256 ^ k := by
  induction k with
  | zero => simp [leN]
  | succ k ih =>
    have h := (l.getD k 0).toNat_lt
    have e : 256 ^ (k + 1) = 256 ^ k + 255 * 256 ^ k := by rw [Nat.pow_succ]; omega
    have hm : (l.getD k 0).toNat * 256 ^ k ≤ 255 * 256 ^ k := Nat.mul_le_mul_right _ (by omega)
    unfold leN
    omega
theorem leN_T (l : List UInt8) (k : Nat) (h : k ≤ 32) : leN l k < T := by
  have h1 := leN_lt l k
  have h2 : 256 ^ k ≤ 256 ^ 32 := Nat.pow_le_pow_right (by decide) h
  have h3 : (256 : Nat) ^ 32 = T := by decide
  omega
/-- m as 32 bytes, the lowest first. -/
def leB (m : Nat) : List UInt8 := (List.range 32).map fun i => UInt8.ofNat (m / 256 ^ i % 256)
theorem leB_length (m : Nat) : (leB m).length = 32 := by simp [leB]
theorem leN_byte (l : List UInt8) (k i : Nat) (h : i < k) : leN l k / 256 ^ i % 256 = (l.getD i 0).toNat := by
  induction k with
  | zero => omega
  | succ k ih =>
    unfold leN
    by_cases e : i = k
    · subst e
      have h1 := leN_lt l i
      have h2 := (l.getD i 0).toNat_lt
      rw [Nat.add_mul_div_right _ _ (Nat.pow_pos (by decide)), Nat.div_eq_of_lt h1, Nat.zero_add, Nat.mod_eq_of_lt h2]
    · rw [← ih (by omega)]
      have e2 : (l.getD k 0).toNat * 256 ^ k = ((l.getD k 0).toNat * 256 ^ (k - i - 1) * 256) * 256 ^ i := by
        rw [Nat.mul_assoc, Nat.mul_assoc, ← Nat.pow_succ', ← Nat.pow_add]
        congr 2
        omega
      rw [e2, Nat.add_mul_div_right _ _ (Nat.pow_pos (by decide)), Nat.add_mul_mod_self_right]
theorem leB_leN (l : List UInt8) (h : l.length = 32) : leB (leN l 32) = l := by
  unfold leB
  apply List.ext_getElem
  · simp [h]
  · intro i h1 h2
    simp only [List.getElem_map, List.getElem_range]
    rw [leN_byte l 32 i (by omega)]
    simp [List.getD, h2]
theorem leN_zero (l : List UInt8) (k : Nat) : leN l k = 0 ↔ ∀ i, i < k → l.getD i 0 = 0 := by
  induction k with
  | zero => simp [leN]
  | succ k ih =>
    unfold leN
    constructor
    · intro h i hi
      have h1 : leN l k = 0 := by omega
      have h2 : (l.getD k 0).toNat * 256 ^ k = 0 := by omega
      by_cases e : i = k
      · subst e
        have h3 := (Nat.mul_eq_zero.1 h2).resolve_right (by have := Nat.pow_pos (n := i) (show 0 < 256 by decide); omega)
        exact UInt8.toNat_inj.1 (by simpa using h3)
      · exact ih.1 h1 i (by omega)
    · intro h
      rw [ih.2 fun i hi => h i (by omega), h k (by omega)]
      simp
theorem lim_leN_other (l : List UInt8) (k j : Nat) (hj : j ≠ k / 8) (hk : k < 32) : lim (leN l (k + 1)) j = lim (leN l k) j := by
  have h1 := leN_lt l k
  have h0 := leN_lt l (k + 1)
  have hW : W64 = 256 ^ 8 := by decide
  unfold lim
  rw [hW, ← Nat.pow_mul]
  by_cases hlt : k / 8 < j
  · have e0 : 256 ^ (k + 1) ≤ 256 ^ (8 * j) := Nat.pow_le_pow_right (by decide) (by omega)
    have e1 : 256 ^ k ≤ 256 ^ (8 * j) := Nat.pow_le_pow_right (by decide) (by omega)
    rw [Nat.div_eq_of_lt (by omega), Nat.div_eq_of_lt (by omega)]
  · rw [leN_succ]
    have e2 : (l.getD k 0).toNat * 256 ^ k = ((l.getD k 0).toNat * 256 ^ (k - 8 * j - 8) * 256 ^ 8) * 256 ^ (8 * j) := by
      rw [Nat.mul_assoc, Nat.mul_assoc, ← Nat.pow_add, ← Nat.pow_add]
      congr 2
      omega
    rw [e2, Nat.add_mul_div_right _ _ (Nat.pow_pos (by decide)), Nat.add_mul_mod_self_right]
theorem lim_leN_at (l : List UInt8) (k : Nat) (hk : k < 32) : lim (leN l (k + 1)) (k / 8) = lim (leN l k) (k / 8) + (l.getD k 0).toNat * 2 ^ (8 * (k % 8)) ∧ lim (leN l k) (k / 8) < 2 ^ (8 * (k % 8)) := by
  have h1 := leN_lt l k
  have hW : W64 = 256 ^ 8 := by decide
  have hp : (2 : Nat) ^ (8 * (k % 8)) = 256 ^ (k % 8) := by rw [Nat.pow_mul]
  have hs : (256 : Nat) ^ k = 256 ^ (k % 8) * 256 ^ (8 * (k / 8)) := by rw [← Nat.pow_add]; congr 1; omega
  have hb := (l.getD k 0).toNat_lt
  have hq : leN l k / 256 ^ (8 * (k / 8)) < 256 ^ (k % 8) := Nat.div_lt_of_lt_mul (by rw [Nat.mul_comm, ← hs]; exact h1)
  have hle : (256 : Nat) ^ (k % 8) ≤ 256 ^ 7 := Nat.pow_le_pow_right (by decide) (by omega)
  unfold lim
  rw [hW, ← Nat.pow_mul, hp]
  rw [leN_succ, hs, ← Nat.mul_assoc, Nat.add_mul_div_right _ _ (Nat.pow_pos (by decide))]
  have hm : (l.getD k 0).toNat * 256 ^ (k % 8) ≤ 255 * 256 ^ (k % 8) := Nat.mul_le_mul_right _ (by omega)
  generalize leN l k / 256 ^ (8 * (k / 8)) = a at *
  generalize 256 ^ (k % 8) = c at *
  generalize (l.getD k 0).toNat * c = d at *
  have e7 : (256 : Nat) ^ 7 = 72057594037927936 := by decide
  have e8 : (256 : Nat) ^ 8 = 18446744073709551616 := by decide
  rw [e7] at hle
  rw [e8, Nat.mod_eq_of_lt (by omega), Nat.mod_eq_of_lt (by omega)]
  exact ⟨rfl, hq⟩
end Go.Proofs.YticiipddilabfaaDoor

namespace Go.Proofs.YticiipddilabfaaDoor
open Go.RowKit
set_option linter.unusedVariables false

theorem u8cells_at (l : List UInt8) (i : Nat) (h : i < l.length) : (u8cells l)[i]? = some (.int .u8 (l.getD i 0).toNat) := by
  simp [u8cells, h]
theorem u8cells_size (l : List UInt8) : (u8cells l).size = l.length := by simp [u8cells]
theorem u8cells_one (l : List UInt8) : (u8cells l).all (·.oneCell') = true := by simp [u8cells, Value.oneCell']
theorem u8cells_inj (l k : List UInt8) (h : l.length = k.length) : u8cells l = u8cells k ↔ l = k := by
  constructor
  · intro e
    apply List.ext_getElem h
    intro i h1 h2
    have e1 := u8cells_at l i h1
    rw [e, u8cells_at k i h2] at e1
    injection e1 with e2
    injection e2 with _ e3
    have e4 : k.getD i 0 = l.getD i 0 := UInt8.toNat_inj.1 (by omega)
    simpa [List.getD, h1, h2] using e4.symm
  · rintro rfl; rfl
/-- == on hashes. -/
theorem eqH (l k : List UInt8) (b : Bool) (hl : l.length = 32) (hk : k.length = 32) (hb : (decide (l = k)) = b) (w : World) :
    (Op.equalIn 10000 63 (.agg (u8cells l)) (.agg (u8cells k))).run Tryd.prog w = .ok b w := by
  obtain ⟨i, hi⟩ := Option.isSome_iff_exists.1 (show (Tryd.prog.info? 5).isSome = true by kernel_rfl)
  refine run_eqInts (P := Tryd.prog) w .u8 .u8 (by kernel_rfl) Tryd.underlying5 Tryd.underlying63 hi (by kernel_rfl) (fun i => ((l.getD i 0).toNat : Int)) (fun i => ((k.getD i 0).toNat : Int)) _ _ (fun i h => ⟨u8cells_at l i (by omega), u8cells_at k i (by omega)⟩) b ?_
  rw [← hb]
  rw [Bool.eq_iff_iff]
  simp only [List.all_eq_true, List.mem_range, beq_iff_eq, decide_eq_true_eq]
  constructor
  · intro h
    apply List.ext_getElem (by omega)
    intro i h1 h2
    have e := h i (by omega)
    have e4 : l.getD i 0 = k.getD i 0 := UInt8.toNat_inj.1 (by omega)
    simpa [List.getD, h1, h2] using e4
  · rintro rfl i _; rfl
theorem isH (l : List UInt8) (hl : l.length = 32) : (Tryd.prog.info? 63).map (·.size) = some (u8cells l).size := by rw [u8cells_size, hl]; kernel_rfl
theorem u8size {i : TypeInfo} (hi : Tryd.prog.info? 5 = some i) : i.size = 1 := by
  have h : (Tryd.prog.info? 5).map (·.size) = some 1 := by kernel_rfl
  rw [hi] at h
  simpa using h
theorem index_H (l : List UInt8) (k : Nat) (hl : l.length = 32) (hk : k < 32) (w : World) :
    (Instr.index 63 (.agg (u8cells l)) (.int .i64 k)).run Tryd.prog w = .ok (.int .u8 (l.getD k 0).toNat) w := by
  obtain ⟨i, hi⟩ := Option.isSome_iff_exists.1 (show (Tryd.prog.info? 5).isSome = true by kernel_rfl)
  exact index_arr (by kernel_rfl) Tryd.underlying63 hi (u8size hi) hk (u8cells_at l k (by omega)) w
theorem index_B (l : List UInt8) (k : Nat) (hl : l.length = 32) (hk : k < 32) (w : World) :
    (Instr.index 62 (.agg (u8cells l)) (.int .i64 k)).run Tryd.prog w = .ok (.int .u8 (l.getD k 0).toNat) w := by
  obtain ⟨i, hi⟩ := Option.isSome_iff_exists.1 (show (Tryd.prog.info? 5).isSome = true by kernel_rfl)
  exact index_arr (by kernel_rfl) Tryd.underlying62 hi (u8size hi) hk (u8cells_at l k (by omega)) w
abbrev zeroH : List UInt8 := List.replicate 32 0

theorem zeroH_cells : u8cells zeroH = #[.int .u8 0, .int .u8 0, .int .u8 0, .int .u8 0, .int .u8 0, .int .u8 0, .int .u8 0, .int .u8 0, .int .u8 0, .int .u8 0, .int .u8 0, .int .u8 0, .int .u8 0, .int .u8 0, .int .u8 0, .int .u8 0, .int .u8 0, .int .u8 0, .int .u8 0, .int .u8 0, .int .u8 0, .int .u8 0, .int .u8 0, .int .u8 0, .int .u8 0, .int .u8 0, .int .u8 0, .int .u8 0, .int .u8 0, .int .u8 0, .int .u8 0, .int .u8 0] := by kernel_rfl
theorem ucells_set (a b j : Nat) (h : j < 4) (ho : ∀ i, i < 4 → i ≠ j → lim b i = lim a i) : (ucells a).setIfInBounds j (.int .u64 (lim b j)) = ucells b := by
  have h0 := ho 0
  have h1 := ho 1
  have h2 := ho 2
  have h3 := ho 3
  rcases (show j = 0 ∨ j = 1 ∨ j = 2 ∨ j = 3 from by omega) with rfl | rfl | rfl | rfl <;> simp_all [ucells]
theorem ucells_zero : ucells 0 = #[.int .u64 0, .int .u64 0, .int .u64 0, .int .u64 0] := by simp [ucells, lim]


theorem or_shift (a x s : Nat) (ha : a < 2 ^ s) (hx : x < 256) (hs : s ≤ 56) : bits .or .u64 (a : Int) (IntKind.u64.wrap (IntKind.u64.wrap (x : Int) * 2 ^ s)) = ((a + x * 2 ^ s : Nat) : Int) := by
  have h56 : (2 : Nat) ^ s ≤ 2 ^ 56 := Nat.pow_le_pow_right (by decide) hs
  have hx2 : x * 2 ^ s ≤ 255 * 2 ^ 56 := Nat.mul_le_mul (by omega) h56
  have w1 : IntKind.u64.wrap (x : Int) = (x : Int) := by simp [IntKind.wrap, IntKind.signed, IntKind.bits]; omega
  have w2 : IntKind.u64.wrap ((x : Int) * 2 ^ s) = ((x * 2 ^ s : Nat) : Int) := by
    have e : (x : Int) * 2 ^ s = ((x * 2 ^ s : Nat) : Int) := by push_cast; rfl
    rw [e]
    generalize x * 2 ^ s = y at *
    simp [IntKind.wrap, IntKind.signed, IntKind.bits]; omega
  rw [w1, w2]
  have e2 := u64_or_nat a (x * 2 ^ s) (by omega) (by omega)
  rw [e2]
  congr 1
  rw [Nat.or_comm, ← Nat.shiftLeft_eq, ← Nat.shiftLeft_add_eq_or_of_lt ha]
  omega

end Go.Proofs.YticiipddilabfaaDoor

namespace Go.Proofs.YticiipddilabfaaDoor
open Go.RowKit
set_option linter.unusedVariables false

theorem run_loadVar_cell {P : Program} (w : World) (a : Addr) (ty : TypeId) (v : Value) (d : TypeDesc) (hc : w.cell? a = some v) (hu : P.underlying ty = some d) (hd : (match d with | .struct _ | .array _ _ => false | _ => true) = true) :
    (loadVar ty a).run P w = .ok v w := by
  have hagg : (isAgg ty).run P w = .ok false w := by
    unfold isAgg
    rw [Sem.run_bind, run_underlying hu w]
    cases d <;> simp_all
  simp [loadVar, Sem.run_bind, hagg, hc]
theorem op_cell {P : Program} {Q : Exit → Act → World → Prop} {o : Oper} {A : Act} {w : World} (ty : TypeId) (x : Operand) (ho : o.op = .load ty x) (b : Addr) (hx : A.eval x = .pointer (some b)) (v : Value) (hc : w.cell? b = some v) (d : TypeDesc) (hu : P.underlying ty = some d)
    (hd : (match d with | .struct _ | .array _ _ => false | _ => true) = true) : o.wp P A w (fun a' w'' => a' = A.put o.dst v ∧ Below w.heap.size w w'') Q := by
  refine op_run ?_
  unfold execOp
  simp only [ho, hx, Instr.loadAt, Instr.sureAddr, Sem.run_bind, Sem.run_pure, Result.andThen_ok, run_loadVar_cell w b ty v d hc hu hd]
theorem op_call1 {P : Program} {Q : Exit → Act → World → Prop} {o : Oper} {A : Act} {w : World} (f : FuncId) (args : Array Value) (hrun : (execOp A.eval o).run P w = .ok (.enter f args) w) (G : Value → World → Prop) (h : Calls P f args w fun e w' => ∃ u, e = .returned u ∧ Below w.heap.size w w' ∧ G u w') :
    o.wp P A w (fun a' w'' => ∃ u, G u w'' ∧ a' = A.put o.dst u ∧ Below w.heap.size w w'') Q := by
  unfold Oper.wp
  rw [hrun, Oper.upon_enter]
  refine h.mono fun e w'' hh => ?_
  obtain ⟨u, rfl, hb, hG⟩ := hh
  exact ⟨u, hG, rfl, hb⟩
theorem op_field2 {Q : Exit → Act → World → Prop} {o : Oper} {A : Act} {w : World} (x : Operand) (ho : o.op = .fieldAddr 87 x 2) (g : Nat) (hx : A.eval x = .pointer (some ⟨g, 0, none⟩)) :
    o.wp Tryd.prog A w (fun a' w'' => a' = A.put o.dst (.pointer (some ⟨g, 9, none⟩)) ∧ Below w.heap.size w w'') Q := by
  have hf : (Instr.fieldAt 87 (.pointer (some ⟨g, 0, none⟩)) 2).run Tryd.prog w = .ok (.pointer (some ⟨g, 9, none⟩)) w := by kernel_rfl
  refine op_run ?_
  unfold execOp
  simp only [ho, hx, Sem.run_bind, hf]
  rfl
/-- The bytes of words, the highest first. -/
def wbytes (H : List Wd) : List UInt8 := H.flatMap fun x => byB (wn x) 4
theorem wbytes_length (H : List Wd) (h : H.length = 8) : (wbytes H).length = 32 := by
  obtain ⟨x0, x1, x2, x3, x4, x5, x6, x7, rfl⟩ := eight H h
  simp [wbytes, byB_length]
theorem wbytes_at (H : List Wd) (h : H.length = 8) (k j : Nat) (hk : k < 8) (hj : j < 4) : (wbytes H).getD (4 * k + j) 0 = UInt8.ofNat (wn (H.getD k 0) / 256 ^ (3 - j) % 256) := by
  have key : ∀ (l : List Wd) (k : Nat), k < l.length → (wbytes l).getD (4 * k + j) 0 = (byB (wn (l.getD k 0)) 4).getD j 0 := by
    intro l
    induction l with
    | nil => intro k hk; cases hk
    | cons x l ih =>
      intro k hk
      have e : wbytes (x :: l) = byB (wn x) 4 ++ wbytes l := rfl
      rw [e]
      cases k with
      | zero => simp [List.getD, List.getElem?_append_left, byB_length, hj]
      | succ k =>
        have := ih k (by simpa using hk)
        simp only [List.getD, List.getElem?_cons_succ] at this ⊢
        rw [← this, List.getElem?_append_right (by rw [byB_length]; omega), byB_length]
        congr 2
        omega
  rw [key H k (by omega), byB_at (wn (H.getD k 0)) 4 j hj]

theorem index_W8 (l : List Wd) (k : Nat) (hl : l.length = 8) (hk : k < 8) (w : World) :
    (Instr.index 85 (.agg (u32c l)) (.int .i64 k)).run Tryd.prog w = .ok (.int .u32 (wn (l.getD k 0))) w := by
  obtain ⟨i, hi⟩ := Option.isSome_iff_exists.1 (show (Tryd.prog.info? 22).isSome = true by kernel_rfl)
  have hs : i.size = 1 := by
    have h : (Tryd.prog.info? 22).map (·.size) = some 1 := by kernel_rfl
    rw [hi] at h
    simpa using h
  exact index_arr (by kernel_rfl) Tryd.underlying85 hi hs hk (u32c_at l k (by omega)) w
/-- What holds of what End's third region yields. -/
def EndF (g : Nat) (SE : Array Value) (ne : Nat) (HF : List Wd) : Nat → Value → World → Prop
  | 0, u, _ => u = .agg SE
  | 1, u, _ => u = .pointer (some ⟨g, 9, none⟩)
  | 2, u, _ => u = .int .u64 ne
  | 3, u, w => ∃ p, u = .slice (some ⟨p, 0, none⟩) (padOf ne).length (padOf ne).length ∧ Blk w p 5 (u8cells (padOf ne))
  | 4, u, _ => ∃ a l c N, u = .agg (stC HF (.slice a l c) N)
  | _, _, _ => True
theorem EndF.keep {g : Nat} {SE : Array Value} {ne : Nat} {HF : List Wd} : ∀ j u w1 w2, EndF g SE ne HF j u w1 → Below w1.heap.size w1 w2 → EndF g SE ne HF j u w2
  | 0, _, _, _, h, _ => h
  | 1, _, _, _, h, _ => h
  | 2, _, _, _, h, _ => h
  | 3, _, _, _, ⟨p, h1, h2⟩, hb => ⟨p, h1, h2.calls hb⟩
  | 4, _, _, _, h, _ => h
  | _ + 5, _, _, _, h, _ => h

set_option maxRecDepth 100000 in
set_option maxHeartbeats 4000000 in
theorem End_any (H : List Wd) (hH : H.length = 8) (a : Option Addr) (rest : List UInt8) (len c n : Nat) (hn : n < W64) (hrl : rest.length = len) (hlc : len ≤ c) (hcm : c ≤ maxLen) (w : World) (hrr : RdS w a rest) (hL : Laid w) :
    Calls Tryd.prog 43 #[.agg (stC H (.slice a len c) n)] w fun e w' => e = .returned (.agg (u8cells (wbytes (absH (effH H len n) (effR rest len n ++ padOf (effN len n)))))) ∧ Below w.heap.size w w' := by
  have hl9 : len ≤ 9223372036854775807 := by unfold maxLen at hcm; omega
  obtain ⟨b, hb⟩ : ∃ b, decide (len = n % 64) = b := ⟨_, rfl⟩
  have iS := isSt10 (stC H (.slice a len c) n) (stC_size _ _ _ hH)
  have cS := fun w => Sane_any H hH a len c n hn hl9 b hb w
  obtain ⟨S, hS⟩ : ∃ S, S = stC H (.slice a len c) n := ⟨_, rfl⟩
  have sS : S.size = 10 := by rw [hS]; exact stC_size _ _ _ hH
  rw [← hS] at iS cS ⊢
  obtain ⟨ae, ce, hae, hce1, hce2, hrae⟩ : ∃ (ae : Option Addr) (ce : Nat), ((b = true ∧ ae = a ∧ ce = c) ∨ (b = false ∧ ae = none ∧ ce = 0)) ∧ (effR rest len n).length ≤ ce ∧ ce ≤ maxLen ∧ RdS w ae (effR rest len n) := by
    cases hbb : b with
    | true =>
      have : len = n % 64 := by rw [hbb] at hb; simpa using hb
      refine ⟨a, c, .inl ⟨rfl, rfl, rfl⟩, ?_, hcm, ?_⟩ <;> simp only [effR, if_pos this]
      · omega
      · exact hrr
    | false =>
      have : ¬ len = n % 64 := by rw [hbb] at hb; simpa using hb
      refine ⟨none, 0, .inr ⟨rfl, rfl, rfl⟩, ?_, Nat.zero_le _, ?_⟩ <;> simp only [effR, if_neg this]
      · exact Nat.le_refl _
      · exact .inl rfl
  obtain ⟨SE, hSE⟩ : ∃ SE, SE = stC (effH H len n) (.slice ae (effR rest len n).length ce) (effN len n) := ⟨_, rfl⟩
  have hcase : (b = true ∧ S = SE) ∨ (b = false ∧ stC HI (.slice none 0 0) 0 = SE) := by
    rcases hae with ⟨h1, h2, h3⟩ | ⟨h1, h2, h3⟩
    · have : len = n % 64 := by rw [h1] at hb; simpa using hb
      exact .inl ⟨h1, by rw [hS, hSE, h2, h3]; simp only [effH, effR, effN, if_pos this, hrl]⟩
    · have : ¬ len = n % 64 := by rw [h1] at hb; simpa using hb
      exact .inr ⟨h1, by rw [hSE, h2, h3]; simp only [effH, effR, effN, if_neg this]; rfl⟩
  have hHe : (effH H len n).length = 8 := by unfold effH; split; exact hH; exact HI_length
  have hne : effN len n < W64 := by unfold effN; split; exact hn; exact W64_pos
  have hsane : (effR rest len n).length = effN len n % 64 := by unfold effR effN; split <;> simp_all
  clear hae hl9 hrl hlc hcm hrr hS
  generalize effH H len n = He at *
  generalize effR rest len n = Re at *
  generalize effN len n = ne at *
  obtain ⟨HF, hHF⟩ : ∃ HF, HF = absH He (Re ++ padOf ne) := ⟨_, rfl⟩
  have hHFl : HF.length = 8 := by rw [hHF]; exact absH_length _ _ hHe
  rw [← hHF]
  obtain ⟨L, hLb⟩ : ∃ L, L = wbytes HF := ⟨_, rfl⟩
  rw [← hLb]
  have FL := Lib.hid hLb; clear hLb
  have sE : SE.size = 10 := by rw [hSE]; exact stC_size _ _ _ hHe
  have iE := isSt10 SE sE
  have aE : SE.all (·.oneCell') = true := by rw [hSE]; exact stC_one _ _ _ _ _
  have sSE : S.size = SE.size := by rw [sS, sE]
  have cW := fun (w2 : World) (hb : Below w.heap.size w w2) (p : Nat) (hp : Blk w2 p 5 (u8cells (padOf ne))) =>
    Write_any He hHe ae Re Re.length ce ne hne rfl hce1 hce2 (some ⟨p, 0, none⟩) (padOf ne) (padOf ne).length (padOf ne).length rfl (Nat.le_refl _) (by rw [padOf_length]; unfold zerosOf; split <;> omega) (fun h => by cases h) w2 (hrae.below hb (Nat.le_refl _)) (.inr ⟨p, 0, rfl, hp.lt, fun i hi => (hp.cell (0 + i)).trans (by rw [Nat.zero_add]; exact u8cells_at _ i hi)⟩) (hL.below hb (Nat.le_refl _))
  have F := Lib.hid (And.intro hSE (And.intro hHF (And.intro hHFl (And.intro hL (And.intro hHe (And.intro hne hsane)))))); clear hSE hHF hHFl hL hHe hne hsane hrae hb
  have CS := Lib.hid cS; clear cS
  have CW := Lib.hid cW; clear cW
  go_enter Tryd.func43, Tryd.ntmps43
  go_wp2_with (with_reducible refine wl_st ((Blk.newAt w _ S rfl).alloc _) _ _ rfl rfl rfl _ Tryd.underlying87 iS ?_)
  refine (CS.out _).mono ?_
  rintro e w1 ⟨rfl, hb1⟩
  obtain ⟨H0, hH0⟩ : ∃ H0, H0 = Array.replicate 32 (Value.int .u8 0) := ⟨_, rfl⟩
  have A0 : Blk w1 w.heap.size 87 S := ((Blk.newAt w _ S rfl).alloc _).calls hb1
  have A1 : Blk w1 (w.heap.size + 1) 63 H0 := by rw [hH0]; exact (Blk.second w _ _ _).calls hb1
  have AB : Below w.heap.size w w1 := bt (ba (ba (Below.refl _ _) _) _) hb1
  have z0 := A0.lt
  have z1 := A1.lt
  clear hb1
  have HH0 := Lib.hid hH0; clear hH0
  go_upto_if 8 with fail
  go_cut [] (fun wx => Blk wx w.heap.size 87 SE ∧ Blk wx (w.heap.size + 1) 63 H0 ∧ Below w.heap.size w wx)
  case first =>
    rcases hcase with ⟨h1, h2⟩ | ⟨h1, h2⟩
    · subst h1
      rw [h2] at A0
      have HA := Lib.hid (And.intro A0 (And.intro A1 AB)); clear A0 A1 AB h2
      go_wp2_with fail
      go_meet
      exact HA.out
    · subst h1
      have HA := Lib.hid (And.intro A0 (And.intro A1 AB)); clear A0 A1 AB
      have h2' := Lib.hid h2; clear h2
      go_wp2_with fail
      refine (Start_any _ (F.out.2.2.2.1.below HA.out.2.2 (Nat.le_refl _))).mono ?_
      rintro e w2 ⟨rfl, hb2⟩
      rw [h2'.out]
      have B0 := HA.out.1.calls hb2
      have B1 := HA.out.2.1.calls hb2
      have BB := bt HA.out.2.2 hb2
      have HB := Lib.hid (And.intro B0 (And.intro B1 BB)); clear B0 B1 BB hb2 HA
      go_wp2_with (with_reducible refine ws_row HB.out.1 _ _ _ _ rfl rfl rfl rfl iE sSE aE ?_)
      go_meet
      exact ⟨HB.out.1.row _, HB.out.2.1.rowFar (by omega) _, setRow_below HB.out.2.2 (by omega) _⟩
  case rest =>
    obtain ⟨B0, B1, BB⟩ := hcut
    clear hcase sSE iS A0 A1 AB CS z0 z1
    have z0 := B0.lt
    have z1 := B1.lt
    have B := Lib.hid (And.intro B0 (And.intro B1 BB)); clear B0 B1 BB
    go_wp2_with fail
    refine wp_region_vals [some 10, some 11, some 12, some 13, some 14, none] (EndF w.heap.size SE ne HF) 5 (fun w' => ∃ a l c N, Blk w' w.heap.size 87 (stC HF (.slice a l c) N) ∧ Blk w' (w.heap.size + 1) 63 H0 ∧ Below w.heap.size w w') EndF.keep (by kernel_rfl) rfl rfl rfl rfl rfl rfl ⟨
      .inr ⟨rfl, fun A w' γ hb hf hs => Oper.wp_mono (by rintro a' w'' ⟨h1, h2⟩; exact ⟨_, h1, h2, rfl⟩) (wp_load_row (K := fun a' w'' => a' = A.put (some 10) (.agg SE) ∧ Below w'.heap.size w' w'') 87 (.tmp 1) rfl w.heap.size ((hs.2 1 rfl).trans rfl) 87 SE (0, 0) _ (B.out.1.below hb z0) Tryd.underlying87 rfl iE ⟨rfl, Below.refl _ _⟩)⟩,
      .inr ⟨rfl, fun A w' γ hb hf hs => Oper.wp_mono (by rintro a' w'' ⟨h1, h2⟩; exact ⟨_, h1, h2, rfl⟩) (op_field2 (.tmp 1) rfl w.heap.size ((hs.2 1 rfl).trans rfl))⟩,
      .inr ⟨rfl, fun A w' γ hb hf hs => Oper.wp_mono (by rintro a' w'' ⟨h1, h2⟩; exact ⟨_, h1, h2, rfl⟩) (op_cell 68 (.tmp 11) rfl ⟨w.heap.size, 9, none⟩ ((hs.1 1 rfl 11 rfl).trans (hf 1 rfl)) (.int .u64 ne) (by rw [(B.out.1.below hb z0).cell, F.out.1]; exact stC_num _ _ _ F.out.2.2.2.2.1) _ Tryd.underlying68 rfl)⟩,
      .inr ⟨rfl, fun A w' γ hb hf hs => Oper.wp_mono (by rintro a' w'' ⟨u, ⟨p, h1, h4⟩, h2, h3⟩; exact ⟨u, h2, h3, p, h1, h4⟩) (op_call1 53 _ (exec_call _ 53 _ rfl rfl (margs1 (show A.eval (.tmp 12) = _ from (hs.1 2 rfl 12 rfl).trans (hf 2 rfl))) Tryd.func53 rfl rfl) (fun u w'' => ∃ p, u = .slice (some ⟨p, 0, none⟩) (padOf ne).length (padOf ne).length ∧ Blk w'' p 5 (u8cells (padOf ne))) ((Pad_any ne F.out.2.2.2.2.2.1 _ rfl w').mono (by rintro e w'' ⟨rfl, h1, h2⟩; exact ⟨_, rfl, h1, _, rfl, h2⟩)))⟩,
      .inr ⟨rfl, fun A w' γ hb hf hs => by
        obtain ⟨p, hp1, hp2⟩ := hf 3 rfl
        refine Oper.wp_mono ?_ (op_call1 44 _ (exec_call _ 44 _ rfl rfl (margs2 (show A.eval (.tmp 10) = _ from (hs.1 0 rfl 10 rfl).trans (hf 0 rfl)) (show A.eval (.tmp 13) = _ from (hs.1 3 rfl 13 rfl).trans hp1)) Tryd.func44 rfl rfl) (fun u w'' => ∃ a l c N, u = .agg (stC HF (.slice a l c) N)) ?_)
        · rintro a' w'' ⟨u, h1, h2, h3⟩
          exact ⟨u, h2, h3, h1⟩
        · rw [F.out.1]
          refine (CW.out w' (bt B.out.2.2 hb) p hp2).mono ?_
          rintro e w'' ⟨a2, c2, rfl, _, _, _, hb2⟩
          refine ⟨_, rfl, hb2, a2, (absR (Re ++ padOf ne)).length, c2, (ne + (padOf ne).length) % W64, ?_⟩
          rw [F.out.2.1]
          simp only [effH, effR, effN, if_pos F.out.2.2.2.2.2.2]⟩,
      .inl ⟨rfl, rfl, fun A w' γ hb hf hs => by
        obtain ⟨a2, l2, c2, N2, hu⟩ := hf 4 (by omega)
        have s10 : (stC HF (.slice a2 l2 c2) N2).size = 10 := stC_size _ _ _ F.out.2.2.1
        refine wp_store_row 87 (.tmp 1) (.tmp 14) rfl w.heap.size (stC HF (.slice a2 l2 c2) N2) ((hs.2 1 rfl).trans rfl) ((hs.1 4 rfl 14 rfl).trans hu) 87 SE (B.out.1.below hb z0) (isSt10 _ s10) (by rw [sE, s10]) (stC_one _ _ _ _ _) ⟨undef, rfl, a2, l2, c2, N2, ?_, ?_, ?_⟩
        · exact (B.out.1.below hb z0).row _
        · exact (B.out.2.1.below hb z1).rowFar (by omega) _
        · exact setRow_below (bt B.out.2.2 hb) (Nat.le_refl _) _⟩, trivial⟩ ?_
    rintro γ wt ⟨at', lt, ct, Nt, hT1, hT2, hT3⟩
    simp only [Fr, if_true, Act.put, List.setIfInBounds_toArray, List.set_cons_zero, List.set_cons_succ, List.getD_cons_zero, List.getD_cons_succ]
    generalize γ 0 = s10
    generalize γ 1 = s11
    generalize γ 2 = s12
    generalize γ 3 = s13
    generalize γ 4 = s14
    have hLb := FL.out
    have hLl : L.length = 32 := by rw [hLb]; exact wbytes_length HF F.out.2.2.1
    have i8H := is8 (u32c HF) (by rw [u32c_size, F.out.2.2.1])
    have zt0 := hT1.lt
    have zt1 := hT2.lt
    have TT := Lib.hid (And.intro hT1 (And.intro hT2 (And.intro hT3 (And.intro hLb (And.intro hLl F.out.2.2.1))))); clear hT1 hT2 hT3 hLb hLl B
    go_wp2_with (refine wpList_load_mid rfl _ _ rfl w.heap.size 0 rfl (u32c HF).toList _ (words_range (TT.out.1.alloc _) TT.out.2.2.2.2.2) Tryd.underlying85 rfl (by simpa using i8H) ?_)
    go_loopw [17] (fun i wr => ∃ k : Nat, k ≤ 8 ∧ i = .int .i64 k ∧ Blk wr wt.heap.size 63 (partB L (4 * k)) ∧ Blk wr (w.heap.size + 1) 63 H0 ∧ Below w.heap.size w wr) (fun i _ => 8 - (intOf i).toNat)
    case atStart =>
      refine ⟨0, by omega, rfl, ?_, TT.out.2.1.alloc _, ba TT.out.2.2.1 _⟩
      rw [Nat.mul_zero, partB_zero, TT.out.2.2.2.2.1]
      exact Blk.new wt _ _
    case round =>
      obtain ⟨k, hk, rfl, h0, h1, hb⟩ := hrel
      by_cases hlt : k < 8
      · obtain ⟨p0, hp0⟩ : ∃ p, p = 4 * k := ⟨_, rfl⟩
        obtain ⟨p1, hp1⟩ : ∃ p, p = p0 + 1 := ⟨_, rfl⟩
        obtain ⟨p2, hp2⟩ : ∃ p, p = p0 + 2 := ⟨_, rfl⟩
        obtain ⟨p3, hp3⟩ : ∃ p, p = p0 + 3 := ⟨_, rfl⟩
        obtain ⟨x, hx⟩ : ∃ x, x = HF.getD k 0 := ⟨_, rfl⟩
        obtain ⟨X, hX⟩ : ∃ X, X = wn x := ⟨_, rfl⟩
        have hix := fun w => index_W8 HF k TT.out.2.2.2.2.2 hlt w
        rw [← hx, ← hX] at hix
        obtain ⟨y0, hy0⟩ : ∃ y, y = (L.getD p0 0).toNat := ⟨_, rfl⟩
        obtain ⟨y1, hy1⟩ : ∃ y, y = (L.getD p1 0).toNat := ⟨_, rfl⟩
        obtain ⟨y2, hy2⟩ : ∃ y, y = (L.getD p2 0).toNat := ⟨_, rfl⟩
        obtain ⟨y3, hy3⟩ : ∃ y, y = (L.getD p3 0).toNat := ⟨_, rfl⟩
        have q0 : (X : Int) / 16777216 % 256 = (y0 : Int) := by
          rw [hy0, hp0, TT.out.2.2.2.1, ← Nat.add_zero (4 * k), wbytes_at HF TT.out.2.2.2.2.2 k 0 hlt (by omega), ← hx, ← hX]
          simp
        have q1 : (X : Int) / 65536 % 256 = (y1 : Int) := by
          rw [hy1, hp1, hp0, TT.out.2.2.2.1, wbytes_at HF TT.out.2.2.2.2.2 k 1 hlt (by omega), ← hx, ← hX]
          simp
        have q2 : (X : Int) / 256 % 256 = (y2 : Int) := by
          rw [hy2, hp2, hp0, TT.out.2.2.2.1, wbytes_at HF TT.out.2.2.2.2.2 k 2 hlt (by omega), ← hx, ← hX]
          simp
        have q3 : (X : Int) % 256 = (y3 : Int) := by
          rw [hy3, hp3, hp0, TT.out.2.2.2.1, wbytes_at HF TT.out.2.2.2.2.2 k 3 hlt (by omega), ← hx, ← hX]
          simp
        have i0 : (4 : Int) * (k : Int) = (p0 : Int) := by omega
        have i1 : (p0 : Int) + 1 = (p1 : Int) := by omega
        have i2 : (p0 : Int) + 2 = (p2 : Int) := by omega
        have i3 : (p0 : Int) + 3 = (p3 : Int) := by omega
        have b0 : p0 < 32 := by omega
        have b1 : p1 < 32 := by omega
        have b2 : p2 < 32 := by omega
        have b3 : p3 < 32 := by omega
        have n01 : p1 ≠ p0 := by omega
        have n02 : p2 ≠ p0 := by omega
        have n03 : p3 ≠ p0 := by omega
        have n12 : p2 ≠ p1 := by omega
        have n13 : p3 ≠ p1 := by omega
        have n23 : p3 ≠ p2 := by omega
        rw [← hp0] at h0
        obtain ⟨v0, hv0⟩ := partB_at L p0 p0 (by rw [TT.out.2.2.2.2.1]; exact b0)
        obtain ⟨v1, hv1⟩ := partB_at L p0 p1 (by rw [TT.out.2.2.2.2.1]; exact b1)
        obtain ⟨v2, hv2⟩ := partB_at L p0 p2 (by rw [TT.out.2.2.2.2.1]; exact b2)
        obtain ⟨v3, hv3⟩ := partB_at L p0 p3 (by rw [TT.out.2.2.2.2.1]; exact b3)
        have c0 := blk_get h0 p0 _ hv0
        have c1 := blk_get h0 p1 _ hv1
        have c2 := blk_get h0 p2 _ hv2
        have c3 := blk_get h0 p3 _ hv3
        have f0 := h0.frozen p0
        have f1 := h0.frozen p1
        have f2 := h0.frozen p2
        have f3 := h0.frozen p3
        have hki : (k : Int) < 8 := by omega
        have HR := Lib.hid (And.intro h0 (And.intro h1 (And.intro hb (And.intro hp0 (And.intro hp1 (And.intro hp2 (And.intro hp3 (And.intro hy0 (And.intro hy1 (And.intro hy2 (And.intro hy3 (And.intro hx hX)))))))))))); clear h0 h1 hb hp0 hp1 hp2 hp3 hy0 hy1 hy2 hy3 hx hX hv0 hv1 hv2 hv3
        go_wp2
        obtain ⟨h0, h1, hb, hp0, hp1, hp2, hp3, hy0, hy1, hy2, hy3, hx, hX⟩ := HR.out
        go_roundw
        case rel =>
          refine ⟨k + 1, by omega, by go_num, ?_, (((h1.far (by omega) _).far (by omega) _).far (by omega) _).far (by omega) _, (((hb.setCell (by simp; omega) _).setCell (by simp; omega) _).setCell (by simp; omega) _).setCell (by simp; omega) _⟩
          have hLl := TT.out.2.2.2.2.1
          have s0 := partB_set L p0 (by omega)
          have s1 := partB_set L p1 (by omega)
          have s2 := partB_set L p2 (by omega)
          have s3 := partB_set L p3 (by omega)
          rw [← hy0, ← hp1] at s0
          rw [← hy1, show p1 + 1 = p2 by omega] at s1
          rw [← hy2, show p2 + 1 = p3 by omega] at s2
          rw [← hy3] at s3
          rw [show 4 * (k + 1) = p3 + 1 by omega, ← s3, ← s2, ← s1, ← s0]
          exact (((h0.set_ p0 _).set_ p1 _).set_ p2 _).set_ p3 _
        case measure => simp [intOf]; omega
      · obtain rfl : k = 8 := by omega
        rw [show 4 * 8 = 32 from rfl, partB_full L 32 TT.out.2.2.2.2.1] at h0
        obtain ⟨C, hC⟩ : ∃ C, C = u8cells L := ⟨_, rfl⟩
        rw [← hC] at h0
        have sC : C.size = 32 := by rw [hC, u8cells_size]; exact TT.out.2.2.2.2.1
        have iC : (Tryd.prog.info? 63).map (·.size) = some C.size := by rw [sC]; kernel_rfl
        have s1 : H0.size = C.size := by rw [sC, HH0.out]; simp
        have aC : C.all (·.oneCell') = true := by rw [hC]; exact u8cells_one L
        have HR := Lib.hid (And.intro h0 (And.intro h1 (And.intro hb hC))); clear h0 h1 hb hC sC
        go_wp2_with (first | with_reducible refine wl_row HR.out.1 _ _ rfl rfl rfl _ _ Tryd.underlying63 iC ?_ | with_reducible refine ws_row HR.out.2.1 _ _ _ _ rfl rfl rfl rfl iC s1 aC ?_)
        obtain ⟨h0, h1, hb, hC⟩ := HR.out
        refine bodyPost_ret (v := .agg C) ?_ rfl ⟨by rw [hC], setRow_below hb (by omega) _⟩
        exact results_cell_row rfl _ _ _ _ _ (0, 0) _ rfl (h1.row _) Tryd.underlying63 rfl iC
end Go.Proofs.YticiipddilabfaaDoor

namespace Go.Proofs.YticiipddilabfaaDoor
open Go.RowKit
set_option linter.unusedVariables false

/-- A text's sum. -/
def sumOf (t : List UInt8) : List UInt8 := wbytes (absH HI (t ++ padOf (t.length % W64)))
theorem sumOf_length (t : List UInt8) : (sumOf t).length = 32 := wbytes_length _ (absH_length _ _ HI_length)
theorem End_at (v : Value) (txt : List UInt8) (w : World) (hv : StAt w v txt) (hL : Laid w) :
    Calls Tryd.prog 43 #[v] w fun e w' => e = .returned (.agg (u8cells (sumOf txt))) ∧ Below w.heap.size w w' := by
  obtain ⟨a, c, rfl, hra, h1, h2⟩ := hv
  have hs : (absR txt).length = txt.length % W64 % 64 := by rw [absR_length]; unfold W64; omega
  have h := End_any (absH HI txt) (absH_length _ _ HI_length) a (absR txt) _ c (txt.length % W64) (Nat.mod_lt _ W64_pos) rfl h1 h2 w hra hL
  simp only [effH, effR, effN, if_pos hs] at h
  rw [← absH_app] at h
  exact h
set_option maxRecDepth 100000 in
set_option maxHeartbeats 400000 in
theorem Sum_any (a' : Option Addr) (t : List UInt8) (m c' : Nat) (hm : t.length = m) (hc : m ≤ c') (hc2 : m ≤ 140737488355328 ∧ c' ≤ 9223372036854775807) (hno : a' = none → m = 0 ∧ c' = 0) (w : World) (hr : RdS w a' t) (hL : Laid w) :
    Calls Tryd.prog 36 #[.slice a' m c'] w fun e w' => e = .returned (.agg (u8cells (sumOf t))) ∧ Below w.heap.size w w' := by
  obtain ⟨C, hC⟩ : ∃ C, C = u8cells (sumOf t) := ⟨_, rfl⟩
  have sC : C.size = 32 := by rw [hC, u8cells_size]; exact sumOf_length t
  have iC : (Tryd.prog.info? 63).map (·.size) = some C.size := by rw [sC]; kernel_rfl
  have aC : C.all (·.oneCell') = true := by rw [hC]; exact u8cells_one _
  obtain ⟨H0, hH0⟩ : ∃ H0, H0 = Array.replicate 32 (Value.int .u8 0) := ⟨_, rfl⟩
  have s1 : H0.size = C.size := by rw [sC, hH0]; simp
  rw [← hC]
  have F := Lib.hid (And.intro hm (And.intro hr (And.intro hL (And.intro hC hH0)))); clear hm hr hL hC hH0 sC
  go_enter Tryd.func36, Tryd.ntmps36
  go_wp2_with fail
  refine (Start_any _ (F.out.2.2.1.below (ba (Below.refl _ _) _) (Nat.le_refl _))).mono ?_
  rintro e w1 ⟨rfl, hb1⟩
  have A0 : Blk w1 w.heap.size 63 H0 := by rw [F.out.2.2.2.2]; exact (Blk.new w _ _).calls hb1
  have AB : Below w.heap.size w w1 := bt (ba (Below.refl _ _) _) hb1
  have A := Lib.hid (And.intro A0 AB); clear A0 AB hb1
  go_wp2_with fail
  refine (Write_at _ [] a' t m c' F.out.1 hc hc2 hno w1 (StAt.start w1) (F.out.2.1.below A.out.2 (Nat.le_refl _)) (F.out.2.2.1.below A.out.2 (Nat.le_refl _))).mono ?_
  rintro e w2 ⟨v2, rfl, hv2, hb2⟩
  rw [List.nil_append] at hv2
  have B := Lib.hid (And.intro (A.out.1.calls hb2) (And.intro (bt A.out.2 hb2) hv2)); clear hb2 hv2 A
  go_wp2_with fail
  refine (End_at v2 t w2 B.out.2.2 (F.out.2.2.1.below B.out.2.1 (Nat.le_refl _))).mono ?_
  rintro e w3 ⟨rfl, hb3⟩
  rw [← F.out.2.2.2.1]
  have D := Lib.hid (And.intro (B.out.1.calls hb3) (bt B.out.2.1 hb3)); clear hb3 B
  go_wp2_with (with_reducible refine ws_row D.out.1 _ _ _ _ rfl rfl rfl rfl iC s1 aC ?_)
  refine bodyPost_ret (v := .agg C) ?_ rfl ⟨rfl, setRow_below D.out.2 (Nat.le_refl _) _⟩
  exact results_cell_row rfl _ _ _ _ _ (0, 0) _ rfl (D.out.1.row _) Tryd.underlying63 rfl iC
end Go.Proofs.YticiipddilabfaaDoor

namespace Go.Proofs.YticiipddilabfaaDoor
open Go.RowKit
set_option linter.unusedVariables false
set_option maxRecDepth 100000 in
theorem abc_sum : sumOf [97, 98, 99] = [0xba, 0x78, 0x16, 0xbf, 0x8f, 0x01, 0xcf, 0xea, 0x41, 0x41, 0x40, 0xde, 0x5d, 0xae, 0x22, 0x23, 0xb0, 0x03, 0x61, 0xa3, 0x96, 0x17, 0x7a, 0x9c, 0xb4, 0x10, 0xff, 0x61, 0xf2, 0x00, 0x15, 0xad] := by
  decide +kernel
theorem abc_at : (u8cells (sumOf [97, 98, 99]))[0]? = some (.int .u8 186) ∧ (u8cells (sumOf [97, 98, 99]))[1]? = some (.int .u8 120) ∧ (u8cells (sumOf [97, 98, 99]))[31]? = some (.int .u8 173) := by
  rw [abc_sum]
  exact ⟨rfl, rfl, rfl⟩
end Go.Proofs.YticiipddilabfaaDoor

namespace Go.Proofs.YticiipddilabfaaDoor
open Go.RowKit
set_option linter.unusedVariables false
set_option maxRecDepth 100000 in
set_option maxHeartbeats 1000000 in
theorem Double_any (a' : Option Addr) (t : List UInt8) (m c' : Nat) (hm : t.length = m) (hc : m ≤ c') (hc2 : m ≤ 140737488355328 ∧ c' ≤ 9223372036854775807) (hno : a' = none → m = 0 ∧ c' = 0) (w : World) (hr : RdS w a' t) (hL : Laid w) :
    Calls Tryd.prog 26 #[.slice a' m c'] w fun e w' => e = .returned (.agg (u8cells (sumOf (sumOf t)))) ∧ Below w.heap.size w w' := by
  obtain ⟨S, hS⟩ : ∃ S, S = sumOf t := ⟨_, rfl⟩
  have hSl : S.length = 32 := by rw [hS]; exact sumOf_length t
  obtain ⟨C1, hC1⟩ : ∃ C, C = u8cells S := ⟨_, rfl⟩
  obtain ⟨C, hC⟩ : ∃ C, C = u8cells (sumOf S) := ⟨_, rfl⟩
  have sC : C.size = 32 := by rw [hC, u8cells_size]; exact sumOf_length S
  have sC1 : C1.size = 32 := by rw [hC1, u8cells_size]; exact hSl
  have iC : (Tryd.prog.info? 63).map (·.size) = some C.size := by rw [sC]; kernel_rfl
  have iC1 : (Tryd.prog.info? 63).map (·.size) = some C1.size := by rw [sC1]; kernel_rfl
  have aC : C.all (·.oneCell') = true := by rw [hC]; exact u8cells_one _
  have aC1 : C1.all (·.oneCell') = true := by rw [hC1]; exact u8cells_one _
  have s1 : (Array.size (#[.int .u8 0, .int .u8 0, .int .u8 0, .int .u8 0, .int .u8 0, .int .u8 0, .int .u8 0, .int .u8 0, .int .u8 0, .int .u8 0, .int .u8 0, .int .u8 0, .int .u8 0, .int .u8 0, .int .u8 0, .int .u8 0, .int .u8 0, .int .u8 0, .int .u8 0, .int .u8 0, .int .u8 0, .int .u8 0, .int .u8 0, .int .u8 0, .int .u8 0, .int .u8 0, .int .u8 0, .int .u8 0, .int .u8 0, .int .u8 0, .int .u8 0, .int .u8 0] : Array Value)) = C1.size := by rw [sC1]; rfl
  have s2 : (Array.size (#[.int .u8 0, .int .u8 0, .int .u8 0, .int .u8 0, .int .u8 0, .int .u8 0, .int .u8 0, .int .u8 0, .int .u8 0, .int .u8 0, .int .u8 0, .int .u8 0, .int .u8 0, .int .u8 0, .int .u8 0, .int .u8 0, .int .u8 0, .int .u8 0, .int .u8 0, .int .u8 0, .int .u8 0, .int .u8 0, .int .u8 0, .int .u8 0, .int .u8 0, .int .u8 0, .int .u8 0, .int .u8 0, .int .u8 0, .int .u8 0, .int .u8 0, .int .u8 0] : Array Value)) = C.size := by rw [sC]; rfl
  rw [← hS, ← hC]
  have F := Lib.hid (And.intro hm (And.intro hr (And.intro hL (And.intro hC (And.intro hS (And.intro hC1 hSl)))))); clear hm hr hL hC hS hC1 hSl sC sC1
  go_enter Tryd.func26, Tryd.ntmps26
  go_wp2_with fail
  refine (Sum_any a' t m c' F.out.1 hc hc2 hno _ (F.out.2.1.below (ba (Below.refl _ _) _) (Nat.le_refl _)) (F.out.2.2.1.below (ba (Below.refl _ _) _) (Nat.le_refl _))).mono ?_
  rintro e w1 ⟨rfl, hb1⟩
  rw [← F.out.2.2.2.2.1, ← F.out.2.2.2.2.2.1]
  have A0 : Blk w1 w.heap.size 63 #[.int .u8 0, .int .u8 0, .int .u8 0, .int .u8 0, .int .u8 0, .int .u8 0, .int .u8 0, .int .u8 0, .int .u8 0, .int .u8 0, .int .u8 0, .int .u8 0, .int .u8 0, .int .u8 0, .int .u8 0, .int .u8 0, .int .u8 0, .int .u8 0, .int .u8 0, .int .u8 0, .int .u8 0, .int .u8 0, .int .u8 0, .int .u8 0, .int .u8 0, .int .u8 0, .int .u8 0, .int .u8 0, .int .u8 0, .int .u8 0, .int .u8 0, .int .u8 0] := (Blk.new w _ _).calls hb1
  have AB : Below w.heap.size w w1 := bt (ba (Below.refl _ _) _) hb1
  have z0 := A0.lt
  have N : Blk _ w1.heap.size 63 #[.int .u8 0, .int .u8 0, .int .u8 0, .int .u8 0, .int .u8 0, .int .u8 0, .int .u8 0, .int .u8 0, .int .u8 0, .int .u8 0, .int .u8 0, .int .u8 0, .int .u8 0, .int .u8 0, .int .u8 0, .int .u8 0, .int .u8 0, .int .u8 0, .int .u8 0, .int .u8 0, .int .u8 0, .int .u8 0, .int .u8 0, .int .u8 0, .int .u8 0, .int .u8 0, .int .u8 0, .int .u8 0, .int .u8 0, .int .u8 0, .int .u8 0, .int .u8 0] := Blk.new w1 63 #[.int .u8 0, .int .u8 0, .int .u8 0, .int .u8 0, .int .u8 0, .int .u8 0, .int .u8 0, .int .u8 0, .int .u8 0, .int .u8 0, .int .u8 0, .int .u8 0, .int .u8 0, .int .u8 0, .int .u8 0, .int .u8 0, .int .u8 0, .int .u8 0, .int .u8 0, .int .u8 0, .int .u8 0, .int .u8 0, .int .u8 0, .int .u8 0, .int .u8 0, .int .u8 0, .int .u8 0, .int .u8 0, .int .u8 0, .int .u8 0, .int .u8 0, .int .u8 0]
  have R := N.row C1
  have R0 := (A0.alloc (.cells #[.int .u8 0, .int .u8 0, .int .u8 0, .int .u8 0, .int .u8 0, .int .u8 0, .int .u8 0, .int .u8 0, .int .u8 0, .int .u8 0, .int .u8 0, .int .u8 0, .int .u8 0, .int .u8 0, .int .u8 0, .int .u8 0, .int .u8 0, .int .u8 0, .int .u8 0, .int .u8 0, .int .u8 0, .int .u8 0, .int .u8 0, .int .u8 0, .int .u8 0, .int .u8 0, .int .u8 0, .int .u8 0, .int .u8 0, .int .u8 0, .int .u8 0, .int .u8 0] 63)).rowFar (show w.heap.size ≠ w1.heap.size by omega) C1
  have RB := setRow_below (ba AB (.cells #[.int .u8 0, .int .u8 0, .int .u8 0, .int .u8 0, .int .u8 0, .int .u8 0, .int .u8 0, .int .u8 0, .int .u8 0, .int .u8 0, .int .u8 0, .int .u8 0, .int .u8 0, .int .u8 0, .int .u8 0, .int .u8 0, .int .u8 0, .int .u8 0, .int .u8 0, .int .u8 0, .int .u8 0, .int .u8 0, .int .u8 0, .int .u8 0, .int .u8 0, .int .u8 0, .int .u8 0, .int .u8 0, .int .u8 0, .int .u8 0, .int .u8 0, .int .u8 0] 63)) (show w.heap.size ≤ w1.heap.size from AB.size) C1
  have A := Lib.hid (And.intro N (And.intro R (And.intro R0 RB))); clear A0 AB N R R0 RB hb1
  go_wp2_with (with_reducible refine ws_row A.out.1 _ _ _ _ rfl rfl rfl rfl iC1 s1 aC1 ?_)
  refine (Sum_any (some ⟨w1.heap.size, 0, none⟩) S 32 32 F.out.2.2.2.2.2.2 (by omega) (by omega) (fun h => by cases h) _ (.inr ⟨w1.heap.size, 0, rfl, A.out.2.1.lt, fun i hi => (A.out.2.1.cell (0 + i)).trans (by rw [Nat.zero_add, F.out.2.2.2.2.2.1]; exact u8cells_at S i hi)⟩) (F.out.2.2.1.below A.out.2.2.2 (Nat.le_refl _))).mono ?_
  rintro e w2 ⟨rfl, hb2⟩
  rw [← F.out.2.2.2.1]
  have D := Lib.hid (And.intro (A.out.2.2.1.calls hb2) (bt A.out.2.2.2 hb2)); clear hb2 A
  go_wp2_with (with_reducible refine ws_row D.out.1 _ _ _ _ rfl rfl rfl rfl iC s2 aC ?_)
  refine bodyPost_ret (v := .agg C) ?_ rfl ⟨rfl, setRow_below D.out.2 (Nat.le_refl _) _⟩
  exact results_cell_row rfl _ _ _ _ _ (0, 0) _ rfl (D.out.1.row _) Tryd.underlying63 rfl iC
end Go.Proofs.YticiipddilabfaaDoor

namespace Go.Proofs.YticiipddilabfaaDoor
open Go.RowKit
set_option linter.unusedVariables false
def le4 (n : Nat) : List UInt8 := [UInt8.ofNat (n % 256), UInt8.ofNat (n / 256 % 256), UInt8.ofNat (n / 65536 % 256), UInt8.ofNat (n / 16777216 % 256)]
theorem le4_length (n : Nat) : (le4 n).length = 4 := rfl
def okC (c : UInt8) : Bool := decide (33 ≤ c.toNat) && decide (c.toNat ≤ 126)
/-- May a command be? -/
def cmdOk (s : List UInt8) : Bool := decide (1 ≤ s.length) && decide (s.length ≤ 12) && s.all okC
def dbl (t : List UInt8) : List UInt8 := sumOf (sumOf t)
theorem dbl_length (t : List UInt8) : (dbl t).length = 32 := sumOf_length _
/-- A command's twelve bytes. -/
def cmd12 (c : List UInt8) : List UInt8 := c ++ List.replicate (12 - c.length) 0
def headOf (magic : Nat) (c p : List UInt8) : List UInt8 := le4 magic ++ cmd12 c ++ le4 p.length ++ (dbl p).take 4
def putE (c p : List UInt8) : Nat := if cmdOk c = true then if p.length ≤ 4000000 then 0 else 3 else 2
def putL (magic : Nat) (c p : List UInt8) : List UInt8 := if putE c p = 0 then headOf magic c p ++ p else []
/-- What a payload may have at most. -/
def capN (most : Int) : Nat := (min (max most 0) 4000000).toNat
/-- Without the zeros at its end. -/
def trimR : List UInt8 → List UInt8
  | [] => []
  | x :: r => match trimR r with
    | [] => if x = 0 then [] else [x]
    | y :: t => x :: y :: t
inductive GR where
  | no (e : Nat)
  | yes (c p : List UInt8)
/-- How many bytes the payload is to have. -/
def sizeG (b : List UInt8) : Nat := (b.getD 16 0).toNat + (b.getD 17 0).toNat * 256 + (b.getD 18 0).toNat * 65536 + (b.getD 19 0).toNat * 16777216
def cmdG (b : List UInt8) : List UInt8 := trimR ((b.drop 4).take 12)
def payG (b : List UInt8) : List UInt8 := (b.drop 24).take (sizeG b)
/-- What stands at the beginning of bytes. -/
def getG (magic cap : Nat) (b : List UInt8) : GR :=
  if b.take 4 ≠ (le4 magic).take b.length then .no 5
  else if b.length < 24 then .no 1
  else if cmdOk (cmdG b) = false then .no 2
  else if cap < sizeG b then .no 3
  else if b.length < 24 + sizeG b then .no 1
  else if (dbl (payG b)).take 4 ≠ (b.drop 20).take 4 then .no 4
  else .yes (cmdG b) (payG b)
/-- The messages, what is left, and what ended them. -/
def feedG (magic cap : Nat) : Nat → List UInt8 → List (List UInt8 × List UInt8) × List UInt8 × Nat
  | 0, b => ([], b, 1)
  | k + 1, b => match getG magic cap b with
    | .no e => ([], b, e)
    | .yes c p => ((c, p) :: (feedG magic cap k (b.drop (24 + p.length))).1, (feedG magic cap k (b.drop (24 + p.length))).2)
def feedA (magic cap : Nat) (b : List UInt8) : List (List UInt8 × List UInt8) × List UInt8 × Nat := feedG magic cap (b.length + 1) b
theorem getG_yes {magic cap : Nat} {b c p : List UInt8} (h : getG magic cap b = .yes c p) : 24 + p.length ≤ b.length ∧ p.length ≤ cap ∧ cmdOk c = true ∧ c = cmdG b ∧ p = payG b ∧ p.length = sizeG b := by
  unfold getG at h
  repeat' split at h
  all_goals try cases h
  rename_i h1 h2 h3 h4 h5 h6
  have hl : (payG b).length = sizeG b := by
    unfold payG
    rw [List.length_take, List.length_drop]
    omega
  refine ⟨by omega, by omega, ?_, rfl, rfl, hl⟩
  cases hc : cmdOk (cmdG b)
  · exact absurd hc h3
  · rfl
theorem feedG_two (magic cap : Nat) : ∀ (n : Nat) (b : List UInt8), b.length ≤ n → ∀ k1 k2, b.length < k1 → b.length < k2 → feedG magic cap k1 b = feedG magic cap k2 b := by
  intro n
  induction n with
  | zero =>
    intro b hn k1 k2 h1 h2
    obtain ⟨a, rfl⟩ : ∃ a, k1 = a + 1 := ⟨k1 - 1, by omega⟩
    obtain ⟨c, rfl⟩ : ∃ c, k2 = c + 1 := ⟨k2 - 1, by omega⟩
    rw [feedG, feedG]
    cases hg : getG magic cap b with
    | no e => rfl
    | yes c p => have := (getG_yes hg).1; omega
  | succ n ih =>
    intro b hn k1 k2 h1 h2
    obtain ⟨a, rfl⟩ : ∃ a, k1 = a + 1 := ⟨k1 - 1, by omega⟩
    obtain ⟨c', rfl⟩ : ∃ c, k2 = c + 1 := ⟨k2 - 1, by omega⟩
    rw [feedG, feedG]
    cases hg : getG magic cap b with
    | no e => rfl
    | yes c p =>
      have := (getG_yes hg).1
      have hl : (b.drop (24 + p.length)).length = b.length - (24 + p.length) := List.length_drop
      have e := ih (b.drop (24 + p.length)) (by omega) a c' (by omega) (by omega)
      simp only [e]
theorem feedG_more (magic cap : Nat) (k : Nat) (b : List UInt8) (h : b.length < k) : feedG magic cap k b = feedG magic cap (b.length + 1) b :=
  feedG_two magic cap b.length b (Nat.le_refl _) k _ h (Nat.lt_succ_self _)
theorem feedA_eq (magic cap : Nat) (b : List UInt8) : feedA magic cap b = match getG magic cap b with
    | .no e => ([], b, e)
    | .yes c p => ((c, p) :: (feedA magic cap (b.drop (24 + p.length))).1, (feedA magic cap (b.drop (24 + p.length))).2) := by
  rw [feedA, feedG]
  cases hg : getG magic cap b with
  | no e => rfl
  | yes c p =>
    have h1 := (getG_yes hg).1
    have hl : (b.drop (24 + p.length)).length < b.length := by rw [List.length_drop]; omega
    simp only [feedA, feedG_more magic cap b.length _ hl]
end Go.Proofs.YticiipddilabfaaDoor
