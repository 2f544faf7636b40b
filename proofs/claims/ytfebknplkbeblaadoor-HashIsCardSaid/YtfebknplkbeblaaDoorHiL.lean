/- The document's hash as a text and as a number, and a number as a hash. What sha2.Double comes to. hash.Cmp, bytes.Equal, hash.Witness, hash.Pair. The document's SHA-2: a word turned. -/
import Derived.Test.YtfebknplkbeblaaDoorHiG
import Derived.Test.YtfebknplkbeblaaDoorHiH
import Derived.Test.YtfebknplkbeblaaDoorHiI
import Derived.Test.YtfebknplkbeblaaDoorHiK
import Derived.Test.YtfebknplkbeblaaDoorHiF
import Derived.Lib.Bytes
import Derived.Test.YtfebknplkbeblaaDoorHiD
namespace Go.Proofs.YtfebknplkbeblaaDoor
open Go.RowKit
set_option linter.unusedVariables false
section
variable {P : Program} {Q : Exit → Act → World → Prop} {o : Oper} {A : Act} {w : World} {u : Value}
theorem op_quo8 (t r : TypeId) (x y : Operand) (k : IntKind) (m n s : Int) (ho : o.op = .binOp .quo t x y r) (hx : A.eval x = .int k m) (hy : A.eval y = .int k n) (hn : ¬ n = 0) (hb : k.wrap (Int.tdiv m n) = s) : o.wp P A w (fun a' w'' => a' = A.put o.dst (.int k s) ∧ Below w.heap.size w w'') Q := by
  refine op_run ?_
  generalize A.eval = ρ at *
  unfold execOp
  subst hb
  simp [ho, hx, hy, eqGuard, binOp, Op.intDiv, hn, go_sem]
theorem op_rem8 (t r : TypeId) (x y : Operand) (k : IntKind) (m n s : Int) (ho : o.op = .binOp .rem t x y r) (hx : A.eval x = .int k m) (hy : A.eval y = .int k n) (hn : ¬ n = 0) (hb : Int.tmod m n = s) : o.wp P A w (fun a' w'' => a' = A.put o.dst (.int k s) ∧ Below w.heap.size w w'') Q := by
  refine op_run ?_
  generalize A.eval = ρ at *
  unfold execOp
  subst hb
  simp [ho, hx, hy, eqGuard, binOp, Op.intDiv, hn, go_sem]
theorem own_below {w' : World} {base : Nat} {e : TypeId} {v : Value} {n : Nat} {xs : List Value} (h : w.ownsRow base e 1 v n xs) (hb : Below w.heap.size w w') : w'.ownsRow base e 1 v n xs :=
  h.kept (row := none) ⟨hb.os, hb.tape, hb.output, hb.size, fun k hk _ => hb.block k hk⟩ (by cases hv : v.ownBlock <;> simp)
end
theorem bs2_run (a b : Int) (w : World) : (Instr.buildSlice 26 2 #[(0, .int .u8 a), (1, .int .u8 b)]).run Tryd.prog w = .ok (.slice (some ⟨w.heap.size, 0, none⟩) 2 2) (w.alloc (.cells #[.int .u8 a, .int .u8 b] 5)) := by
  obtain ⟨i, hi⟩ := Option.isSome_iff_exists.1 (show (Tryd.prog.info? 5).isSome = true by kernel_rfl)
  have h1 : i.size = 1 := by
    have : (Tryd.prog.info? 5).map (·.size) = some 1 := by kernel_rfl
    rw [hi] at this
    simpa using this
  unfold Instr.buildSlice
  simp [run_underlying Tryd.underlying26, go_sem, sizeOf, typeInfo, hi, h1, Tryd.zeroValue5, Instr.fill, Value.cells, newRow]
theorem op_bs2 {Q : Exit → Act → World → Prop} {o : Oper} {A : Act} {w : World} (a b : Nat) (x y : Operand) (ho : o.op = .buildSlice 26 2 #[(0, x), (1, y)]) (hx : A.eval x = .int .u8 a) (hy : A.eval y = .int .u8 b) :
    o.wp Tryd.prog A w (fun a' w'' => ∃ g, a' = A.put o.dst (.slice (some ⟨g, 0, none⟩) 2 2) ∧ Below w.heap.size w w'' ∧ Blk w'' g 5 #[.int .u8 a, .int .u8 b]) Q := by
  have hrun : (execOp A.eval o).run Tryd.prog w = .ok (.value (.slice (some ⟨w.heap.size, 0, none⟩) 2 2)) (w.alloc (.cells #[.int .u8 a, .int .u8 b] 5)) := by
    unfold execOp
    generalize A.eval = ρ at *
    simp only [ho]
    simp [hx, hy, bs2_run, go_sem]
  unfold Oper.wp
  rw [hrun, Oper.upon_value]
  exact ⟨_, rfl, ba (Below.refl _ _) _, Blk.new _ _ _⟩
/-- 'append(v, l...)' where v is the call's own row of bytes, as an operation. -/
theorem op_appS {P : Program} {Q : Exit → Act → World → Prop} {w : World} {o : Oper} {a : Act} {base : Nat} {e : TypeId} {v : Value} {n : Nat} {xs : List UInt8} (hown : w.ownsRow base e 1 v n (xs.map fun c => Value.int .u8 (c.toNat : Int)))
    (s x : Operand) (t : TypeId) (ho : o.op = .call { callee := .builtin .append, args := #[s, x], argTypes := #[t, t] }) (ht : P.underlying t = some (.slice e)) (i : TypeInfo) (hi : P.info? e = some i) (hz : i.zero = some (.int .u8 0)) (h1 : i.size = 1) (hby : i.bytes = 1)
    (hs : a.eval s = v) (ad : Addr) (m c : Nat) (l : List UInt8) (hx : a.eval x = .slice (some ad) m c) (hr : ∀ j u, (l.map fun c => Value.int .u8 (c.toNat : Int))[j]? = some u → w.cell? (ad.add j) = some u) (hl : l.length = m) (hn : n + m ≤ 140737488355328) (hbase : base ≤ w.heap.size) :
    o.wp P a w (fun a' w' => ∃ u, a' = a.put o.dst u ∧ w'.ownsRow base e 1 u (n + m) ((xs ++ l).map fun c => Value.int .u8 (c.toNat : Int)) ∧ w.grownBy w' v.ownBlock) Q :=
  wp_append_own w s x t ho base e i (.int .u8 0) 1 1 ht hi hz h1 hby rfl (by omega) v n _ hs hown ad m c (l.map fun c => Value.int .u8 (c.toNat : Int)) hx (by rw [List.length_map, hl, Nat.mul_one]) hr (one_news l) (by unfold maxLen; omega) (by omega) hbase fun v' w' h2 h3 h4 => ⟨v', rfl, by rw [List.map_append]; exact h2, h3⟩
theorem idx_h (b k : Nat) (hk : k < 32) (w : World) : (Instr.indexAt 38 (.pointer (some ⟨b, 0, none⟩)) (.int .i64 k)).run Tryd.prog w = .ok (.pointer (some ⟨b, k, none⟩)) w := by
  obtain ⟨i, hi⟩ := Option.isSome_iff_exists.1 (show (Tryd.prog.info? 5).isSome = true by kernel_rfl)
  have h1 : i.size = 1 := by
    have : (Tryd.prog.info? 5).map (·.size) = some 1 := by kernel_rfl
    rw [hi] at this
    simpa using this
  have e1 : (0 : Int) ≤ (k : Int) ∧ (k : Int) < (32 : Int) := by omega
  simp [Instr.indexAt, Instr.sureAddr, go_sem, run_underlying Tryd.underlying38, asIntOf, sizeOf, typeInfo, hi, h1, e1, Addr.add]
  rw [if_pos (by omega)]
  by_cases h : k = 0 <;> simp [h]
theorem hexT_take (l : List UInt8) (k : Nat) (h : k < 32) : (hexT l).take (2 * k) ++ [hx ((l.getD (31 - k) 0).toNat / 16), hx ((l.getD (31 - k) 0).toNat % 16)] = (hexT l).take (2 * k + 2) := by
  have e := hexT_even l k h
  have o := hexT_odd l k h
  have hl := hexT_length l
  rw [← e, ← o, show 2 * k + 2 = (2 * k + 1) + 1 by omega, List.take_add_one, List.take_add_one, List.append_assoc]
  congr 1
  rw [List.getElem?_eq_getElem (by omega), List.getElem?_eq_getElem (by omega)]
  simp [List.getD, List.getElem?_eq_getElem (show 2 * k < (hexT l).length by omega), List.getElem?_eq_getElem (show 2 * k + 1 < (hexT l).length by omega)]
set_option maxRecDepth 100000 in
set_option maxHeartbeats 2000000 in
theorem HRText_any (l : List UInt8) (hl : l.length = 32) (w : World) :
    Calls Tryd.prog 46 #[.agg (u8cells l)] w fun e w' => e = .returned (.string (bstr (hexT l))) ∧ Below w.heap.size w w' := by
  obtain ⟨i0, hi, hz0, hz1, hz2⟩ := info_parts (show (Tryd.prog.info? 5).map (fun i => (i.zero, i.size, i.bytes)) = some (some (.int .u8 0), 1, 1) by kernel_rfl)
  have I := Lib.hid (And.intro hi (And.intro hz0 (And.intro hz1 hz2))); clear hi hz0 hz1 hz2
  have HL := Lib.hid hl; clear hl
  go_enter Tryd.func46, Tryd.ntmps46
  go_wp2
  go_loopw [4, 5] (fun v i wr => ∃ k : Nat, k ≤ 32 ∧ i = .int .i64 ((k : Int) - 1) ∧ ∃ d n : Nat, d = 32 - k ∧ n = 2 * d ∧ wr.ownsRow (w.heap.size + 1) 5 1 v n (((hexT l).take (2 * d)).map fun c => Value.int .u8 (c.toNat : Int)) ∧ Blk wr w.heap.size 38 (u8cells l) ∧ Below w.heap.size w wr) (fun v i _ => (intOf i + 1).toNat)
  case atStart =>
    refine ⟨32, by omega, rfl, 0, 0, rfl, rfl, World.ownsRow_nil _ _ _ _, Blk.newAt _ _ _ rfl, ba (Below.refl _ _) _⟩
  case round =>
    obtain ⟨k, hk, rfl, d, n, hd, hn, ho, h1, hb⟩ := hrel
    by_cases hk0 : k = 0
    · subst hk0
      obtain rfl : d = 32 := by omega
      obtain rfl : n = 64 := by omega
      clear hn
      rw [List.take_of_length_le (by rw [hexT_length]; omega)] at ho
      obtain ⟨va, vc, he, hln, hr, _, _, _⟩ := own_rds ho
      subst he
      have sv := str_of (c := vc) hr hln
      obtain ⟨T, hT⟩ : ∃ T, T = bstr (hexT l) := ⟨_, rfl⟩
      rw [← hT] at sv
      have J := Lib.hid (And.intro hb hT); clear hb hT ho hr hln h1 hd hk
      rw [show ((0 : Nat) : Int) - 1 = -1 from rfl]
      go_wp2
      go_ret
      exact ⟨ret_str J.out.2, J.out.1⟩
    · obtain ⟨s, rfl⟩ : ∃ s, k = s + 1 := ⟨k - 1, by omega⟩
      have es : ((s + 1 : Nat) : Int) - 1 = (s : Int) := by omega
      rw [es]
      have s32 : s < 32 := by omega
      have hs0 : (0 : Int) ≤ (s : Int) := by omega
      have hs32 : (s : Int) < 32 := by omega
      obtain ⟨x, hxx⟩ : ∃ x, x = (l.getD s 0).toNat := ⟨_, rfl⟩
      have hx8 : x < 256 := by rw [hxx]; exact (l.getD s 0).toNat_lt
      obtain ⟨d1, hd1⟩ : ∃ d, d = x / 16 := ⟨_, rfl⟩
      obtain ⟨d2, hd2⟩ : ∃ d, d = x % 16 := ⟨_, rfl⟩
      obtain ⟨va, vc, rfl⟩ := own_slice ho
      have b1 : d1 < 16 := by omega
      have b2 : d2 < 16 := by omega
      have hx0 : ∀ (d : Nat) (hd : d < 16), ∀ w : World, (Instr.index 9 (.string ⟨#[48, 49, 50, 51, 52, 53, 54, 55, 56, 57, 97, 98, 99, 100, 101, 102]⟩) (.int .i64 d)).run Tryd.prog w = .ok (.int .u8 (hx d).toNat) w := fun d hd w => by
        rw [index_str_at (by show d < 16; exact hd), hx_at d hd]
      have cvt : ∀ d : Nat, d < 256 → ∀ w : World, (convert 5 3 (.int .u8 (d : Nat))).run Tryd.prog w = .ok (.int .i64 d) w := fun d hd w => by
        rw [run_convert_int w 5 3 .u8 d (by kernel_rfl) Tryd.underlying3]
        have hk : Tryd.prog.intKind 3 = .i64 := by kernel_rfl
        have e : IntKind.i64.wrap (d : Int) = d := by simp [IntKind.wrap, IntKind.signed, IntKind.bits]; omega
        rw [hk, e]
      have idx : ∀ w' : World, (Instr.indexAt 38 (.pointer (some ⟨w.heap.size, 0, none⟩)) (.int .i64 (s : Nat))).run Tryd.prog w' = .ok (.pointer (some ⟨w.heap.size, s, none⟩)) w' := fun w' => by
        exact idx_h w.heap.size s s32 w'
      have X := Lib.hid (And.intro idx (And.intro (show (u8cells l)[s]? = some (.int .u8 x) by rw [hxx]; exact u8cells_at l s (by have := HL.out; omega)) (And.intro (show IntKind.u8.wrap (Int.tdiv (x : Int) 16) = (d1 : Int) by simp [IntKind.wrap, IntKind.signed, IntKind.bits]; omega) (And.intro (cvt d1 (by omega)) (And.intro (hx0 d1 b1) (And.intro (show Int.tmod (x : Int) 16 = (d2 : Int) by rw [hd2]; rfl) (And.intro (cvt d2 (by omega)) (And.intro (hx0 d2 b2) (And.intro hxx (And.intro hd1 hd2))))))))))
      have H := Lib.hid (And.intro ho (And.intro h1 hb)); clear ho h1 hb hxx hd1 hd2 hx0 cvt idx es
      have hhb : Below w.heap.size w wr := H.out.2.2
      have hsz := H.out.2.1.lt
      go_wp2_with fail
      refine wp_region_app [some 10, some 11, some 12, some 13, some 14, some 15, some 16, some 17, some 18, some 19, some 20, some 21, some 22, some 23, some 24, some 25, some 26, some 4] (fun i => ([.slice va n vc, .string ⟨#[48, 49, 50, 51, 52, 53, 54, 55, 56, 57, 97, 98, 99, 100, 101, 102]⟩, .int .i64 s, .pointer (some ⟨w.heap.size, s, none⟩), .int .u8 x, .int .u8 d1, .int .i64 d1, .int .u8 (hx d1).toNat, .string ⟨#[48, 49, 50, 51, 52, 53, 54, 55, 56, 57, 97, 98, 99, 100, 101, 102]⟩, .int .i64 s, .pointer (some ⟨w.heap.size, s, none⟩), .int .u8 x, .int .u8 d2, .int .i64 d2, .int .u8 (hx d2).toNat] : List Value).getD i undef) 16 2
        (fun w' => Blk w' w.heap.size 38 (u8cells l) ∧ Below w.heap.size w w' ∧ w.heap.size < w'.heap.size) (fun w' => w'.ownsRow (w.heap.size + 1) 5 1 (.slice va n vc) n (((hexT l).take (2 * d)).map fun c => Value.int .u8 (c.toNat : Int)))
        (fun g w' => Blk w' g 5 #[.int .u8 (hx d1).toNat, .int .u8 (hx d2).toNat]) (fun u w' => w'.ownsRow (w.heap.size + 1) 5 1 u (n + 2) ((((hexT l).take (2 * d)) ++ [hx d1, hx d2]).map fun c => Value.int .u8 (c.toNat : Int)))
        (fun w1 w2 hb => ⟨fun h => ⟨h.1.calls hb, bt h.2.1 hb, Nat.lt_of_lt_of_le h.2.2 hb.size⟩, fun h => own_below h hb, fun g h => h.calls hb, fun u h => own_below h hb⟩) (by kernel_rfl) rfl rfl rfl rfl rfl (by omega) rfl (fun o ho => by injection ho with ho; subst ho; rfl) rfl ⟨H.out.2.1, hhb, hsz⟩ H.out.1 ⟨
        .inl ⟨rfl, rfl, fun γ A w' hk hs hd => op_move (.tmp 4) (.inl rfl) ((hd rfl 4 rfl).trans rfl)⟩,
        .inl ⟨rfl, rfl, fun γ A w' hk hs hd => op_move (.tmp 3) (.inl rfl) ((hs.2 3 rfl).trans rfl)⟩,
        .inl ⟨rfl, rfl, fun γ A w' hk hs hd => op_move (.tmp 5) (.inl rfl) ((hs.2 5 rfl).trans rfl)⟩,
        .inl ⟨rfl, rfl, fun γ A w' hk hs hd => op_idxa 38 (.tmp 1) (.tmp 12) rfl ((hs.2 1 rfl).trans rfl) ((hs.1 2 rfl 12 rfl).trans rfl) (X.out.1 _)⟩,
        .inl ⟨rfl, rfl, fun γ A w' hk hs hd => op_cellv 5 (.tmp 13) rfl ⟨w.heap.size, s, none⟩ ((hs.1 3 rfl 13 rfl).trans rfl) (.int .u8 x) (blk_get hk.1 s _ X.out.2.1) _ Tryd.underlying5 rfl⟩,
        .inl ⟨rfl, rfl, fun γ A w' hk hs hd => op_quo8 5 _ (.tmp 14) (.const (.int .u8 16)) .u8 x 16 d1 rfl ((hs.1 4 rfl 14 rfl).trans rfl) rfl (by omega) X.out.2.2.1⟩,
        .inl ⟨rfl, rfl, fun γ A w' hk hs hd => op_cvt 5 3 (.tmp 15) rfl ((hs.1 5 rfl 15 rfl).trans rfl) (X.out.2.2.2.1 _)⟩,
        .inl ⟨rfl, rfl, fun γ A w' hk hs hd => op_idx_str (.tmp 11) (.tmp 16) 9 ⟨#[48, 49, 50, 51, 52, 53, 54, 55, 56, 57, 97, 98, 99, 100, 101, 102]⟩ d1 _ rfl ((hs.1 1 rfl 11 rfl).trans rfl) ((hs.1 6 rfl 16 rfl).trans rfl) (X.out.2.2.2.2.1 _)⟩,
        .inl ⟨rfl, rfl, fun γ A w' hk hs hd => op_move (.tmp 3) (.inl rfl) ((hs.2 3 rfl).trans rfl)⟩,
        .inl ⟨rfl, rfl, fun γ A w' hk hs hd => op_move (.tmp 5) (.inl rfl) ((hs.2 5 rfl).trans rfl)⟩,
        .inl ⟨rfl, rfl, fun γ A w' hk hs hd => op_idxa 38 (.tmp 1) (.tmp 19) rfl ((hs.2 1 rfl).trans rfl) ((hs.1 9 rfl 19 rfl).trans rfl) (X.out.1 _)⟩,
        .inl ⟨rfl, rfl, fun γ A w' hk hs hd => op_cellv 5 (.tmp 20) rfl ⟨w.heap.size, s, none⟩ ((hs.1 10 rfl 20 rfl).trans rfl) (.int .u8 x) (blk_get hk.1 s _ X.out.2.1) _ Tryd.underlying5 rfl⟩,
        .inl ⟨rfl, rfl, fun γ A w' hk hs hd => op_rem8 5 _ (.tmp 21) (.const (.int .u8 16)) .u8 x 16 d2 rfl ((hs.1 11 rfl 21 rfl).trans rfl) rfl (by omega) X.out.2.2.2.2.2.1⟩,
        .inl ⟨rfl, rfl, fun γ A w' hk hs hd => op_cvt 5 3 (.tmp 22) rfl ((hs.1 12 rfl 22 rfl).trans rfl) (X.out.2.2.2.2.2.2.1 _)⟩,
        .inl ⟨rfl, rfl, fun γ A w' hk hs hd => op_idx_str (.tmp 18) (.tmp 23) 9 ⟨#[48, 49, 50, 51, 52, 53, 54, 55, 56, 57, 97, 98, 99, 100, 101, 102]⟩ d2 _ rfl ((hs.1 8 rfl 18 rfl).trans rfl) ((hs.1 13 rfl 23 rfl).trans rfl) (X.out.2.2.2.2.2.2.2.1 _)⟩,
        .inr (.inl ⟨rfl, fun γ A w' hk hs => op_bs2 (hx d1).toNat (hx d2).toNat (.tmp 17) (.tmp 24) rfl ((hs.1 7 rfl 17 rfl).trans rfl) ((hs.1 14 rfl 24 rfl).trans rfl)⟩),
        .inr (.inr ⟨rfl, rfl, fun γ A w' hk hr hc hs => Oper.wp_mono (by
            rintro a' w'' ⟨u, h2, h3, h4⟩
            have hlb := hr.lt
            exact ⟨u, h2, h3, hk.1.grown h4 (fun e => by have := (hlb _ e.symm).1; omega), below_grown hk.2.1 h4 (by omega) (fun k e => by have := (hlb _ e).1; omega), Nat.lt_of_lt_of_le hk.2.2 h4.size⟩)
          (op_appS hr (.tmp 10) (.tmp 25) 26 rfl Tryd.underlying26 i0 I.out.1 I.out.2.1 I.out.2.2.1 I.out.2.2.2 ((hs.1 0 rfl 10 rfl).trans rfl) ⟨γ.1, 0, none⟩ 2 2 [hx d1, hx d2] ((hs.1 15 rfl 25 rfl).trans rfl) (fun j u hu => by
            match j with
            | 0 => injection hu with hu; subst hu; exact blk_get hc 0 _ rfl
            | 1 => injection hu with hu; subst hu; exact blk_get hc 1 _ rfl
            | j + 2 => cases hu) rfl (by omega) (by omega))⟩),
        .inl ⟨rfl, rfl, fun γ A w' hk hs hd => op_move (.tmp 26) (.inr rfl) ((hs.1 16 rfl 26 rfl).trans rfl)⟩,
        trivial⟩ ?_
      rintro ⟨g, u⟩ wz hT hK
      simp only [Fr, if_true, Act.put, List.setIfInBounds_toArray, List.set_cons_zero, List.set_cons_succ]
      have ez : vApp (fun i => ([.slice va n vc, .string ⟨#[48, 49, 50, 51, 52, 53, 54, 55, 56, 57, 97, 98, 99, 100, 101, 102]⟩, .int .i64 s, .pointer (some ⟨w.heap.size, s, none⟩), .int .u8 x, .int .u8 d1, .int .i64 d1, .int .u8 (hx d1).toNat, .string ⟨#[48, 49, 50, 51, 52, 53, 54, 55, 56, 57, 97, 98, 99, 100, 101, 102]⟩, .int .i64 s, .pointer (some ⟨w.heap.size, s, none⟩), .int .u8 x, .int .u8 d2, .int .i64 d2, .int .u8 (hx d2).toNat] : List Value).getD i undef) 16 2 (g, u) 17 = u := rfl
      rw [ez]
      clear ez
      have Z := Lib.hid (And.intro hT hK); clear hT hK H hhb hsz
      generalize vApp (fun i => ([.slice va n vc, .string ⟨#[48, 49, 50, 51, 52, 53, 54, 55, 56, 57, 97, 98, 99, 100, 101, 102]⟩, .int .i64 s, .pointer (some ⟨w.heap.size, s, none⟩), .int .u8 x, .int .u8 d1, .int .i64 d1, .int .u8 (hx d1).toNat, .string ⟨#[48, 49, 50, 51, 52, 53, 54, 55, 56, 57, 97, 98, 99, 100, 101, 102]⟩, .int .i64 s, .pointer (some ⟨w.heap.size, s, none⟩), .int .u8 x, .int .u8 d2, .int .i64 d2, .int .u8 (hx d2).toNat] : List Value).getD i undef) 16 2 (g, u) = vv
      go_wp2
      go_roundw
      case rel =>
        refine ⟨s, by omega, rfl, d + 1, n + 2, by omega, by omega, ?_, Z.out.2.1, Z.out.2.2.1⟩
        have e := hexT_take l d (by omega)
        have e31 : 31 - d = s := by omega
        rw [e31, ← X.out.2.2.2.2.2.2.2.2.1, ← X.out.2.2.2.2.2.2.2.2.2.1, ← X.out.2.2.2.2.2.2.2.2.2.2] at e
        rw [show 2 * (d + 1) = 2 * d + 2 by omega, ← e]
        exact Z.out.1
      case measure => simp [intOf]; try omega
theorem foldl_split (b : List UInt8) : ∀ v : Nat, b.foldl (fun a x => a * 256 + x.toNat) v = v * 256 ^ b.length + fbV b := by
  induction b with
  | nil => intro v; simp [fbV]
  | cons c b ih =>
    intro v
    have h1 := ih (v * 256 + c.toNat)
    have h2 := ih (0 * 256 + c.toNat)
    unfold fbV at *
    simp only [List.foldl_cons, List.length_cons] at *
    rw [h1, h2, Nat.pow_succ, Nat.add_mul, Nat.zero_mul, Nat.zero_add]
    have : v * 256 * 256 ^ b.length = v * (256 ^ b.length * 256) := by rw [Nat.mul_assoc, Nat.mul_comm 256]
    omega
theorem fbV_cons (c : UInt8) (b : List UInt8) : fbV (c :: b) = c.toNat * 256 ^ b.length + fbV b := by
  have := foldl_split b (0 * 256 + c.toNat)
  rw [Nat.zero_mul, Nat.zero_add] at this
  unfold fbV at *
  rw [List.foldl_cons, Nat.zero_mul, Nat.zero_add]
  exact this
theorem fbV_rev (l : List UInt8) : ∀ k, k ≤ l.length → fbV (l.take k).reverse = leN l k := by
  intro k
  induction k with
  | zero => intro _; simp [fbV, leN_0]
  | succ k ih =>
    intro h
    rw [take_snocD l k h, List.reverse_append, List.reverse_singleton, List.singleton_append, fbV_cons, ih (by omega), leN_succ]
    rw [List.length_reverse, List.length_take, Nat.min_eq_left (by omega)]
    omega
theorem rev_take (l : List UInt8) (d : Nat) (h : d < l.length) : l.reverse.take d ++ [l.getD (l.length - 1 - d) 0] = l.reverse.take (d + 1) := by
  rw [List.take_add_one]
  congr 1
  rw [List.getElem?_eq_getElem (by simpa using h), List.getElem_reverse]
  simp [List.getD, List.getElem?_eq_getElem (show l.length - 1 - d < l.length by omega)]
set_option maxRecDepth 100000 in
set_option maxHeartbeats 2000000 in
theorem HRNumber_any (l : List UInt8) (hl : l.length = 32) (w : World) :
    Calls Tryd.prog 45 #[.agg (u8cells l)] w fun e w' => e = .returned (uval (leN l 32)) ∧ Below w.heap.size w w' := by
  obtain ⟨i0, hi, hz0, hz1, hz2⟩ := info_parts (show (Tryd.prog.info? 5).map (fun i => (i.zero, i.size, i.bytes)) = some (some (.int .u8 0), 1, 1) by kernel_rfl)
  have I := Lib.hid (And.intro hi (And.intro hz0 (And.intro hz1 hz2))); clear hi hz0 hz1 hz2
  obtain ⟨U, hU⟩ : ∃ U, U = ucells (leN l 32) := ⟨_, rfl⟩
  have uU : uval (leN l 32) = .agg U := by rw [hU]; rfl
  have sU : U.size = 4 := by rw [hU]; rfl
  have aU : U.all (·.oneCell') = true := by rw [hU]; exact u_one _
  have iU := isR4 U sU
  have zU : (#[.int .u64 0, .int .u64 0, .int .u64 0, .int .u64 0] : Array Value).size = U.size := by rw [sU]; rfl
  have hfb : fbV l.reverse = leN l 32 := by
    have := fbV_rev l 32 (by omega)
    rw [List.take_of_length_le (by omega)] at this
    exact this
  rw [uU]
  have HL := Lib.hid (And.intro hl (And.intro hfb uU)); clear hl hfb uU hU sU
  go_enter Tryd.func45, Tryd.ntmps45
  go_wp2
  go_loopw [3, 4] (fun v i wr => ∃ k : Nat, k ≤ 32 ∧ i = .int .i64 ((k : Int) - 1) ∧ ∃ d : Nat, d = 32 - k ∧ wr.ownsRow (w.heap.size + 2) 5 1 v d ((l.reverse.take d).map fun c => Value.int .u8 (c.toNat : Int)) ∧ Blk wr w.heap.size 38 (u8cells l) ∧ Blk wr (w.heap.size + 1) 58 #[.int .u64 0, .int .u64 0, .int .u64 0, .int .u64 0] ∧ Below w.heap.size w wr) (fun v i _ => (intOf i + 1).toNat)
  case atStart =>
    refine ⟨32, by omega, rfl, 0, rfl, World.ownsRow_nil _ _ _ _, (Blk.newAt _ _ _ rfl).alloc _, Blk.second w _ _ _, ba (ba (Below.refl _ _) _) _⟩
  case round =>
    obtain ⟨k, hk, rfl, d, hd, ho, h1, h2, hb⟩ := hrel
    have z1 := h2.lt
    by_cases hk0 : k = 0
    · subst hk0
      obtain rfl : d = 32 := by omega
      rw [List.take_of_length_le (by rw [List.length_reverse, HL.out.1]; omega)] at ho
      obtain ⟨va, vc, he, hln, hr, _, _, _⟩ := own_rds ho
      subst he
      have cF := RFromBytes_any va 32 vc l.reverse wr hln (by omega) hr
      rw [HL.out.2.1, HL.out.2.2] at cF
      have J := Lib.hid (And.intro hb (And.intro h2 cF)); clear hb h2 cF ho hr hln h1 hd hk
      rw [show ((0 : Nat) : Int) - 1 = -1 from rfl]
      go_wp2_with fail
      refine J.out.2.2.mono ?_
      rintro e w1 ⟨rfl, hb1⟩
      have N : Blk _ w1.heap.size 58 #[.int .u64 0, .int .u64 0, .int .u64 0, .int .u64 0] := Blk.new w1 58 #[.int .u64 0, .int .u64 0, .int .u64 0, .int .u64 0]
      have D2 := J.out.2.1.calls hb1
      have z2 := D2.lt
      have DB := bt J.out.1 hb1
      have E := Lib.hid (And.intro N (And.intro (N.row U) (And.intro (((D2.alloc (.cells #[.int .u64 0, .int .u64 0, .int .u64 0, .int .u64 0] 58)).rowFar (show w.heap.size + 1 ≠ w1.heap.size by omega) U)) (setRow_below (ba DB (.cells #[.int .u64 0, .int .u64 0, .int .u64 0, .int .u64 0] 58)) (show w.heap.size ≤ w1.heap.size by omega) U)))); clear N D2 DB hb1 J
      go_wp2_with (first | with_reducible refine ws_row E.out.1 _ _ _ _ rfl rfl rfl rfl iU zU aU ?_ | with_reducible refine wl_row E.out.2.1 _ _ rfl rfl rfl _ _ Tryd.underlying58 iU ?_ | with_reducible refine ws_row E.out.2.2.1 _ _ _ _ rfl rfl rfl rfl iU zU aU ?_)
      refine bodyPost_ret (v := .agg U) ?_ rfl ⟨rfl, setRow_below E.out.2.2.2 (by omega) _⟩
      exact results_cell_row rfl _ _ _ _ _ (0, 0) _ rfl (E.out.2.2.1.row _) Tryd.underlying58 rfl iU
    · obtain ⟨s, rfl⟩ : ∃ s, k = s + 1 := ⟨k - 1, by omega⟩
      have es : ((s + 1 : Nat) : Int) - 1 = (s : Int) := by omega
      rw [es]
      have s32 : s < 32 := by omega
      have hs0 : (0 : Int) ≤ (s : Int) := by omega
      have hs32 : (s : Int) < 32 := by omega
      obtain ⟨x, hxx⟩ : ∃ x, x = l.getD s 0 := ⟨_, rfl⟩
      obtain ⟨va, vc, rfl⟩ := own_slice ho
      have c1 := blk_get h1 s _ (u8cells_at l s (by have := HL.out.1; omega))
      rw [← hxx] at c1
      have H := Lib.hid (And.intro ho (And.intro h1 (And.intro h2 (And.intro hb (And.intro hxx hd))))); clear ho h1 h2 hb hxx hd es hk hk0
      go_wp2_with (at_builtin; refine wl_one (H.out.1.alloc _) rfl _ _ 26 rfl Tryd.underlying26 i0 I.out.1 I.out.2.1 I.out.2.2.1 I.out.2.2.2 rfl wr.heap.size 1 x rfl (by rw [(Blk.new wr _ _).cell]; rfl) (by have := H.out.2.2.2.2.2; omega) (by simp; omega) ?_)
      intro v' w2 ho hg hnil
      have hlb := H.out.1.lt
      have B1 := (H.out.2.1.alloc (.cells #[.int .u8 x.toNat] 5)).grown hg (fun e => by have := (hlb _ e.symm).1; omega)
      have B2 := (H.out.2.2.1.alloc (.cells #[.int .u8 x.toNat] 5)).grown hg (fun e => by have := (hlb _ e.symm).1; omega)
      have BB := below_grown (ba H.out.2.2.2.1 (.cells #[.int .u8 x.toNat] 5)) hg (by simp; omega) (fun k e => by have := (hlb _ e).1; omega)
      have G := Lib.hid (And.intro ho (And.intro B1 (And.intro B2 BB))); clear ho B1 B2 BB hg hnil hlb
      go_wp2
      go_roundw
      case rel =>
        refine ⟨s, by omega, rfl, d + 1, by have := H.out.2.2.2.2.2; omega, ?_, G.out.2.1, G.out.2.2.1, G.out.2.2.2⟩
        have hd := H.out.2.2.2.2.2
        have e := rev_take l d (by have := HL.out.1; omega)
        rw [show l.length - 1 - d = s by have := HL.out.1; omega, ← H.out.2.2.2.2.1] at e
        rw [← e]
        have g := G.out.1
        simpa [List.map_take, List.map_reverse] using g
      case measure => simp [intOf]; try omega
set_option maxRecDepth 100000 in
set_option maxHeartbeats 2000000 in
theorem HRFromNumber_any (m : Nat) (hm : m < T) (w : World) :
    Calls Tryd.prog 48 #[uval m] w fun e w' => e = .returned (.agg (u8cells (leB m))) ∧ Below w.heap.size w w' := by
  obtain ⟨U, hU⟩ : ∃ U, U = ucells m := ⟨_, rfl⟩
  have uU : uval m = .agg U := by rw [hU]; rfl
  have sU : U.size = 4 := by rw [hU]; rfl
  have iU := isR4 U sU
  have cB := fun w => RBytes_any m w hm
  obtain ⟨b, hbe⟩ : ∃ b, b = byB m 32 := ⟨_, rfl⟩
  have hbl : b.length = 32 := by rw [hbe]; exact byB_length m 32
  obtain ⟨L, hLe⟩ : ∃ L, L = leB m := ⟨_, rfl⟩
  have hLl : L.length = 32 := by rw [hLe]; exact leB_length m
  have hbL : ∀ i, i < 32 → b.getD (31 - i) 0 = L.getD i 0 := fun i hi => by
    rw [hbe, hLe, byB_at m 32 (31 - i) (by omega), show 32 - 1 - (31 - i) = i by omega]
    simp [leB, List.getD, List.getElem?_range hi]
  rw [uU] at cB ⊢
  rw [← hbe] at cB
  rw [← hLe]
  have sb : (u8cells b).size = 32 := by rw [u8cells_size, hbl]
  have ib : (Tryd.prog.info? 37).map (·.size) = some (u8cells b).size := by rw [sb]; kernel_rfl
  have zb : (#[.int .u8 0, .int .u8 0, .int .u8 0, .int .u8 0, .int .u8 0, .int .u8 0, .int .u8 0, .int .u8 0, .int .u8 0, .int .u8 0, .int .u8 0, .int .u8 0, .int .u8 0, .int .u8 0, .int .u8 0, .int .u8 0, .int .u8 0, .int .u8 0, .int .u8 0, .int .u8 0, .int .u8 0, .int .u8 0, .int .u8 0, .int .u8 0, .int .u8 0, .int .u8 0, .int .u8 0, .int .u8 0, .int .u8 0, .int .u8 0, .int .u8 0, .int .u8 0] : Array Value).size = (u8cells b).size := by rw [sb]; rfl
  have ab := u8cells_one b
  have HF := Lib.hid (And.intro hbL (And.intro hbl (And.intro hLl hU))); clear hbL hbl hLl hU hbe hLe sU sb
  have CB := Lib.hid cB; clear cB
  go_enter Tryd.func48, Tryd.ntmps48
  go_wp2_with (with_reducible refine wl_row ((Blk.newAt w _ U rfl).alloc _) _ _ rfl rfl rfl _ _ Tryd.underlying58 iU ?_)
  refine (CB.out _).mono ?_
  rintro e w1 ⟨rfl, hb1⟩
  have A1 : Blk w1 (w.heap.size + 1) 38 #[.int .u8 0, .int .u8 0, .int .u8 0, .int .u8 0, .int .u8 0, .int .u8 0, .int .u8 0, .int .u8 0, .int .u8 0, .int .u8 0, .int .u8 0, .int .u8 0, .int .u8 0, .int .u8 0, .int .u8 0, .int .u8 0, .int .u8 0, .int .u8 0, .int .u8 0, .int .u8 0, .int .u8 0, .int .u8 0, .int .u8 0, .int .u8 0, .int .u8 0, .int .u8 0, .int .u8 0, .int .u8 0, .int .u8 0, .int .u8 0, .int .u8 0, .int .u8 0] := (Blk.second w _ _ _).calls hb1
  have AB : Below w.heap.size w w1 := bt (ba (ba (Below.refl _ _) _) _) hb1
  have z1 := A1.lt
  have N : Blk _ w1.heap.size 37 #[.int .u8 0, .int .u8 0, .int .u8 0, .int .u8 0, .int .u8 0, .int .u8 0, .int .u8 0, .int .u8 0, .int .u8 0, .int .u8 0, .int .u8 0, .int .u8 0, .int .u8 0, .int .u8 0, .int .u8 0, .int .u8 0, .int .u8 0, .int .u8 0, .int .u8 0, .int .u8 0, .int .u8 0, .int .u8 0, .int .u8 0, .int .u8 0, .int .u8 0, .int .u8 0, .int .u8 0, .int .u8 0, .int .u8 0, .int .u8 0, .int .u8 0, .int .u8 0] := Blk.new w1 37 #[.int .u8 0, .int .u8 0, .int .u8 0, .int .u8 0, .int .u8 0, .int .u8 0, .int .u8 0, .int .u8 0, .int .u8 0, .int .u8 0, .int .u8 0, .int .u8 0, .int .u8 0, .int .u8 0, .int .u8 0, .int .u8 0, .int .u8 0, .int .u8 0, .int .u8 0, .int .u8 0, .int .u8 0, .int .u8 0, .int .u8 0, .int .u8 0, .int .u8 0, .int .u8 0, .int .u8 0, .int .u8 0, .int .u8 0, .int .u8 0, .int .u8 0, .int .u8 0]
  have A := Lib.hid (And.intro N (And.intro (N.row (u8cells b)) (And.intro ((A1.alloc (.cells #[.int .u8 0, .int .u8 0, .int .u8 0, .int .u8 0, .int .u8 0, .int .u8 0, .int .u8 0, .int .u8 0, .int .u8 0, .int .u8 0, .int .u8 0, .int .u8 0, .int .u8 0, .int .u8 0, .int .u8 0, .int .u8 0, .int .u8 0, .int .u8 0, .int .u8 0, .int .u8 0, .int .u8 0, .int .u8 0, .int .u8 0, .int .u8 0, .int .u8 0, .int .u8 0, .int .u8 0, .int .u8 0, .int .u8 0, .int .u8 0, .int .u8 0, .int .u8 0] 37)).rowFar (show w.heap.size + 1 ≠ w1.heap.size by omega) (u8cells b)) (setRow_below (ba AB (.cells #[.int .u8 0, .int .u8 0, .int .u8 0, .int .u8 0, .int .u8 0, .int .u8 0, .int .u8 0, .int .u8 0, .int .u8 0, .int .u8 0, .int .u8 0, .int .u8 0, .int .u8 0, .int .u8 0, .int .u8 0, .int .u8 0, .int .u8 0, .int .u8 0, .int .u8 0, .int .u8 0, .int .u8 0, .int .u8 0, .int .u8 0, .int .u8 0, .int .u8 0, .int .u8 0, .int .u8 0, .int .u8 0, .int .u8 0, .int .u8 0, .int .u8 0, .int .u8 0] 37)) (show w.heap.size ≤ w1.heap.size by omega) (u8cells b))))); clear N A1 AB hb1
  go_wp2_with (with_reducible refine ws_row A.out.1 _ _ _ _ rfl rfl rfl rfl ib zb ab ?_)
  have A3 := Lib.hid A.out.2; clear A
  generalize hg3 : w1.heap.size = g3 at *
  have hsz : (World.setRow (w1.alloc (.cells #[.int .u8 0, .int .u8 0, .int .u8 0, .int .u8 0, .int .u8 0, .int .u8 0, .int .u8 0, .int .u8 0, .int .u8 0, .int .u8 0, .int .u8 0, .int .u8 0, .int .u8 0, .int .u8 0, .int .u8 0, .int .u8 0, .int .u8 0, .int .u8 0, .int .u8 0, .int .u8 0, .int .u8 0, .int .u8 0, .int .u8 0, .int .u8 0, .int .u8 0, .int .u8 0, .int .u8 0, .int .u8 0, .int .u8 0, .int .u8 0, .int .u8 0, .int .u8 0] 37)) g3 (u8cells b)).heap.size = g3 + 1 := by simp [World.setRow, hg3]
  generalize World.setRow _ _ _ = w2 at *
  have e0 : (partB L 0) = (#[.int .u8 0, .int .u8 0, .int .u8 0, .int .u8 0, .int .u8 0, .int .u8 0, .int .u8 0, .int .u8 0, .int .u8 0, .int .u8 0, .int .u8 0, .int .u8 0, .int .u8 0, .int .u8 0, .int .u8 0, .int .u8 0, .int .u8 0, .int .u8 0, .int .u8 0, .int .u8 0, .int .u8 0, .int .u8 0, .int .u8 0, .int .u8 0, .int .u8 0, .int .u8 0, .int .u8 0, .int .u8 0, .int .u8 0, .int .u8 0, .int .u8 0, .int .u8 0] : Array Value) := by rw [partB_zero, HF.out.2.2.1]; rfl
  have E0 := Lib.hid e0; clear e0
  go_loopw [5] (fun i wr => ∃ k : Nat, k ≤ 32 ∧ i = .int .i64 k ∧ Blk wr g3 37 (u8cells b) ∧ Blk wr (w.heap.size + 1) 38 #[.int .u8 0, .int .u8 0, .int .u8 0, .int .u8 0, .int .u8 0, .int .u8 0, .int .u8 0, .int .u8 0, .int .u8 0, .int .u8 0, .int .u8 0, .int .u8 0, .int .u8 0, .int .u8 0, .int .u8 0, .int .u8 0, .int .u8 0, .int .u8 0, .int .u8 0, .int .u8 0, .int .u8 0, .int .u8 0, .int .u8 0, .int .u8 0, .int .u8 0, .int .u8 0, .int .u8 0, .int .u8 0, .int .u8 0, .int .u8 0, .int .u8 0, .int .u8 0] ∧ Blk wr (g3 + 1) 38 (partB L k) ∧ Below w.heap.size w wr) (fun i _ => 32 - (intOf i).toNat)
  case atStart =>
    refine ⟨0, by omega, rfl, A3.out.1.alloc _, A3.out.2.1.alloc _, ?_, ba A3.out.2.2 _⟩
    rw [E0.out]
    exact Blk.newAt w2 _ _ hsz.symm
  case round =>
    obtain ⟨k, hk, rfl, h3, h1, h4, hb⟩ := hrel
    by_cases hlt : k < 32
    · obtain ⟨p, hp⟩ : ∃ p, p = 31 - k := ⟨_, rfl⟩
      have ip : (31 : Int) - (k : Int) = (p : Int) := by omega
      have p32 : p < 32 := by omega
      have k32 : (k : Int) < 32 := by omega
      obtain ⟨x, hx⟩ : ∃ x, x = (L.getD k 0).toNat := ⟨_, rfl⟩
      have cb := blk_get h3 p _ (u8cells_at b p (by have := HF.out.2.1; omega))
      rw [hp, HF.out.1 k hlt, ← hx, ← hp] at cb
      obtain ⟨v1, hv1⟩ := partB_at L k k (by have := HF.out.2.2.1; omega)
      have c4 := blk_get h4 k _ hv1
      have f4 := h4.frozen k
      have H := Lib.hid (And.intro h3 (And.intro h1 (And.intro h4 (And.intro hb (And.intro hp hx))))); clear h3 h1 h4 hb hp hx hv1
      go_wp2
      obtain ⟨h3, h1, h4, hb, hp, hx⟩ := H.out
      go_roundw
      case rel =>
        refine ⟨k + 1, by omega, by go_num, h3.far (by omega) _, h1.far (by omega) _, ?_, hb.setCell (by simp; omega) _⟩
        have s0 := partB_set L k (by have := HF.out.2.2.1; omega)
        rw [← hx] at s0
        rw [← s0]
        exact h4.set_ k _
      case measure => simp [intOf]; omega
    · obtain rfl : k = 32 := by omega
      rw [partB_full L 32 HF.out.2.2.1] at h4
      have sL : (u8cells L).size = 32 := by rw [u8cells_size, HF.out.2.2.1]
      have iL : (Tryd.prog.info? 38).map (·.size) = some (u8cells L).size := by rw [sL]; kernel_rfl
      have zL : (#[.int .u8 0, .int .u8 0, .int .u8 0, .int .u8 0, .int .u8 0, .int .u8 0, .int .u8 0, .int .u8 0, .int .u8 0, .int .u8 0, .int .u8 0, .int .u8 0, .int .u8 0, .int .u8 0, .int .u8 0, .int .u8 0, .int .u8 0, .int .u8 0, .int .u8 0, .int .u8 0, .int .u8 0, .int .u8 0, .int .u8 0, .int .u8 0, .int .u8 0, .int .u8 0, .int .u8 0, .int .u8 0, .int .u8 0, .int .u8 0, .int .u8 0, .int .u8 0] : Array Value).size = (u8cells L).size := by rw [sL]; rfl
      have aL := u8cells_one L
      have K := Lib.hid (And.intro h4 (And.intro h1 hb)); clear h3 h4 h1 hb sL
      rw [show ((32 : Nat) : Int) = 32 from rfl]
      go_wp2_with (first | with_reducible refine wl_row K.out.1 _ _ rfl rfl rfl _ _ Tryd.underlying38 iL ?_ | with_reducible refine ws_row K.out.2.1 _ _ _ _ rfl rfl rfl rfl iL zL aL ?_)
      refine bodyPost_ret (v := .agg (u8cells L)) ?_ rfl ⟨rfl, setRow_below K.out.2.2 (by omega) _⟩
      exact results_cell_row rfl _ _ _ _ _ (0, 0) _ rfl (K.out.2.1.row _) Tryd.underlying38 rfl iL
end Go.Proofs.YtfebknplkbeblaaDoor

namespace Go.Proofs.YtfebknplkbeblaaDoor
open Go.RowKit
set_option linter.unusedVariables false
set_option maxRecDepth 100000 in
set_option maxHeartbeats 1000000 in
theorem Double_any (a' : Option Addr) (t : List UInt8) (m c' : Nat) (hm : t.length = m) (hc : m ≤ c') (hc2 : m ≤ 140737488355328 ∧ c' ≤ 9223372036854775807) (hno : a' = none → m = 0 ∧ c' = 0) (w : World) (hr : RdS w a' t) (hL : Laid w) :
    Calls Tryd.prog 29 #[.slice a' m c'] w fun e w' => e = .returned (.agg (u8cells (sumOf (sumOf t)))) ∧ Below w.heap.size w w' := by
  obtain ⟨S, hS⟩ : ∃ S, S = sumOf t := ⟨_, rfl⟩
  have hSl : S.length = 32 := by rw [hS]; exact sumOf_length t
  obtain ⟨C1, hC1⟩ : ∃ C, C = u8cells S := ⟨_, rfl⟩
  obtain ⟨C, hC⟩ : ∃ C, C = u8cells (sumOf S) := ⟨_, rfl⟩
  have sC : C.size = 32 := by rw [hC, u8cells_size]; exact sumOf_length S
  have sC1 : C1.size = 32 := by rw [hC1, u8cells_size]; exact hSl
  have iC : (Tryd.prog.info? 38).map (·.size) = some C.size := by rw [sC]; kernel_rfl
  have iC1 : (Tryd.prog.info? 38).map (·.size) = some C1.size := by rw [sC1]; kernel_rfl
  have aC : C.all (·.oneCell') = true := by rw [hC]; exact u8cells_one _
  have aC1 : C1.all (·.oneCell') = true := by rw [hC1]; exact u8cells_one _
  have s1 : (Array.size (#[.int .u8 0, .int .u8 0, .int .u8 0, .int .u8 0, .int .u8 0, .int .u8 0, .int .u8 0, .int .u8 0, .int .u8 0, .int .u8 0, .int .u8 0, .int .u8 0, .int .u8 0, .int .u8 0, .int .u8 0, .int .u8 0, .int .u8 0, .int .u8 0, .int .u8 0, .int .u8 0, .int .u8 0, .int .u8 0, .int .u8 0, .int .u8 0, .int .u8 0, .int .u8 0, .int .u8 0, .int .u8 0, .int .u8 0, .int .u8 0, .int .u8 0, .int .u8 0] : Array Value)) = C1.size := by rw [sC1]; rfl
  have s2 : (Array.size (#[.int .u8 0, .int .u8 0, .int .u8 0, .int .u8 0, .int .u8 0, .int .u8 0, .int .u8 0, .int .u8 0, .int .u8 0, .int .u8 0, .int .u8 0, .int .u8 0, .int .u8 0, .int .u8 0, .int .u8 0, .int .u8 0, .int .u8 0, .int .u8 0, .int .u8 0, .int .u8 0, .int .u8 0, .int .u8 0, .int .u8 0, .int .u8 0, .int .u8 0, .int .u8 0, .int .u8 0, .int .u8 0, .int .u8 0, .int .u8 0, .int .u8 0, .int .u8 0] : Array Value)) = C.size := by rw [sC]; rfl
  rw [← hS, ← hC]
  have F := Lib.hid (And.intro hm (And.intro hr (And.intro hL (And.intro hC (And.intro hS (And.intro hC1 hSl)))))); clear hm hr hL hC hS hC1 hSl sC sC1
  go_enter Tryd.func29, Tryd.ntmps29
  go_wp2_with fail
  refine (Sum_any a' t m c' F.out.1 hc hc2 hno _ (F.out.2.1.below (ba (Below.refl _ _) _) (Nat.le_refl _)) (F.out.2.2.1.below (ba (Below.refl _ _) _) (Nat.le_refl _))).mono ?_
  rintro e w1 ⟨rfl, hb1⟩
  rw [← F.out.2.2.2.2.1, ← F.out.2.2.2.2.2.1]
  have A0 : Blk w1 w.heap.size 38 #[.int .u8 0, .int .u8 0, .int .u8 0, .int .u8 0, .int .u8 0, .int .u8 0, .int .u8 0, .int .u8 0, .int .u8 0, .int .u8 0, .int .u8 0, .int .u8 0, .int .u8 0, .int .u8 0, .int .u8 0, .int .u8 0, .int .u8 0, .int .u8 0, .int .u8 0, .int .u8 0, .int .u8 0, .int .u8 0, .int .u8 0, .int .u8 0, .int .u8 0, .int .u8 0, .int .u8 0, .int .u8 0, .int .u8 0, .int .u8 0, .int .u8 0, .int .u8 0] := (Blk.new w _ _).calls hb1
  have AB : Below w.heap.size w w1 := bt (ba (Below.refl _ _) _) hb1
  have z0 := A0.lt
  have N : Blk _ w1.heap.size 38 #[.int .u8 0, .int .u8 0, .int .u8 0, .int .u8 0, .int .u8 0, .int .u8 0, .int .u8 0, .int .u8 0, .int .u8 0, .int .u8 0, .int .u8 0, .int .u8 0, .int .u8 0, .int .u8 0, .int .u8 0, .int .u8 0, .int .u8 0, .int .u8 0, .int .u8 0, .int .u8 0, .int .u8 0, .int .u8 0, .int .u8 0, .int .u8 0, .int .u8 0, .int .u8 0, .int .u8 0, .int .u8 0, .int .u8 0, .int .u8 0, .int .u8 0, .int .u8 0] := Blk.new w1 38 #[.int .u8 0, .int .u8 0, .int .u8 0, .int .u8 0, .int .u8 0, .int .u8 0, .int .u8 0, .int .u8 0, .int .u8 0, .int .u8 0, .int .u8 0, .int .u8 0, .int .u8 0, .int .u8 0, .int .u8 0, .int .u8 0, .int .u8 0, .int .u8 0, .int .u8 0, .int .u8 0, .int .u8 0, .int .u8 0, .int .u8 0, .int .u8 0, .int .u8 0, .int .u8 0, .int .u8 0, .int .u8 0, .int .u8 0, .int .u8 0, .int .u8 0, .int .u8 0]
  have R := N.row C1
  have R0 := (A0.alloc (.cells #[.int .u8 0, .int .u8 0, .int .u8 0, .int .u8 0, .int .u8 0, .int .u8 0, .int .u8 0, .int .u8 0, .int .u8 0, .int .u8 0, .int .u8 0, .int .u8 0, .int .u8 0, .int .u8 0, .int .u8 0, .int .u8 0, .int .u8 0, .int .u8 0, .int .u8 0, .int .u8 0, .int .u8 0, .int .u8 0, .int .u8 0, .int .u8 0, .int .u8 0, .int .u8 0, .int .u8 0, .int .u8 0, .int .u8 0, .int .u8 0, .int .u8 0, .int .u8 0] 38)).rowFar (show w.heap.size ≠ w1.heap.size by omega) C1
  have RB := setRow_below (ba AB (.cells #[.int .u8 0, .int .u8 0, .int .u8 0, .int .u8 0, .int .u8 0, .int .u8 0, .int .u8 0, .int .u8 0, .int .u8 0, .int .u8 0, .int .u8 0, .int .u8 0, .int .u8 0, .int .u8 0, .int .u8 0, .int .u8 0, .int .u8 0, .int .u8 0, .int .u8 0, .int .u8 0, .int .u8 0, .int .u8 0, .int .u8 0, .int .u8 0, .int .u8 0, .int .u8 0, .int .u8 0, .int .u8 0, .int .u8 0, .int .u8 0, .int .u8 0, .int .u8 0] 38)) (show w.heap.size ≤ w1.heap.size from AB.size) C1
  have A := Lib.hid (And.intro N (And.intro R (And.intro R0 RB))); clear A0 AB N R R0 RB hb1
  go_wp2_with (with_reducible refine ws_row A.out.1 _ _ _ _ rfl rfl rfl rfl iC1 s1 aC1 ?_)
  refine (Sum_any (some ⟨w1.heap.size, 0, none⟩) S 32 32 F.out.2.2.2.2.2.2 (by omega) (by omega) (fun h => by cases h) _ (.inr ⟨w1.heap.size, 0, rfl, A.out.2.1.lt, fun i hi => (A.out.2.1.cell (0 + i)).trans (by rw [Nat.zero_add, F.out.2.2.2.2.2.1]; exact u8cells_at S i hi)⟩) (F.out.2.2.1.below A.out.2.2.2 (Nat.le_refl _))).mono ?_
  rintro e w2 ⟨rfl, hb2⟩
  rw [← F.out.2.2.2.1]
  have D := Lib.hid (And.intro (A.out.2.2.1.calls hb2) (bt A.out.2.2.2 hb2)); clear hb2 A
  go_wp2_with (with_reducible refine ws_row D.out.1 _ _ _ _ rfl rfl rfl rfl iC s2 aC ?_)
  refine bodyPost_ret (v := .agg C) ?_ rfl ⟨rfl, setRow_below D.out.2 (Nat.le_refl _) _⟩
  exact results_cell_row rfl _ _ _ _ _ (0, 0) _ rfl (D.out.1.row _) Tryd.underlying38 rfl iC
end Go.Proofs.YtfebknplkbeblaaDoor

namespace Go.Proofs.YtfebknplkbeblaaDoor
open Go.RowKit
set_option linter.unusedVariables false
set_option maxRecDepth 100000 in
theorem HCmp_any (a b : List UInt8) (ha : a.length = 32) (hb : b.length = 32) (c : Int) (hc : CmpIs (leN a 32) (leN b 32) c) (w : World) :
    Calls Tryd.prog 39 #[.agg (u8cells a), .agg (u8cells b)] w fun e w' => e = .returned (.int .i64 c) ∧ Below w.heap.size w w' := by
  have n1 := fun w => Number_any a ha w
  have n2 := fun w => Number_any b hb w
  have i1 := isH a ha
  have i2 := isH b hb
  obtain ⟨A1, hA1⟩ : ∃ A, A = u8cells a := ⟨_, rfl⟩
  obtain ⟨A2, hA2⟩ : ∃ A, A = u8cells b := ⟨_, rfl⟩
  rw [← hA1] at n1 i1 ⊢
  rw [← hA2] at n2 i2 ⊢
  generalize leN a 32 = m at *
  generalize leN b 32 = n at *
  have bb : Below w.heap.size w ((w.alloc (.cells A1 38)).alloc (.cells A2 38)) := ba (ba (Below.refl _ _) _) _
  have B1 : Blk ((w.alloc (.cells A1 38)).alloc (.cells A2 38)) w.heap.size 38 A1 := (Blk.newAt w _ A1 rfl).alloc _
  have B2 : Blk ((w.alloc (.cells A1 38)).alloc (.cells A2 38)) (w.heap.size + 1) 38 A2 := Blk.second w _ _ _
  have F := Lib.hid (And.intro B1 (And.intro B2 bb)); clear B1 B2 bb hA1 hA2
  go_enter Tryd.func39, Tryd.ntmps39
  go_wp2_with fail
  try simp only [List.append_eq, List.cons_append, List.nil_append]
  refine wp_region_g [some 5, some 6, some 7, some 8, some 9, some 4] (FL [
      EqV (.agg A1),
      EqV (uval m),
      EqV (.agg A2),
      EqV (uval n),
      EqV (.int .i64 c),
      EqV (.int .i64 c)
    ]) (FL_keeps ⟨keeps_eq _, keeps_eq _, keeps_eq _, keeps_eq _, keeps_eq _, keeps_eq _, trivial⟩) (by kernel_rfl) rfl rfl rfl rfl ⟨
    .inr ⟨gk0 rfl, fun A w' γ hb hF hs => g_eq (op_load 38 (.tmp 2) rfl ((hs.2 2 rfl).trans rfl) (F.out.1.below hb F.out.1.lt) Tryd.underlying38 (i1))⟩,
    .inr ⟨gk0 rfl, fun A w' γ hb hF hs => g_eq (op_call 44 #[.agg A1] (exec_call _ 44 #[.agg A1] rfl rfl (margs1 ((hs.1 0 rfl 5 rfl).trans (hF 0 rfl))) Tryd.func44 rfl rfl) (n1 w'))⟩,
    .inr ⟨gk0 rfl, fun A w' γ hb hF hs => g_eq (op_load 38 (.tmp 3) rfl ((hs.2 3 rfl).trans rfl) (F.out.2.1.below hb F.out.2.1.lt) Tryd.underlying38 (i2))⟩,
    .inr ⟨gk0 rfl, fun A w' γ hb hF hs => g_eq (op_call 44 #[.agg A2] (exec_call _ 44 #[.agg A2] rfl rfl (margs1 ((hs.1 2 rfl 7 rfl).trans (hF 2 rfl))) Tryd.func44 rfl rfl) (n2 w'))⟩,
    .inr ⟨gk0 rfl, fun A w' γ hb hF hs => g_eq (op_call 56 #[uval m, uval n] (exec_call _ 56 #[uval m, uval n] rfl rfl (margs2 ((hs.1 1 rfl 6 rfl).trans (hF 1 rfl)) ((hs.1 3 rfl 8 rfl).trans (hF 3 rfl))) Tryd.func56 rfl rfl) (Cmp_any m n c w' hc))⟩,
    .inr ⟨gk0 rfl, fun A w' γ hb hF hs => g_eq (op_move (.tmp 9) (.inr rfl) ((hs.1 4 rfl 9 rfl).trans (hF 4 rfl)))⟩,
    trivial⟩ ?_
  intro γ w' hb hF
  have bz := bt F.out.2.2 hb
  have ez : γ 5 = .int .i64 c := hF 5 (by decide)
  simp only [Fr, if_true, Act.put, List.setIfInBounds_toArray, List.set_cons_zero, List.set_cons_succ]
  rw [ez]
  go_wp2
  go_ret
  exact ⟨rfl, bz⟩
theorem bstr_toList (l : List UInt8) : (bstr l).toList = l := by
  rw [Lib.toList_data]
  rfl
set_option maxRecDepth 100000 in
theorem BEq_any (a1 : Option Addr) (l1 : List UInt8) (n1 c1 : Nat) (h1 : l1.length = n1) (a2 : Option Addr) (l2 : List UInt8) (n2 c2 : Nat) (h2 : l2.length = n2) (w : World) (r1 : RdS w a1 l1) (r2 : RdS w a2 l2) (b : Bool) (hb : decide (l1 = l2) = b) :
    Calls Tryd.prog 66 #[.slice a1 n1 c1, .slice a2 n2 c2] w fun e w' => e = .returned (.bool b) ∧ Below w.heap.size w w' := by
  have s1 := str_of (c := c1) r1 h1
  have s2 := str_of (c := c2) r2 h2
  have he : ((bstr l1).toList == (bstr l2).toList) = b := by
    rw [bstr_toList, bstr_toList, ← hb, Bool.eq_iff_iff]
    simp
  obtain ⟨S1, hS1⟩ : ∃ S, S = bstr l1 := ⟨_, rfl⟩
  obtain ⟨S2, hS2⟩ : ∃ S, S = bstr l2 := ⟨_, rfl⟩
  rw [← hS1] at s1 he
  rw [← hS2] at s2 he
  clear hS1 hS2 hb r1 r2 h1 h2
  go_enter Tryd.func66, Tryd.ntmps66
  go_wp2
  go_ret
  exact ⟨by first | rw [he] | simp [he], Below.refl _ _⟩
/-- Do two unlike texts have one sum? -/
def witB (l1 l2 : List UInt8) : Bool := !decide (l1 = l2) && decide (sumOf l1 = sumOf l2)
set_option maxRecDepth 100000 in
set_option maxHeartbeats 1000000 in
theorem Witness_any (a1 : Option Addr) (l1 : List UInt8) (n1 c1 : Nat) (h1 : l1.length = n1) (hc1 : n1 ≤ c1) (hm1 : n1 ≤ 140737488355328 ∧ c1 ≤ 9223372036854775807) (ho1 : a1 = none → n1 = 0 ∧ c1 = 0)
    (a2 : Option Addr) (l2 : List UInt8) (n2 c2 : Nat) (h2 : l2.length = n2) (hc2 : n2 ≤ c2) (hm2 : n2 ≤ 140737488355328 ∧ c2 ≤ 9223372036854775807) (ho2 : a2 = none → n2 = 0 ∧ c2 = 0) (w : World) (r1 : RdS w a1 l1) (r2 : RdS w a2 l2) (hL : Laid w) (b : Bool) (hb : witB l1 l2 = b) :
    Calls Tryd.prog 38 #[.slice a1 n1 c1, .slice a2 n2 c2] w fun e w' => e = .returned (.bool b) ∧ Below w.heap.size w w' := by
  by_cases he : l1 = l2
  · have hb' : b = false := by rw [← hb]; unfold witB; simp [he]
    have cB := BEq_any a1 l1 n1 c1 h1 a2 l2 n2 c2 h2 w r1 r2 true (by simpa using he)
    have CB := Lib.hid cB; clear cB hb he r1 r2 hL h1 h2
    subst hb'
    go_enter Tryd.func38, Tryd.ntmps38
    go_wp2_with fail
    refine CB.out.mono ?_
    rintro e w1 ⟨rfl, hb1⟩
    go_wp2
    go_ret
    exact ⟨rfl, hb1⟩
  · have cB := BEq_any a1 l1 n1 c1 h1 a2 l2 n2 c2 h2 w r1 r2 false (by simpa using he)
    have q := fun w => eqH (sumOf l1) (sumOf l2) b (sumOf_length _) (sumOf_length _) (by rw [← hb]; unfold witB; simp [he]) w
    have k1 := fun w hr hL => Sum_any a1 l1 n1 c1 h1 hc1 hm1 ho1 w hr hL
    have k2 := fun w hr hL => Sum_any a2 l2 n2 c2 h2 hc2 hm2 ho2 w hr hL
    obtain ⟨C1, hC1⟩ : ∃ C, C = u8cells (sumOf l1) := ⟨_, rfl⟩
    obtain ⟨C2, hC2⟩ : ∃ C, C = u8cells (sumOf l2) := ⟨_, rfl⟩
    rw [← hC1] at k1 q
    rw [← hC2] at k2 q
    have CB := Lib.hid (And.intro cB (And.intro k1 (And.intro k2 (And.intro r1 (And.intro r2 hL))))); clear cB hb he r1 r2 hL h1 h2 k1 k2 hC1 hC2
    go_enter Tryd.func38, Tryd.ntmps38
    go_wp2_with fail
    refine CB.out.1.mono ?_
    rintro e w1 ⟨rfl, hb1⟩
    have D := Lib.hid hb1; clear hb1
    go_wp2_with fail
    refine (CB.out.2.1 w1 (CB.out.2.2.2.1.below D.out (Nat.le_refl _)) (CB.out.2.2.2.2.2.below D.out (Nat.le_refl _))).mono ?_
    rintro e w2 ⟨rfl, hb1⟩
    have E := Lib.hid (bt D.out hb1); clear hb1 D
    go_wp2_with fail
    refine (CB.out.2.2.1 w2 (CB.out.2.2.2.2.1.below E.out (Nat.le_refl _)) (CB.out.2.2.2.2.2.below E.out (Nat.le_refl _))).mono ?_
    rintro e w3 ⟨rfl, hb1⟩
    have E3 := Lib.hid (bt E.out hb1); clear hb1 E
    go_wp2
    go_ret
    exact ⟨rfl, E3.out⟩
set_option maxRecDepth 100000 in
set_option maxHeartbeats 1000000 in
theorem Pair_any (a b : List UInt8) (ha : a.length = 32) (hb : b.length = 32) (w : World) (hL : Laid w) :
    Calls Tryd.prog 40 #[.agg (u8cells a), .agg (u8cells b)] w fun e w' => e = .returned (.agg (u8cells (sumOf (sumOf (a ++ b))))) ∧ Below w.heap.size w w' := by
  obtain ⟨A1, hA1⟩ : ∃ A, A = u8cells a := ⟨_, rfl⟩
  obtain ⟨A2, hA2⟩ : ∃ A, A = u8cells b := ⟨_, rfl⟩
  obtain ⟨C, hC⟩ : ∃ C, C = u8cells (sumOf (sumOf (a ++ b))) := ⟨_, rfl⟩
  have sC : C.size = 32 := by rw [hC, u8cells_size]; exact sumOf_length _
  have iC : (Tryd.prog.info? 38).map (·.size) = some C.size := by rw [sC]; kernel_rfl
  have aC : C.all (·.oneCell') = true := by rw [hC]; exact u8cells_one _
  have z32 : (#[.int .u8 0, .int .u8 0, .int .u8 0, .int .u8 0, .int .u8 0, .int .u8 0, .int .u8 0, .int .u8 0, .int .u8 0, .int .u8 0, .int .u8 0, .int .u8 0, .int .u8 0, .int .u8 0, .int .u8 0, .int .u8 0, .int .u8 0, .int .u8 0, .int .u8 0, .int .u8 0, .int .u8 0, .int .u8 0, .int .u8 0, .int .u8 0, .int .u8 0, .int .u8 0, .int .u8 0, .int .u8 0, .int .u8 0, .int .u8 0, .int .u8 0, .int .u8 0] : Array Value).size = C.size := by rw [sC]; rfl
  rw [← hA1, ← hA2, ← hC]
  obtain ⟨i0, hi, hz0, hz1, hz2⟩ := info_parts (show (Tryd.prog.info? 5).map (fun i => (i.zero, i.size, i.bytes)) = some (some (.int .u8 0), 1, 1) by kernel_rfl)
  have I := Lib.hid (And.intro hi (And.intro hz0 (And.intro hz1 hz2))); clear hi hz0 hz1 hz2
  have hmk : ∀ w : World, (Instr.makeSlice 26 (.int .i64 0) (.int .i64 64)).run Tryd.prog w = .ok (.slice (some ⟨w.heap.size, 0, none⟩) 0 64) (w.alloc (.cells (Array.replicate 64 (.int .u8 0)) 5)) := fun w => make_bytesC 0 64 (by omega) (by omega) w
  obtain ⟨W1, hW1⟩ : ∃ W, W = ((w.alloc (.cells A1 38)).alloc (.cells A2 38)).alloc (.cells #[.int .u8 0, .int .u8 0, .int .u8 0, .int .u8 0, .int .u8 0, .int .u8 0, .int .u8 0, .int .u8 0, .int .u8 0, .int .u8 0, .int .u8 0, .int .u8 0, .int .u8 0, .int .u8 0, .int .u8 0, .int .u8 0, .int .u8 0, .int .u8 0, .int .u8 0, .int .u8 0, .int .u8 0, .int .u8 0, .int .u8 0, .int .u8 0, .int .u8 0, .int .u8 0, .int .u8 0, .int .u8 0, .int .u8 0, .int .u8 0, .int .u8 0, .int .u8 0] 38) := ⟨_, rfl⟩
  have b1 : Below w.heap.size w W1 := by rw [hW1]; exact ba (ba (ba (Below.refl _ _) _) _) _
  have s1 : W1.heap.size = w.heap.size + 3 := by rw [hW1]; simp
  have B1 : Blk W1 w.heap.size 38 A1 := by rw [hW1]; exact ((Blk.newAt w _ A1 rfl).alloc _).alloc _
  have B2 : Blk W1 (w.heap.size + 1) 38 A2 := by rw [hW1]; exact (Blk.second w _ _ _).alloc _
  have B3 : Blk W1 (w.heap.size + 2) 38 #[.int .u8 0, .int .u8 0, .int .u8 0, .int .u8 0, .int .u8 0, .int .u8 0, .int .u8 0, .int .u8 0, .int .u8 0, .int .u8 0, .int .u8 0, .int .u8 0, .int .u8 0, .int .u8 0, .int .u8 0, .int .u8 0, .int .u8 0, .int .u8 0, .int .u8 0, .int .u8 0, .int .u8 0, .int .u8 0, .int .u8 0, .int .u8 0, .int .u8 0, .int .u8 0, .int .u8 0, .int .u8 0, .int .u8 0, .int .u8 0, .int .u8 0, .int .u8 0] := by rw [hW1]; exact Blk.newAt _ _ _ (by simp)
  have own : (W1.alloc (.cells (Array.replicate 64 (.int .u8 0)) 5)).ownsRow (w.heap.size + 3) 5 1 (.slice (some ⟨w.heap.size + 3, 0, none⟩) 0 64) 0 (([] : List UInt8).map fun c => Value.int .u8 (c.toNat : Int)) := by
    have h := World.ownsRow_made W1 (base := w.heap.size + 3) (e := 5) (size := 1) (Array.replicate 64 (.int .u8 0)) 64 (by omega) (by unfold maxLen; omega) (by simp)
    rw [s1] at h
    simpa using h
  have rd1 : RdS (W1.alloc (.cells (Array.replicate 64 (.int .u8 0)) 5)) (some ⟨w.heap.size, 0, none⟩) a := .inr ⟨w.heap.size, 0, rfl, by simp; omega, fun i hi => ((B1.alloc _).cell (0 + i)).trans (by rw [Nat.zero_add, hA1]; exact u8cells_at a i hi)⟩
  have G := Lib.hid (And.intro (ba b1 (.cells (Array.replicate 64 (.int .u8 0)) 5)) (And.intro (B1.alloc (.cells (Array.replicate 64 (.int .u8 0)) 5)) (And.intro (B2.alloc (.cells (Array.replicate 64 (.int .u8 0)) 5)) (And.intro (B3.alloc (.cells (Array.replicate 64 (.int .u8 0)) 5)) (And.intro own (And.intro rd1 (And.intro ha (And.intro hb (And.intro hL (And.intro hC hA2)))))))))); clear b1 B1 B2 B3 own rd1 ha hb hL hC hA1 hA2 s1
  rw [hW1] at G
  clear hW1
  go_enter Tryd.func40, Tryd.ntmps40
  go_wp2_with (at_builtin; refine wl_app G.out.2.2.2.2.1 rfl _ _ 26 rfl Tryd.underlying26 i0 I.out.1 I.out.2.1 I.out.2.2.1 I.out.2.2.2 rfl (some ⟨w.heap.size, 0, none⟩) 32 32 a rfl G.out.2.2.2.2.2.1 G.out.2.2.2.2.2.2.1 (fun h => by cases h) (by omega) (by simp) ?_)
  intro v1 w2 hw1 hg1 hn1
  replace hw1 : w2.ownsRow (w.heap.size + 3) 5 1 v1 32 (a.map fun c => Value.int .u8 (c.toNat : Int)) := by simpa using hw1
  obtain ⟨g1, cap1, cur1, rfl, hgb1, hbg1, _, _, _, _⟩ := own_blk hw1 (by simpa using hn1)
  have bb2 := below_grown G.out.1 hg1 (by simp; omega) (by intro k hk; simp [Value.ownBlock] at hk; omega)
  have B2' := G.out.2.2.1.grown hg1 (by first | (simp [Value.ownBlock]; done) | (simp [Value.ownBlock]; omega))
  have B3' := G.out.2.2.2.1.grown hg1 (by first | (simp [Value.ownBlock]; done) | (simp [Value.ownBlock]; omega))
  have lt2 := hbg1.lt
  have rd2 : RdS w2 (some ⟨w.heap.size + 1, 0, none⟩) b := .inr ⟨w.heap.size + 1, 0, rfl, B2'.lt, fun i hi => (B2'.cell (0 + i)).trans (by rw [Nat.zero_add, G.out.2.2.2.2.2.2.2.2.2.2]; exact u8cells_at b i hi)⟩
  have G2 := Lib.hid (And.intro hw1 (And.intro bb2 (And.intro B3' rd2))); clear hw1 bb2 B3' rd2 B2' hg1 hn1 hbg1
  go_wp2_with (at_builtin; refine wl_app G2.out.1 rfl _ _ 26 rfl Tryd.underlying26 i0 I.out.1 I.out.2.1 I.out.2.2.1 I.out.2.2.2 rfl (some ⟨w.heap.size + 1, 0, none⟩) 32 32 b rfl G2.out.2.2.2 G.out.2.2.2.2.2.2.2.1 (fun h => by cases h) (by omega) (by omega) ?_)
  intro v2 w3 hw1 hg1 hn1
  replace hw1 : w3.ownsRow (w.heap.size + 3) 5 1 v2 64 ((a ++ b).map fun c => Value.int .u8 (c.toNat : Int)) := by simpa using hw1
  obtain ⟨g2, cap2, cur2, rfl, hgb2, hbg2, hcp1, hcp2, hlen, hrd⟩ := own_blk hw1 (by simpa using hn1)
  have bb3 := below_grown G2.out.2.1 hg1 (by omega) (by intro k hk; simp [Value.ownBlock] at hk; omega)
  have B3' := G2.out.2.2.1.grown hg1 (by first | (simp [Value.ownBlock]; done) | (simp [Value.ownBlock]; omega))
  have rd3 : RdS w3 (some ⟨g2, 0, none⟩) (a ++ b) := .inr ⟨g2, 0, rfl, hbg2.lt, fun i hi => (hbg2.cell (0 + i)).trans (by rw [Nat.zero_add]; exact hrd i hi)⟩
  have hcm : 64 ≤ 140737488355328 ∧ cap2 ≤ 9223372036854775807 := by unfold maxLen at hcp2; omega
  have G3 := Lib.hid (And.intro bb3 (And.intro B3' (And.intro rd3 (And.intro hlen (And.intro hcp1 hcm))))); clear hw1 bb3 B3' rd3 hlen hrd hg1 hn1 hbg2 hcp1 hcp2 hcm hmk
  go_wp2_with fail
  refine (Double_any (some ⟨g2, 0, none⟩) (a ++ b) 64 cap2 G3.out.2.2.2.1 G3.out.2.2.2.2.1 G3.out.2.2.2.2.2 (fun h => by cases h) w3 G3.out.2.2.1 (G.out.2.2.2.2.2.2.2.2.1.below G3.out.1 (Nat.le_refl _))).mono ?_
  rintro e w4 ⟨rfl, hb4⟩
  rw [← G.out.2.2.2.2.2.2.2.2.2.1]
  have D := Lib.hid (And.intro (G3.out.2.1.calls hb4) (bt G3.out.1 hb4)); clear hb4
  go_wp2_with (with_reducible refine ws_row D.out.1 _ _ _ _ rfl rfl rfl rfl iC z32 aC ?_)
  refine bodyPost_ret (v := .agg C) ?_ rfl ⟨rfl, setRow_below D.out.2 (by omega) _⟩
  exact results_cell_row rfl _ _ _ _ _ (0, 0) _ rfl (D.out.1.row _) Tryd.underlying38 rfl iC
end Go.Proofs.YtfebknplkbeblaaDoor

namespace Go.Proofs.YtfebknplkbeblaaDoor
open Go.RowKit
set_option linter.unusedVariables false
set_option maxHeartbeats 400000 in
theorem rturn_any (x : Wd) (n : Nat) (h0 : 0 < n) (h1 : n < 32) (w : World) :
    Calls Tryd.prog 65 #[.int .u32 (wn x), .int .u64 n] w fun e w' => e = .returned (.int .u32 (wn (rr x n))) ∧ w' = w := by
  obtain ⟨m, hm⟩ : ∃ m, m = 32 - n := ⟨_, rfl⟩
  have e1 : IntKind.u64.wrap (32 - (n : Int)) = (m : Int) := by rw [IntKind.wrap_u64]; omega
  have e1' : (32 : Int) - (n : Int) = (m : Int) := by omega
  have hm32 : m < 32 := by omega
  have v1 := shl_wd x m
  have v2 := shr_wd x n
  have v3 := bor_wd (x >>> n) (x <<< m)
  have e5 : x >>> n ||| x <<< m = rr x n := by unfold rr; rw [← hm]
  rw [e5] at v3
  have H := Lib.hid (And.intro hm e5); clear hm e5
  go_enter Tryd.func65, Tryd.ntmps65
  go_wp2
  go_ret
  exact ⟨rfl, rfl⟩
theorem rturn_is (x : Wd) (k : Int) (n : Nat) (hk : k = n) (h0 : 0 < n) (h1 : n < 32) (w : World) :
    Calls Tryd.prog 65 #[.int .u32 (wn x), .int .u64 k] w fun e w' => e = .returned (.int .u32 (wn (rr x n))) ∧ w' = w := by
  subst hk
  exact rturn_any x n h0 h1 w
end Go.Proofs.YtfebknplkbeblaaDoor
