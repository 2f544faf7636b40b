/- HashPairs: its walk. -/
import Derived.Test.YtfebknplkbeblaaDoorHashP
import Derived.Test.YtfebknplkbeblaaDoorLaw03a
import Derived.Test.YtfebknplkbeblaaDoorLaw01Back
namespace Go.Proofs.YtfebknplkbeblaaDoor
open Go.RowKit
set_option linter.unusedVariables false
theorem op_slice_str {P : Program} {Q : Exit → Act → World → Prop} {o : Oper} {A : Act} {w : World} (t : TypeId) (x lo : Operand) (ho : o.op = .slice t x (some lo) none none) {s : ByteArray} {n : Int} {u : Value} (hx : A.eval x = .string s) (hl : A.eval lo = .int .i64 n)
    (ht : P.underlying t = some .string) (hrun : (Instr.slice t (.string s) (some (.int .i64 n)) none none).run P w = .ok u w) : o.wp P A w (fun a' w'' => a' = A.put o.dst u ∧ Below w.heap.size w w'') Q := by
  refine op_run ?_
  unfold execOp
  simp only [ho, hx, hl, Option.map_none, Option.map_some, Sem.run_bind, run_sliceAt_string w t _ _ _ _ ht, hrun]
  rfl
theorem hexT_hexB (a : List UInt8) (ha : a.length = 32) : hexT a = hexB (leN a 32) 64 := by
  apply List.ext_getElem (by rw [hexT_length, hexB_length])
  intro i h1 h2
  rw [hexT_length] at h1
  have e1 := hexT_at a i h1
  have e2 := hexB_at (leN a 32) 64 i h1
  have g1 : (hexT a).getD i 0 = (hexT a)[i]'(by rw [hexT_length]; exact h1) := by rw [List.getD, List.getElem?_eq_getElem (by rw [hexT_length]; exact h1)]; rfl
  have g2 : (hexB (leN a 32) 64).getD i 0 = (hexB (leN a 32) 64)[i]'h2 := by rw [List.getD, List.getElem?_eq_getElem h2]; rfl
  refine g1.symm.trans (Eq.trans ?_ g2)
  rw [e1, e2]
  congr 1
  have hk := leN_byte a 32 (31 - i / 2) (by omega)
  have h16 : (256 : Nat) = 16 ^ 2 := rfl
  unfold hdig
  rw [← hk]
  have e3 : (256 : Nat) ^ (31 - i / 2) = 16 ^ (2 * (31 - i / 2)) := by rw [h16, ← Nat.pow_mul]
  rw [e3]
  split
  · rw [show 64 - 1 - i = 2 * (31 - i / 2) + 1 by omega, Nat.pow_succ, ← Nat.div_div_eq_div_mul]
    generalize leN a 32 / 16 ^ (2 * (31 - i / 2)) = q
    omega
  · rw [show 64 - 1 - i = 2 * (31 - i / 2) by omega]
    generalize leN a 32 / 16 ^ (2 * (31 - i / 2)) = q
    omega
theorem hexB_zeros (N L i : Nat) (hN : N < 16 ^ L) (hi : i < 64 - L) : (hexB N 64).getD i 0 = 48 := by
  rw [hexB_at N 64 i (by omega)]
  have h1 : N < 16 ^ (64 - 1 - i) := Nat.lt_of_lt_of_le hN (Nat.pow_le_pow_right (by decide) (by omega))
  rw [Nat.div_eq_of_lt h1]
  rfl
theorem hexB_drop (N L : Nat) (hL : L ≤ 64) : (hexB N 64).drop (64 - L) = hexB N L := by
  apply List.ext_getElem
  · simp [hexB]; omega
  · intro i h1 h2
    rw [hexB_length] at h2
    rw [List.getElem_drop]
    simp only [hexB, List.getElem_map, List.getElem_range]
    rw [show 64 - 1 - (64 - L + i) = L - 1 - i by omega]
theorem bstr_extract (l : List UInt8) (k : Nat) : (bstr l).extract k (bstr l).size = bstr (l.drop k) := by
  rw [bstr_size']
  apply ByteArray.ext
  apply Array.ext'
  simp [bstr, List.extract_eq_take_drop]
  exact List.take_of_length_le (by simp)
theorem bstr_at' (l : List UInt8) (i : Nat) (h : i < (bstr l).size) : (bstr l)[i]'h = l.getD i 0 := by
  have h' : i < l.length := by rw [bstr_size'] at h; exact h
  simp [bstr, List.getD, List.getElem?_eq_getElem h']
  rfl
theorem eqUU (m : Nat) (w : World) : (Op.equalIn 10000 62 (.agg (ucells m)) (.agg (ucells m))).run Tryd.prog w = .ok true w := by
  obtain ⟨i, hi⟩ := Option.isSome_iff_exists.1 (show (Tryd.prog.info? 27).isSome = true by kernel_rfl)
  exact run_eqInts w .u64 .u64 (by kernel_rfl) Tryd.underlying27 Tryd.underlying62 hi (by kernel_rfl) (fun i => lim m i) (fun i => lim m i) (ucells m) (ucells m) (fun i hi => ⟨ucells_at m i hi, ucells_at m i hi⟩) true (by simp)
set_option maxRecDepth 100000 in
set_option maxHeartbeats 4000000 in
theorem Pairs_core (w : World) (hL : Laid w) (a b : List UInt8) (ha : a.length = 32) (hb : b.length = 32) (A1 A2 C UN : Array Value) (N L : Nat) (S1 S2 : ByteArray)
    (hA1 : A1 = u8cells a) (hA2 : A2 = u8cells b) (hUN : UN = ucells N) (hL64 : L ≤ 64) (hs1 : S1.size = L) (hs2 : S2.size = 64) (hz : ∀ i h, i < 64 - L → ((S2[i]'h).toNat : Int) = 48) (hex : S2.extract (64 - L) S2.size = S1)
    (cP : ∀ w, Laid w → Calls Tryd.prog 40 #[.agg A1, .agg A2] w fun e w' => e = .returned (.agg C) ∧ Below w.heap.size w w')
    (cD0 : ∀ g cap, 64 ≤ cap → cap ≤ 9223372036854775807 → ∀ w, RdS w (some ⟨g, 0, none⟩) (a ++ b) → Laid w → Calls Tryd.prog 29 #[.slice (some ⟨g, 0, none⟩) 64 cap] w fun e w' => e = .returned (.agg C) ∧ Below w.heap.size w w')
    (eC : ∀ w, (Op.equalIn 10000 38 (.agg C) (.agg C)).run Tryd.prog w = .ok true w) (eU : ∀ w, (Op.equalIn 10000 62 (.agg UN) (.agg UN)).run Tryd.prog w = .ok true w)
    (cN : ∀ w, Calls Tryd.prog 44 #[.agg A1] w fun e w' => e = .returned (.agg UN) ∧ Below w.heap.size w w') (cF : ∀ w, Calls Tryd.prog 47 #[.agg UN] w fun e w' => e = .returned (.agg A1) ∧ Below w.heap.size w w')
    (cT : ∀ w, Calls Tryd.prog 41 #[.agg A1] w fun e w' => e = .returned (.string S2) ∧ Below w.heap.size w w') (cX : ∀ w, Calls Tryd.prog 59 #[.agg UN] w fun e w' => e = .returned (.string S1) ∧ Below w.heap.size w w')
    (cH : ∀ w, Calls Tryd.prog 60 #[.string S2] w fun e w' => e = .returned (.tuple #[.agg UN, .int .i64 0]) ∧ Below w.heap.size w w') :
    Calls Tryd.prog 12 #[.agg A1, .agg A2] w fun e w' => e = .returned (.bool true) ∧ Below w.heap.size w w' := by
  have s1 : A1.size = 32 := by rw [hA1, u8cells_size]; exact ha
  have s2 : A2.size = 32 := by rw [hA2, u8cells_size]; exact hb
  have sU : UN.size = 4 := by rw [hUN]; rfl
  have i1 : (Tryd.prog.info? 38).map (·.size) = some A1.size := by rw [s1]; kernel_rfl
  have i2 : (Tryd.prog.info? 38).map (·.size) = some A2.size := by rw [s2]; kernel_rfl
  have iU : (Tryd.prog.info? 62).map (·.size) = some UN.size := by rw [sU]; kernel_rfl
  have aU : UN.all (·.oneCell') = true := by rw [hUN]; simp [ucells, Value.oneCell']
  have hsl : ∀ w : World, (Instr.slice 9 (.string S2) (some (.int .i64 ((64 - L : Nat) : Int))) none none).run Tryd.prog w = .ok (.string S1) w := fun w => by
    rw [run_slice_string_l w 9 S2 Tryd.underlying9 .i64 _ (by omega) (by rw [hs2]; omega), Int.toNat_natCast, hex]
  have hsub : IntKind.i64.wrap ((64 : Nat) - (L : Nat) : Int) = ((64 - L : Nat) : Int) := by simp [IntKind.wrap, IntKind.signed, IntKind.bits]; omega
  obtain ⟨i0, hi, hz0, hz1, hz2⟩ := info_parts (show (Tryd.prog.info? 5).map (fun i => (i.zero, i.size, i.bytes)) = some (some (.int .u8 0), 1, 1) by kernel_rfl)
  have I := Lib.hid (And.intro hi (And.intro hz0 (And.intro hz1 hz2))); clear hi hz0 hz1 hz2
  have HL := Lib.hid hL; clear hL
  have HC := Lib.hid (And.intro hA1 (And.intro hA2 (And.intro ha (And.intro hb (And.intro hz hex))))); clear hA1 hA2 ha hb hz hex hUN sU s1 s2
  have HS := Lib.hid (And.intro hsl hsub); clear hsl hsub
  have G : Hid (Blk ((w.alloc (.cells A1 38)).alloc (.cells A2 38)) w.heap.size 38 A1 ∧ Blk ((w.alloc (.cells A1 38)).alloc (.cells A2 38)) (w.heap.size + 1) 38 A2 ∧ Below w.heap.size w ((w.alloc (.cells A1 38)).alloc (.cells A2 38))) :=
    Lib.hid ⟨(Blk.newAt w _ A1 rfl).alloc _, Blk.second w _ _ _, ba (ba (Below.refl _ _) _) _⟩
  go_enter Tryd.func12, Tryd.ntmps12
  go_wp2_with fail
  refine (Awake03 _).mono ?_
  rintro e w1 ⟨rfl, hb1⟩
  have b1 := ba (bt G.out.2.2 hb1) (.cells #[] 5)
  have P1 := (G.out.1.calls hb1).alloc (.cells #[] 5)
  have P2 := (G.out.2.1.calls hb1).alloc (.cells #[] 5)
  have z1 := (G.out.2.1.calls hb1).lt
  clear hb1
  have own : (w1.alloc (.cells #[] 5)).ownsRow w1.heap.size 5 1 (.slice (some ⟨w1.heap.size, 0, none⟩) 0 0) 0 (([] : List UInt8).map fun c => Value.int .u8 (c.toNat : Int)) := World.ownsRow_made w1 #[] 0 (Nat.le_refl _) (by omega) rfl
  have rd1 : RdS (w1.alloc (.cells #[] 5)) (some ⟨w.heap.size, 0, none⟩) a := .inr ⟨w.heap.size, 0, rfl, P1.lt, fun i hi => (P1.cell (0 + i)).trans (by rw [Nat.zero_add, HC.out.1]; exact u8cells_at a i hi)⟩
  have M := Lib.hid (And.intro b1 (And.intro P1 (And.intro P2 (And.intro own rd1)))); clear b1 P1 P2 own rd1
  go_wp2_with (at_builtin; refine wl_app M.out.2.2.2.1 rfl _ _ 26 rfl Tryd.underlying26 i0 I.out.1 I.out.2.1 I.out.2.2.1 I.out.2.2.2 rfl (some ⟨w.heap.size, 0, none⟩) 32 32 a rfl M.out.2.2.2.2 HC.out.2.2.1 (fun h => by cases h) (by omega) (by simp) ?_)
  intro v1 w2 hw1 hg1 hn1
  replace hw1 : w2.ownsRow w1.heap.size 5 1 v1 32 (a.map fun c => Value.int .u8 (c.toNat : Int)) := by simpa using hw1
  obtain ⟨g1, cap1, cur1, rfl, hgb1, hbg1, _, _, _, _⟩ := own_blk hw1 (by simpa using hn1)
  have bb2 := below_grown M.out.1 hg1 (by simp; omega) (by intro k hk; simp [Value.ownBlock] at hk; omega)
  have P1 := M.out.2.1.grown hg1 (by first | (simp [Value.ownBlock]; done) | (simp [Value.ownBlock]; omega))
  have P2 := M.out.2.2.1.grown hg1 (by first | (simp [Value.ownBlock]; done) | (simp [Value.ownBlock]; omega))
  have lt2 := hbg1.lt
  have rd2 : RdS w2 (some ⟨w.heap.size + 1, 0, none⟩) b := .inr ⟨w.heap.size + 1, 0, rfl, P2.lt, fun i hi => (P2.cell (0 + i)).trans (by rw [Nat.zero_add, HC.out.2.1]; exact u8cells_at b i hi)⟩
  have M2 := Lib.hid (And.intro bb2 (And.intro P1 (And.intro P2 (And.intro hw1 rd2)))); clear bb2 P1 P2 hw1 rd2 hg1 hn1 hbg1 M
  go_wp2_with (at_builtin; refine wl_app M2.out.2.2.2.1 rfl _ _ 26 rfl Tryd.underlying26 i0 I.out.1 I.out.2.1 I.out.2.2.1 I.out.2.2.2 rfl (some ⟨w.heap.size + 1, 0, none⟩) 32 32 b rfl M2.out.2.2.2.2 HC.out.2.2.2.1 (fun h => by cases h) (by omega) (by omega) ?_)
  intro v2 w3 hw1 hg1 hn1
  replace hw1 : w3.ownsRow w1.heap.size 5 1 v2 64 ((a ++ b).map fun c => Value.int .u8 (c.toNat : Int)) := by simpa using hw1
  obtain ⟨g2, cap2, cur2, rfl, hgb2, hbg2, hcp1, hcp2, hlen, hrd⟩ := own_blk hw1 (by simpa using hn1)
  have bb3 := below_grown M2.out.1 hg1 (by omega) (by intro k hk; simp [Value.ownBlock] at hk; omega)
  have P1 := M2.out.2.1.grown hg1 (by first | (simp [Value.ownBlock]; done) | (simp [Value.ownBlock]; omega))
  have P2 := M2.out.2.2.1.grown hg1 (by first | (simp [Value.ownBlock]; done) | (simp [Value.ownBlock]; omega))
  have rd3 : RdS w3 (some ⟨g2, 0, none⟩) (a ++ b) := .inr ⟨g2, 0, rfl, hbg2.lt, fun i hi => (hbg2.cell (0 + i)).trans (by rw [Nat.zero_add]; exact hrd i hi)⟩
  have cD := cD0 g2 cap2 hcp1 (by unfold maxLen at hcp2; omega)
  have HD := Lib.hid cD
  have M3 := Lib.hid (And.intro bb3 (And.intro P1 (And.intro P2 rd3))); clear bb3 P1 P2 rd3 hlen hrd hg1 hn1 hbg2 hcp1 hcp2 hw1 M2 cD cD0
  go_wp2_with (with_reducible refine wl_row M3.out.2.1 _ _ rfl rfl rfl _ _ Tryd.underlying38 i1 ?_)
  refine (cN w3).mono ?_
  rintro e w4 ⟨rfl, hb1⟩
  have M4 := Lib.hid (And.intro (bt M3.out.1 hb1) (And.intro (M3.out.2.1.calls hb1) (And.intro (M3.out.2.2.1.calls hb1) (M3.out.2.2.2.below hb1 (Nat.le_refl _))))); clear hb1 M3
  go_wp2_with fail
  refine (cX w4).mono ?_
  rintro e w5 ⟨rfl, hb1⟩
  have M5 := Lib.hid (And.intro (bt M4.out.1 hb1) (And.intro (M4.out.2.1.calls hb1) (And.intro (M4.out.2.2.1.calls hb1) (M4.out.2.2.2.below hb1 (Nat.le_refl _))))); clear hb1 M4
  go_wp2_with (with_reducible refine wl_row M5.out.2.1 _ _ rfl rfl rfl _ _ Tryd.underlying38 i1 ?_)
  refine (cT w5).mono ?_
  rintro e w6 ⟨rfl, hb1⟩
  have M6 := Lib.hid (And.intro (bt M5.out.1 hb1) (And.intro (M5.out.2.1.calls hb1) (And.intro (M5.out.2.2.1.calls hb1) (M5.out.2.2.2.below hb1 (Nat.le_refl _))))); clear hb1 M5
  go_wp2_with fail
  refine (cH w6).mono ?_
  rintro e w7 ⟨rfl, hb1⟩
  have M7 := Lib.hid (And.intro (bt M6.out.1 hb1) (And.intro (M6.out.2.1.calls hb1) (And.intro (M6.out.2.2.1.calls hb1) (M6.out.2.2.2.below hb1 (Nat.le_refl _))))); clear hb1 M6
  have hL64' : ¬ (64 : Int) < (L : Int) := by omega
  have zU : (#[.int .u64 0, .int .u64 0, .int .u64 0, .int .u64 0] : Array Value).size = UN.size := by have := iU; rw [show (Tryd.prog.info? 62).map (·.size) = some 4 by kernel_rfl] at this; injection this with this
  have BZ : Blk (w7.alloc (.cells #[.int .u64 0, .int .u64 0, .int .u64 0, .int .u64 0] 62)) w7.heap.size 62 #[.int .u64 0, .int .u64 0, .int .u64 0, .int .u64 0] := Blk.newAt w7 _ _ rfl
  go_wp2_with (with_reducible refine ws_row BZ _ _ _ _ rfl rfl rfl rfl iU zU aU ?_)
  have hlt7 := M7.out.2.2.1.lt
  have P1 := (M7.out.2.1.alloc (.cells #[.int .u64 0, .int .u64 0, .int .u64 0, .int .u64 0] 62)).rowFar (show w.heap.size ≠ w7.heap.size by omega) UN
  have P2 := (M7.out.2.2.1.alloc (.cells #[.int .u64 0, .int .u64 0, .int .u64 0, .int .u64 0] 62)).rowFar (show w.heap.size + 1 ≠ w7.heap.size by omega) UN
  have P9 := BZ.row UN
  have bw := setRow_below (ba (Below.refl w7.heap.size w7) (.cells #[.int .u64 0, .int .u64 0, .int .u64 0, .int .u64 0] 62)) (Nat.le_refl _) UN
  have PR := M7.out.2.2.2.below bw (Nat.le_refl _)
  have PB := bt M7.out.1 bw
  clear BZ bw M7 zU hlt7
  generalize World.setRow _ _ _ = w8 at *
  generalize w7.heap.size = g9 at *
  have K := Lib.hid (And.intro P1 (And.intro P2 (And.intro P9 (And.intro PR PB)))); clear P1 P2 P9 PR PB
  go_loopw [11, 12] (fun z i wr => ∃ k : Nat, k ≤ 64 - L ∧ z = .bool true ∧ i = .int .i64 k ∧ wr = w8) (fun z i _ => 64 - (intOf i).toNat)
  case atStart => exact ⟨0, Nat.zero_le _, rfl, rfl, rfl⟩
  case round =>
    obtain ⟨k, hk, rfl, rfl, rfl⟩ := hrel
    by_cases hlt : k < 64 - L
    · have hlt' : (k : Int) < (64 : Int) - (L : Int) := by omega
      have hk64 : (k : Int) < 64 := by omega
      have hix : ∀ h, ((S2[k]'h).toNat : Int) = 48 := fun h => HC.out.2.2.2.2.1 k h hlt
      go_wp2
      go_roundw
      case rel => exact ⟨k + 1, by omega, by first | rfl | trivial, by go_num, by first | rfl | trivial⟩
      case measure => simp [intOf]; omega
    · have hlt' : ¬ (k : Int) < (64 : Int) - (L : Int) := by omega
      go_wp2_with fail
      have hsl := HS.out.1
      have hsub := HS.out.2
      have cD := HD.out
      try simp only [List.append_eq, List.cons_append, List.nil_append]
      refine wp_region_g [some 51, some 52, some 53, some 54, some 55, some 56, some 57, some 58, some 59, some 60, some 61, some 62, some 63, some 64, some 65, some 66, some 67, some 68, some 69, some 70, some 71, some 72, some 73, some 74, some 75, some 76, some 77, some 78, some 79, some 80, some 81, some 82, some 83, some 84, some 85, some 86, some 87, some 88, some 89, some 90, some 4] (FL [
          EqV (.bool true),
          EqV (.bool true),
          EqV (.agg A1),
          EqV (.agg A2),
          EqV (.agg C),
          EqV (.slice (some ⟨g2, 0, none⟩) 64 cap2),
          EqV (.agg C),
          EqV (.bool true),
          EqV (.bool true),
          EqV (.bool true),
          EqV (.bool true),
          EqV (.bool true),
          EqV (.bool true),
          EqV (.string S2),
          EqV (.string S2),
          EqV (.int .i64 (64 : Nat)),
          EqV (.string S1),
          EqV (.int .i64 (L : Nat)),
          EqV (.int .i64 (((64 - L : Nat) : Int))),
          EqV (.string S1),
          EqV (.string S1),
          EqV (.bool true),
          EqV (.bool true),
          EqV (.bool true),
          EqV (.int .i64 0),
          EqV (.bool true),
          EqV (.bool true),
          EqV (.bool true),
          EqV (.agg UN),
          EqV (.agg A1),
          EqV (.agg UN),
          EqV (.bool true),
          EqV (.bool true),
          EqV (.bool true),
          EqV (.agg UN),
          EqV (.agg A1),
          EqV (.string S2),
          EqV (.string S2),
          EqV (.bool true),
          EqV (.bool true),
          EqV (.bool true)
        ]) (FL_keeps ⟨keeps_eq _, keeps_eq _, keeps_eq _, keeps_eq _, keeps_eq _, keeps_eq _, keeps_eq _, keeps_eq _, keeps_eq _, keeps_eq _, keeps_eq _, keeps_eq _, keeps_eq _, keeps_eq _, keeps_eq _, keeps_eq _, keeps_eq _, keeps_eq _, keeps_eq _, keeps_eq _, keeps_eq _, keeps_eq _, keeps_eq _, keeps_eq _, keeps_eq _, keeps_eq _, keeps_eq _, keeps_eq _, keeps_eq _, keeps_eq _, keeps_eq _, keeps_eq _, keeps_eq _, keeps_eq _, keeps_eq _, keeps_eq _, keeps_eq _, keeps_eq _, keeps_eq _, keeps_eq _, keeps_eq _, trivial⟩) (by kernel_rfl) rfl rfl rfl rfl ⟨
        .inr ⟨gk0 rfl, fun A w' γ hb hF hs => g_eq (op_move (.tmp 5) (.inl rfl) ((hs.2 5 rfl).trans rfl))⟩,
        .inr ⟨gk0 rfl, fun A w' γ hb hF hs => g_eq (op_move (.tmp 51) (.inl rfl) ((hs.1 0 rfl 51 rfl).trans (hF 0 rfl)))⟩,
        .inr ⟨gkT 1 true rfl rfl 52 rfl (fun _ _ h => h), fun A w' γ hb hF hs => g_eq (op_load 38 (.tmp 2) rfl ((hs.2 2 rfl).trans rfl) (K.out.1.below hb K.out.1.lt) Tryd.underlying38 (i1))⟩,
        .inr ⟨gkT 1 true rfl rfl 52 rfl (fun _ _ h => h), fun A w' γ hb hF hs => g_eq (op_load 38 (.tmp 3) rfl ((hs.2 3 rfl).trans rfl) (K.out.2.1.below hb K.out.2.1.lt) Tryd.underlying38 (i2))⟩,
        .inr ⟨gkT 1 true rfl rfl 52 rfl (fun _ _ h => h), fun A w' γ hb hF hs => g_eq (op_call 40 #[.agg A1, .agg A2] (exec_call _ 40 #[.agg A1, .agg A2] rfl rfl (margs2 ((hs.1 2 rfl 53 rfl).trans (hF 2 rfl)) ((hs.1 3 rfl 54 rfl).trans (hF 3 rfl))) Tryd.func40 rfl rfl) (cP w' (HL.out.below (bt K.out.2.2.2.2 hb) (Nat.le_refl _))))⟩,
        .inr ⟨gkT 1 true rfl rfl 52 rfl (fun _ _ h => h), fun A w' γ hb hF hs => g_eq (op_move (.tmp 6) (.inl rfl) ((hs.2 6 rfl).trans rfl))⟩,
        .inr ⟨gkT 1 true rfl rfl 52 rfl (fun _ _ h => h), fun A w' γ hb hF hs => g_eq (op_call 29 #[.slice (some ⟨g2, 0, none⟩) 64 cap2] (exec_call _ 29 #[.slice (some ⟨g2, 0, none⟩) 64 cap2] rfl rfl (margs1 ((hs.1 5 rfl 56 rfl).trans (hF 5 rfl))) Tryd.func29 rfl rfl) (cD w' (K.out.2.2.2.1.below hb (Nat.le_refl _)) (HL.out.below (bt K.out.2.2.2.2 hb) (Nat.le_refl _))))⟩,
        .inr ⟨gkT 1 true rfl rfl 52 rfl (fun _ _ h => h), fun A w' γ hb hF hs => g_eq (op_eq_agg 38 _ (.tmp 55) (.tmp 57) (C) (C) true rfl ((hs.1 4 rfl 55 rfl).trans (hF 4 rfl)) ((hs.1 6 rfl 57 rfl).trans (hF 6 rfl)) (by kernel_rfl) (eC _))⟩,
        .inr ⟨gk0 rfl, fun A w' γ hb hF hs => g_eq (op_pick (.tmp 52) (.tmp 58) (.const (.bool false)) true rfl ((hs.1 1 rfl 52 rfl).trans (hF 1 rfl)) ((hs.1 7 rfl 58 rfl).trans (hF 7 rfl)))⟩,
        .inr ⟨gk0 rfl, fun A w' γ hb hF hs => g_eq (op_move (.tmp 59) (.inl rfl) ((hs.1 8 rfl 59 rfl).trans (hF 8 rfl)))⟩,
        .inr ⟨gkT 9 true rfl rfl 60 rfl (fun _ _ h => h), fun A w' γ hb hF hs => g_eq (op_move (.tmp 11) (.inl rfl) ((hs.2 11 rfl).trans rfl))⟩,
        .inr ⟨gk0 rfl, fun A w' γ hb hF hs => g_eq (op_pick (.tmp 60) (.tmp 61) (.const (.bool false)) true rfl ((hs.1 9 rfl 60 rfl).trans (hF 9 rfl)) ((hs.1 10 rfl 61 rfl).trans (hF 10 rfl)))⟩,
        .inr ⟨gk0 rfl, fun A w' γ hb hF hs => g_eq (op_move (.tmp 62) (.inl rfl) ((hs.1 11 rfl 62 rfl).trans (hF 11 rfl)))⟩,
        .inr ⟨gkT 12 true rfl rfl 63 rfl (fun _ _ h => h), fun A w' γ hb hF hs => g_eq (op_move (.tmp 8) (.inl rfl) ((hs.2 8 rfl).trans rfl))⟩,
        .inr ⟨gkT 12 true rfl rfl 63 rfl (fun _ _ h => h), fun A w' γ hb hF hs => g_eq (op_move (.tmp 8) (.inl rfl) ((hs.2 8 rfl).trans rfl))⟩,
        .inr ⟨gkT 12 true rfl rfl 63 rfl (fun _ _ h => h), fun A w' γ hb hF hs => g_eq (op_len_str (.tmp 65) 9 S2 (64) rfl ((hs.1 14 rfl 65 rfl).trans (hF 14 rfl)) Tryd.underlying9 (hs2))⟩,
        .inr ⟨gkT 12 true rfl rfl 63 rfl (fun _ _ h => h), fun A w' γ hb hF hs => g_eq (op_move (.tmp 7) (.inl rfl) ((hs.2 7 rfl).trans rfl))⟩,
        .inr ⟨gkT 12 true rfl rfl 63 rfl (fun _ _ h => h), fun A w' γ hb hF hs => g_eq (op_len_str (.tmp 67) 9 S1 (L) rfl ((hs.1 16 rfl 67 rfl).trans (hF 16 rfl)) Tryd.underlying9 (hs1))⟩,
        .inr ⟨gkT 12 true rfl rfl 63 rfl (fun _ _ h => h), fun A w' γ hb hF hs => g_eq (op_sub 3 _ (.tmp 66) (.tmp 68) .i64 ((64 : Nat)) ((L : Nat)) (((64 - L : Nat) : Int)) rfl ((hs.1 15 rfl 66 rfl).trans (hF 15 rfl)) ((hs.1 17 rfl 68 rfl).trans (hF 17 rfl)) (hsub))⟩,
        .inr ⟨gkT 12 true rfl rfl 63 rfl (fun _ _ h => h), fun A w' γ hb hF hs => g_eq (op_slice_str 9 (.tmp 64) (.tmp 69) rfl ((hs.1 13 rfl 64 rfl).trans (hF 13 rfl)) ((hs.1 18 rfl 69 rfl).trans (hF 18 rfl)) Tryd.underlying9 (hsl w'))⟩,
        .inr ⟨gkT 12 true rfl rfl 63 rfl (fun _ _ h => h), fun A w' γ hb hF hs => g_eq (op_move (.tmp 7) (.inl rfl) ((hs.2 7 rfl).trans rfl))⟩,
        .inr ⟨gkT 12 true rfl rfl 63 rfl (fun _ _ h => h), fun A w' γ hb hF hs => g_eq (op_eq_str 9 _ (.tmp 70) (.tmp 71) (S1) (S1) true rfl ((hs.1 19 rfl 70 rfl).trans (hF 19 rfl)) ((hs.1 20 rfl 71 rfl).trans (hF 20 rfl)) (by simp))⟩,
        .inr ⟨gk0 rfl, fun A w' γ hb hF hs => g_eq (op_pick (.tmp 63) (.tmp 72) (.const (.bool false)) true rfl ((hs.1 12 rfl 63 rfl).trans (hF 12 rfl)) ((hs.1 21 rfl 72 rfl).trans (hF 21 rfl)))⟩,
        .inr ⟨gk0 rfl, fun A w' γ hb hF hs => g_eq (op_move (.tmp 73) (.inl rfl) ((hs.1 22 rfl 73 rfl).trans (hF 22 rfl)))⟩,
        .inr ⟨gkT 23 true rfl rfl 74 rfl (fun _ _ h => h), fun A w' γ hb hF hs => g_eq (op_move (.tmp 10) (.inl rfl) ((hs.2 10 rfl).trans rfl))⟩,
        .inr ⟨gkT 23 true rfl rfl 74 rfl (fun _ _ h => h), fun A w' γ hb hF hs => g_eq (op_eq_int 59 _ (.tmp 75) (.const (.int .i64 0)) .i64 (0) (0) true rfl ((hs.1 24 rfl 75 rfl).trans (hF 24 rfl)) rfl (by simp))⟩,
        .inr ⟨gk0 rfl, fun A w' γ hb hF hs => g_eq (op_pick (.tmp 74) (.tmp 76) (.const (.bool false)) true rfl ((hs.1 23 rfl 74 rfl).trans (hF 23 rfl)) ((hs.1 25 rfl 76 rfl).trans (hF 25 rfl)))⟩,
        .inr ⟨gk0 rfl, fun A w' γ hb hF hs => g_eq (op_move (.tmp 77) (.inl rfl) ((hs.1 26 rfl 77 rfl).trans (hF 26 rfl)))⟩,
        .inr ⟨gkT 27 true rfl rfl 78 rfl (fun _ _ h => h), fun A w' γ hb hF hs => g_eq (op_load 62 (.tmp 9) rfl ((hs.2 9 rfl).trans rfl) (K.out.2.2.1.below hb K.out.2.2.1.lt) Tryd.underlying62 (iU))⟩,
        .inr ⟨gkT 27 true rfl rfl 78 rfl (fun _ _ h => h), fun A w' γ hb hF hs => g_eq (op_load 38 (.tmp 2) rfl ((hs.2 2 rfl).trans rfl) (K.out.1.below hb K.out.1.lt) Tryd.underlying38 (i1))⟩,
        .inr ⟨gkT 27 true rfl rfl 78 rfl (fun _ _ h => h), fun A w' γ hb hF hs => g_eq (op_call 44 #[.agg A1] (exec_call _ 44 #[.agg A1] rfl rfl (margs1 ((hs.1 29 rfl 80 rfl).trans (hF 29 rfl))) Tryd.func44 rfl rfl) (cN w'))⟩,
        .inr ⟨gkT 27 true rfl rfl 78 rfl (fun _ _ h => h), fun A w' γ hb hF hs => g_eq (op_eq_agg 62 _ (.tmp 79) (.tmp 81) (UN) (UN) true rfl ((hs.1 28 rfl 79 rfl).trans (hF 28 rfl)) ((hs.1 30 rfl 81 rfl).trans (hF 30 rfl)) (by kernel_rfl) (eU _))⟩,
        .inr ⟨gk0 rfl, fun A w' γ hb hF hs => g_eq (op_pick (.tmp 78) (.tmp 82) (.const (.bool false)) true rfl ((hs.1 27 rfl 78 rfl).trans (hF 27 rfl)) ((hs.1 31 rfl 82 rfl).trans (hF 31 rfl)))⟩,
        .inr ⟨gk0 rfl, fun A w' γ hb hF hs => g_eq (op_move (.tmp 83) (.inl rfl) ((hs.1 32 rfl 83 rfl).trans (hF 32 rfl)))⟩,
        .inr ⟨gkT 33 true rfl rfl 84 rfl (fun _ _ h => h), fun A w' γ hb hF hs => g_eq (op_load 62 (.tmp 9) rfl ((hs.2 9 rfl).trans rfl) (K.out.2.2.1.below hb K.out.2.2.1.lt) Tryd.underlying62 (iU))⟩,
        .inr ⟨gkT 33 true rfl rfl 84 rfl (fun _ _ h => h), fun A w' γ hb hF hs => g_eq (op_call 47 #[.agg UN] (exec_call _ 47 #[.agg UN] rfl rfl (margs1 ((hs.1 34 rfl 85 rfl).trans (hF 34 rfl))) Tryd.func47 rfl rfl) (cF w'))⟩,
        .inr ⟨gkT 33 true rfl rfl 84 rfl (fun _ _ h => h), fun A w' γ hb hF hs => g_eq (op_call 41 #[.agg A1] (exec_call _ 41 #[.agg A1] rfl rfl (margs1 ((hs.1 35 rfl 86 rfl).trans (hF 35 rfl))) Tryd.func41 rfl rfl) (cT w'))⟩,
        .inr ⟨gkT 33 true rfl rfl 84 rfl (fun _ _ h => h), fun A w' γ hb hF hs => g_eq (op_move (.tmp 8) (.inl rfl) ((hs.2 8 rfl).trans rfl))⟩,
        .inr ⟨gkT 33 true rfl rfl 84 rfl (fun _ _ h => h), fun A w' γ hb hF hs => g_eq (op_eq_str 9 _ (.tmp 87) (.tmp 88) (S2) (S2) true rfl ((hs.1 36 rfl 87 rfl).trans (hF 36 rfl)) ((hs.1 37 rfl 88 rfl).trans (hF 37 rfl)) (by simp))⟩,
        .inr ⟨gk0 rfl, fun A w' γ hb hF hs => g_eq (op_pick (.tmp 84) (.tmp 89) (.const (.bool false)) true rfl ((hs.1 33 rfl 84 rfl).trans (hF 33 rfl)) ((hs.1 38 rfl 89 rfl).trans (hF 38 rfl)))⟩,
        .inr ⟨gk0 rfl, fun A w' γ hb hF hs => g_eq (op_move (.tmp 90) (.inr rfl) ((hs.1 39 rfl 90 rfl).trans (hF 39 rfl)))⟩,
        trivial⟩ ?_
      intro γ w' hb hF
      have bz := bt K.out.2.2.2.2 hb
      have ez : γ 40 = .bool true := hF 40 (by decide)
      simp only [Fr, if_true, Act.put, List.setIfInBounds_toArray, List.set_cons_zero, List.set_cons_succ]
      rw [ez]
      clear ez hF hsl hsub cD
      go_wp2
      go_ret
      exact ⟨rfl, bz⟩
theorem Pairs_walk (w : World) (hL : Laid w) (a : List UInt8) (ha : a.length = 32) (b : List UInt8) (hb : b.length = 32) :
    Calls Tryd.prog 12 #[.agg (u8cells a), .agg (u8cells b)] w fun e w' => e = .returned (.bool true) ∧ Below w.heap.size w w' := by
  have hT := leN_T a 32 (Nat.le_refl _)
  have h64 := hexT_hexB a ha
  have hlen := hexLen_le (leN a 32) hT
  refine Pairs_core w hL a b ha hb _ _ (u8cells (sumOf (sumOf (a ++ b)))) (ucells (leN a 32)) (leN a 32) (hexLen (leN a 32)) (bstr (hexB (leN a 32) (hexLen (leN a 32)))) (bstr (hexT a)) rfl rfl rfl hlen (by rw [bstr_size', hexB_length]) (by rw [bstr_size', hexT_length]) (fun i h hi => ?_) ?_ (fun w hL => Pair_any a b ha hb w hL) (fun g cap h1 h2 w hr hL => ?_) (fun w => ?_) (fun w => ?_) (fun w => Number_any a ha w) (fun w => ?_) (fun w => Text_any a ha w) (fun w => Hex_any _ w hT) (fun w => ?_)
  · rw [bstr_at', h64, hexB_zeros _ _ i (hexLen_lt _) hi]
    rfl
  · rw [bstr_extract, h64, hexB_drop _ _ hlen]
  · exact Double_any (some ⟨g, 0, none⟩) (a ++ b) 64 cap (by simp [ha, hb]) h1 ⟨by omega, h2⟩ (fun h => by cases h) w hr hL
  · exact eqH _ _ true (sumOf_length _) (sumOf_length _) (by simp) w
  · exact eqUU (leN a 32) w
  · have := FromNumber_any (leN a 32) hT w
    rw [leB_leN a ha] at this
    exact this
  · have := FromHex_some (hexT a) w (fun h => by have := hexT_length a; rw [h] at this; cases this)
    rw [h64, hexR_of _ (leN a 32) (ne_nil_of _ (by rw [hexB_length]; decide)) (allD_hexB _ _) (hexV_hexB _ _ (Nat.lt_of_lt_of_le hT (by decide))) hT] at this
    rw [h64]
    exact this
end Go.Proofs.YtfebknplkbeblaaDoor
