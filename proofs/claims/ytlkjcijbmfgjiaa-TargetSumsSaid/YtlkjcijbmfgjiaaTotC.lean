/- TargetSums: its walk. -/
import Derived.Test.YtlkjcijbmfgjiaaTargI
import Derived.Test.YtlkjcijbmfgjiaaTotB
import Derived.Test.YtlkjcijbmfgjiaaGuardB
import Derived.Deep.DeepCutAuto
namespace Go.Proofs.Ytlkjcijbmfgjiaa
open Go.RowKit
set_option linter.unusedVariables false
theorem own_alloc {w : World} {base : Nat} {e : TypeId} {v : Value} {n : Nat} {xs : List Value} (h : w.ownsRow base e 1 v n xs) (ob : Obj) : (w.alloc ob).ownsRow base e 1 v n xs := by
  obtain ⟨h1, h2 | ⟨g, cap, cur, h3, h4, h5, h6⟩⟩ := h
  · exact ⟨h1, .inl h2⟩
  · exact ⟨h1, .inr ⟨g, cap, cur, h3, h4, (show Blk w g e cur from h5).alloc ob, h6⟩⟩
theorem rd_new (w : World) (b : Nat) (e : TypeId) : RdN (w.alloc (.cells #[.int .u32 (b : Nat)] e)) (some ⟨w.heap.size, 0, none⟩) [b] := by
  refine .inr ⟨w.heap.size, 0, rfl, by simp, fun i hi => ?_⟩
  have hi0 : i = 0 := by simp at hi; omega
  subst hi0
  exact blk_get (Blk.new w e #[.int .u32 (b : Nat)]) 0 _ rfl
theorem info_partsN {o : Option TypeInfo} {z : Option Value} {s b : Nat} (h : o.map (fun i => (i.zero, i.size, i.bytes)) = some (z, s, b)) : ∃ i, o = some i ∧ i.zero = z ∧ i.size = s ∧ i.bytes = b := by
  cases o with
  | none => cases h
  | some i => injection h with h; injection h with h1 h2; injection h2 with h2 h3; exact ⟨i, rfl, h1, h2, h3⟩
set_option maxRecDepth 100000 in
set_option maxHeartbeats 16000000 in
theorem TSums_core (a0 a1 : Option Addr) (l0 l1 : List Nat) (n0 c0 n1 c1 b x y z s m t : Nat) (one two lost ov wraps r1 eo g1 q5 ex : Bool) (ee cc : Int) (w : World) (R0 : Hid (RdN w a0 l0)) (R1 : Hid (RdN w a1 l1)) (HN : Hid (l0.length = n0 ∧ (a0 = none → n0 = 0 ∧ c0 = 0) ∧ l1.length = n1 ∧ (a1 = none → n1 = 0 ∧ c1 = 0)))
    (HT : Hid ((n0 ≤ 20 → ∀ w, RdN w a0 l0 → Calls Try.prog 24 #[.slice a0 n0 c0] w fun e w' => e = .returned (.tuple #[uval x, .bool one]) ∧ Below w.heap.size w w') ∧ (n1 ≤ 20 → ∀ w, RdN w a1 l1 → Calls Try.prog 24 #[.slice a1 n1 c1] w fun e w' => e = .returned (.tuple #[uval y, .bool two]) ∧ Below w.heap.size w w') ∧
      (∀ a c, n0 + n1 ≤ 40 → ∀ w, (l0 ++ l1).length = n0 + n1 → RdN w a (l0 ++ l1) → Calls Try.prog 24 #[.slice a (n0 + n1 : Nat) c] w fun e w' => e = .returned (.tuple #[uval z, .bool lost]) ∧ Below w.heap.size w w') ∧
      (∀ a c, n0 + 1 ≤ 40 → ∀ w, (l0 ++ [b]).length = n0 + 1 → RdN w a (l0 ++ [b]) → Calls Try.prog 24 #[.slice a (n0 + 1 : Nat) c] w fun e w' => e = .returned (.tuple #[uval m, .bool wraps]) ∧ Below w.heap.size w w')))
    (HA : Hid (SumIs x y s ov ∧ b < 4294967296 ∧ expR b = (t, ee)))
    (HQ : Hid ((∀ w, (Op.equalIn 10000 26 (.agg #[.int .u64 (lim z 0), .int .u64 (lim z 1), .int .u64 (lim z 2), .int .u64 (lim z 3)]) (.agg #[.int .u64 (lim s 0), .int .u64 (lim s 1), .int .u64 (lim s 2), .int .u64 (lim s 3)])).run Try.prog w = .ok true w) ∧ (one || two) = r1 ∧ (r1 || ov) = lost ∧ (ee == 0) = eo ∧ CmpIs m x cc ∧ decide (0 < cc) = g1 ∧ (eo == g1) = q5 ∧ (wraps || q5) = true ∧ (∀ w, (Op.equalIn 10000 26 (.agg #[.int .u64 (lim m 0), .int .u64 (lim m 1), .int .u64 (lim m 2), .int .u64 (lim m 3)]) (.agg #[.int .u64 (lim x 0), .int .u64 (lim x 1), .int .u64 (lim x 2), .int .u64 (lim x 3)])).run Try.prog w = .ok ex w) ∧ (eo || ex) = true)) :
    Calls Try.prog 5 #[.slice a0 n0 c0, .slice a1 n1 c1, .int .u32 b] w fun e w' => e = .returned (.bool true) ∧ Below w.heap.size w w' := by
  obtain ⟨i0, hi, hz0, hz1, hz2⟩ := info_partsN (show (Try.prog.info? 28).map (fun i => (i.zero, i.size, i.bytes)) = some (some (.int .u32 0), 1, 4) by kernel_rfl)
  have I := Lib.hid (And.intro hi (And.intro hz0 (And.intro hz1 hz2))); clear hi hz0 hz1 hz2
  go_enter Try.func5, Try.ntmps5
  go_wp2_with fail
  refine (Awake05 _).mono ?_
  rintro e w1 ⟨rfl, bb⟩
  by_cases h0 : 20 < n0
  · have h0' : decide ((20 : Int) < (n0 : Int)) = true := decide_eq_true (by omega)
    go_wp2
    go_ret
    exact ⟨rfl, bb⟩
  have h0' : decide ((20 : Int) < (n0 : Int)) = false := decide_eq_false (by omega)
  by_cases h1 : 20 < n1
  · have h1' : decide ((20 : Int) < (n1 : Int)) = true := decide_eq_true (by omega)
    go_wp2
    go_ret
    exact ⟨rfl, bb⟩
  have h1' : decide ((20 : Int) < (n1 : Int)) = false := decide_eq_false (by omega)
  go_wp2_with fail
  refine (HT.out.1 (by omega) _ (R0.out.below bb (Nat.le_refl _))).mono ?_
  rintro e w2 ⟨rfl, hb⟩
  simp only [uval]
  replace bb := bt bb hb
  clear hb h0' h1'
  go_wp2_with fail
  refine (HT.out.2.1 (by omega) _ (R1.out.below (ba bb _) (Nat.le_refl _))).mono ?_
  rintro e w3 ⟨rfl, hb⟩
  simp only [uval]
  have q_x : Blk w3 (w2.heap.size) 26 (ucells x) := (Blk.newAt w2 _ (ucells x) rfl).calls hb
  replace bb := bt (ba bb _) hb
  have l_x := q_x.lt
  clear hb
  have z0 := bs0_run
  go_wp2_with (at_builtin; refine wl_appN (own_newAt (base := w3.heap.size + 1) 28 (by simp) (Nat.le_refl _)) rfl _ _ 44 rfl Try.underlying44 i0 I.out.1 I.out.2.1 I.out.2.2.1 I.out.2.2.2 rfl a0 n0 c0 l0 rfl (R0.out.below (ba (ba bb _) _) (Nat.le_refl _)) HN.out.1 HN.out.2.1 (by omega) (by simp) ?_)
  intro v1 w4 hw1 hg1 hn1
  replace hw1 : w4.ownsRow (w3.heap.size + 1) 28 1 v1 n0 (nvals l0) := by simpa using hw1
  have ob1 : v1.ownBlock = none ∨ ∃ k, v1.ownBlock = some k ∧ w3.heap.size + 1 ≤ k := by obtain ⟨_, _, _, _, _, h⟩ := own_rdN hw1; exact h
  have b0 := bb.size
  have q_y : Blk w4 (w3.heap.size) 26 (ucells y) := ((Blk.newAt w3 _ (ucells y) rfl).alloc _).grownN hg1 (by simp [Value.ownBlock])
  replace q_x : Blk w4 (w2.heap.size) 26 (ucells x) := ((q_x.alloc _).alloc _).grownN hg1 (by simp [Value.ownBlock]; omega)
  replace bb := below_grownN (ba (ba bb _) _) hg1 (by simp; omega) (by intro k hk; simp [Value.ownBlock] at hk; omega)
  have s4 : w3.heap.size + 2 ≤ w4.heap.size := by have := hg1.size; simpa using this
  clear hg1 hn1
  go_wp2_with (at_builtin; refine wl_appN hw1 rfl _ _ 44 rfl Try.underlying44 i0 I.out.1 I.out.2.1 I.out.2.2.1 I.out.2.2.2 rfl a1 n1 c1 l1 rfl (R1.out.below bb (Nat.le_refl _)) HN.out.2.2.1 HN.out.2.2.2 (by omega) (by omega) ?_)
  intro v2 w5 hw2 hg2 hn2
  replace hw2 : w5.ownsRow (w3.heap.size + 1) 28 1 v2 (n0 + n1) (nvals (l0 ++ l1)) := by first | exact hw2 | (rw [nvals, List.map_append]; exact hw2)
  obtain ⟨a3, c3, rfl, hl3, rd3, ob3⟩ := own_rdN hw2
  have ne : ∀ g, g < w3.heap.size + 1 → some g ≠ v1.ownBlock := fun g hg h => by rcases ob1 with k | ⟨j, k, hj⟩ <;> rw [k] at h <;> simp at h; omega
  replace q_x : Blk w5 (w2.heap.size) 26 (ucells x) := q_x.grownN hg2 (ne w2.heap.size (by omega))
  replace q_y : Blk w5 (w3.heap.size) 26 (ucells y) := q_y.grownN hg2 (ne w3.heap.size (by omega))
  replace bb := below_grownN bb hg2 (by omega) (by intro k hk; rcases ob1 with h | ⟨j, h, hj⟩ <;> rw [h] at hk <;> simp at hk; omega)
  clear hg2 hn2 hw1 hw2 ob1 ob3 ne s4 b0
  go_wp2_with fail
  refine (HT.out.2.2.1 a3 c3 (by omega) _ hl3 rd3).mono ?_
  rintro e w6 ⟨rfl, hb⟩
  simp only [uval]
  replace q_x : Blk w6 (w2.heap.size) 26 (ucells x) := q_x.calls hb
  replace q_y : Blk w6 (w3.heap.size) 26 (ucells y) := q_y.calls hb
  replace bb := bt bb hb
  clear hb hl3 rd3
  go_wp2_with (first | with_reducible refine wl_row (q_x.alloc _) _ _ rfl rfl rfl _ _ Try.underlying26 (i26 x) ?_ | with_reducible refine wl_row (q_y.alloc _) _ _ rfl rfl rfl _ _ Try.underlying26 (i26 y) ?_)
  refine (Add_any x y s ov _ HA.out.1).mono ?_
  rintro e w7 ⟨rfl, hb⟩
  simp only [uval]
  have q_z : Blk w7 (w6.heap.size) 26 (ucells z) := (Blk.newAt w6 _ (ucells z) rfl).calls hb
  replace q_x : Blk w7 (w2.heap.size) 26 (ucells x) := (q_x.alloc _).calls hb
  replace q_y : Blk w7 (w3.heap.size) 26 (ucells y) := (q_y.alloc _).calls hb
  replace bb := bt (ba bb _) hb
  clear hb
  clear q_y
  have l_x' := q_x.lt
  have l_z := q_z.lt
  go_wp2_with (at_builtin; refine wl_appN (own_newAt (base := w7.heap.size + 1) 28 (by simp) (Nat.le_refl _)) rfl _ _ 44 rfl Try.underlying44 i0 I.out.1 I.out.2.1 I.out.2.2.1 I.out.2.2.2 rfl a0 n0 c0 l0 rfl (R0.out.below (ba (ba bb _) _) (Nat.le_refl _)) HN.out.1 HN.out.2.1 (by omega) (by simp) ?_)
  intro v3 w8 hw1 hg1 hn1
  replace hw1 : w8.ownsRow (w7.heap.size + 1) 28 1 v3 n0 (nvals l0) := by simpa using hw1
  have ob1 : v3.ownBlock = none ∨ ∃ k, v3.ownBlock = some k ∧ w7.heap.size + 1 ≤ k := by obtain ⟨_, _, _, _, _, h⟩ := own_rdN hw1; exact h
  have b0 := bb.size
  have q_s : Blk w8 (w7.heap.size) 26 (ucells s) := ((Blk.newAt w7 _ (ucells s) rfl).alloc _).grownN hg1 (by simp [Value.ownBlock])
  replace q_x : Blk w8 (w2.heap.size) 26 (ucells x) := ((q_x.alloc _).alloc _).grownN hg1 (by simp [Value.ownBlock]; omega)
  replace q_z : Blk w8 (w6.heap.size) 26 (ucells z) := ((q_z.alloc _).alloc _).grownN hg1 (by simp [Value.ownBlock]; omega)
  replace bb := below_grownN (ba (ba bb _) _) hg1 (by simp; omega) (by intro k hk; simp [Value.ownBlock] at hk; omega)
  have s4 : w7.heap.size + 2 ≤ w8.heap.size := by have := hg1.size; simpa using this
  clear hg1 hn1 z0
  have z1 := bs1_run b
  go_wp2_with (at_builtin; refine wl_appN (own_alloc hw1 _) rfl _ _ 44 rfl Try.underlying44 i0 I.out.1 I.out.2.1 I.out.2.2.1 I.out.2.2.2 rfl (some ⟨w8.heap.size, 0, none⟩) 1 1 [b] rfl (rd_new w8 b 28) rfl (fun h => by cases h) (by omega) (by simp; omega) ?_)
  intro v4 w9 hw2 hg2 hn2
  replace hw2 : w9.ownsRow (w7.heap.size + 1) 28 1 v4 (n0 + 1) (nvals (l0 ++ [b])) := by first | exact hw2 | (rw [nvals, List.map_append]; exact hw2)
  obtain ⟨a5, c5, rfl, hl5, rd5, ob5⟩ := own_rdN hw2
  have ne : ∀ g, g < w7.heap.size + 1 → some g ≠ v3.ownBlock := fun g hg h => by rcases ob1 with k | ⟨j, k, hj⟩ <;> rw [k] at h <;> simp at h; omega
  replace q_x : Blk w9 (w2.heap.size) 26 (ucells x) := (q_x.alloc _).grownN hg2 (ne (w2.heap.size) (by omega))
  replace q_z : Blk w9 (w6.heap.size) 26 (ucells z) := (q_z.alloc _).grownN hg2 (ne (w6.heap.size) (by omega))
  replace q_s : Blk w9 (w7.heap.size) 26 (ucells s) := (q_s.alloc _).grownN hg2 (ne (w7.heap.size) (by omega))
  replace bb := below_grownN (ba bb _) hg2 (by simp; omega) (by intro k hk; rcases ob1 with h | ⟨j, h, hj⟩ <;> rw [h] at hk <;> simp at hk; omega)
  clear hg2 hn2 hw1 hw2 ob1 ob5 ne s4 b0 z1
  go_wp2_with fail
  refine (HT.out.2.2.2 a5 c5 (by omega) _ hl5 rd5).mono ?_
  rintro e w10 ⟨rfl, hb⟩
  simp only [uval]
  replace q_x : Blk w10 (w2.heap.size) 26 (ucells x) := q_x.calls hb
  replace q_z : Blk w10 (w6.heap.size) 26 (ucells z) := q_z.calls hb
  replace q_s : Blk w10 (w7.heap.size) 26 (ucells s) := q_s.calls hb
  replace bb := bt bb hb
  clear hb hl5 rd5
  go_wp2_with fail
  refine (Expand_any b t ee HA.out.2.1 HA.out.2.2 _).mono ?_
  rintro e w11 ⟨rfl, hb⟩
  simp only [uval]
  have q_m : Blk w11 (w10.heap.size) 26 (ucells m) := (Blk.newAt w10 _ (ucells m) rfl).calls hb
  replace q_x : Blk w11 (w2.heap.size) 26 (ucells x) := (q_x.alloc _).calls hb
  replace q_z : Blk w11 (w6.heap.size) 26 (ucells z) := (q_z.alloc _).calls hb
  replace q_s : Blk w11 (w7.heap.size) 26 (ucells s) := (q_s.alloc _).calls hb
  replace bb := bt (ba bb _) hb
  clear hb
  go_upto_region 14 with fail
  change Code.wp _ _ _ _ (w11.alloc (Obj.cells (ucells t) 26))
  replace q_x : Blk (w11.alloc (Obj.cells (ucells t) 26)) (w2.heap.size) 26 (ucells x) := q_x.alloc _
  replace q_z : Blk (w11.alloc (Obj.cells (ucells t) 26)) (w6.heap.size) 26 (ucells z) := q_z.alloc _
  replace q_s : Blk (w11.alloc (Obj.cells (ucells t) 26)) (w7.heap.size) 26 (ucells s) := q_s.alloc _
  replace q_m : Blk (w11.alloc (Obj.cells (ucells t) 26)) (w10.heap.size) 26 (ucells m) := q_m.alloc _
  replace bb : Below w.heap.size w (w11.alloc (Obj.cells (ucells t) 26)) := ba bb _
  generalize (w11.alloc (Obj.cells (ucells t) 26)) = w12 at *
  have k_x := q_x.lt
  have k_z := q_z.lt
  have k_s := q_s.lt
  have k_m := q_m.lt
  refine wp_region_q [some 76, some 77, some 78, some 79, some 80, some 81, some 82, some 83, some 84, some 85, some 86, some 87, some 88, some 89, some 90, some 91, some 92, some 93, some 94, some 95, some 96, some 97, some 98, some 99, some 100, some 101, some 102, some 103, some 104, some 105, some 106, some 107, some 108, some 109, some 110, some 111, some 112, some 113, some 6] (FL [
      EqV (.bool true),
      EqV (.bool true),
      EqV (.agg (ucells z)),
      EqV (.agg (ucells s)),
      EqV (.bool true),
      EqV (.bool true),
      EqV (.bool true),
      EqV (.bool lost),
      EqV (.bool one),
      EqV (.bool one),
      IfV (one == false) (.bool two),
      EqV (.bool r1),
      EqV (.bool r1),
      IfV (r1 == false) (.bool ov),
      EqV (.bool lost),
      EqV (.bool true),
      EqV (.bool true),
      EqV (.bool true),
      EqV (.bool wraps),
      EqV (.bool wraps),
      IfV (wraps == false) (.int .i64 ee),
      IfV (wraps == false) (.bool eo),
      IfV (wraps == false) (.agg (ucells m)),
      IfV (wraps == false) (.agg (ucells x)),
      IfV (wraps == false) (.int .i64 cc),
      IfV (wraps == false) (.bool g1),
      IfV (wraps == false) (.bool q5),
      EqV (.bool true),
      EqV (.bool true),
      EqV (.bool true),
      EqV (.int .i64 ee),
      EqV (.bool eo),
      EqV (.bool eo),
      IfV (eo == false) (.agg (ucells m)),
      IfV (eo == false) (.agg (ucells x)),
      IfV (eo == false) (.bool ex),
      EqV (.bool true),
      EqV (.bool true),
      EqV (.bool true)
    ]) (FL_keeps ⟨keeps_eq _, keeps_eq _, keeps_eq _, keeps_eq _, keeps_eq _, keeps_eq _, keeps_eq _, keeps_eq _, keeps_eq _, keeps_eq _, keeps_if _ _, keeps_eq _, keeps_eq _, keeps_if _ _, keeps_eq _, keeps_eq _, keeps_eq _, keeps_eq _, keeps_eq _, keeps_eq _, keeps_if _ _, keeps_if _ _, keeps_if _ _, keeps_if _ _, keeps_if _ _, keeps_if _ _, keeps_if _ _, keeps_eq _, keeps_eq _, keeps_eq _, keeps_eq _, keeps_eq _, keeps_eq _, keeps_if _ _, keeps_if _ _, keeps_if _ _, keeps_eq _, keeps_eq _, keeps_eq _, trivial⟩) rfl rfl rfl rfl ⟨
    q_of (.inr ⟨gk0 rfl, fun A w' γ hb hF hs => g_eq (op_move (.tmp 7) (.inl rfl) ((hs.2 7 rfl).trans rfl))⟩),
    q_of (.inr ⟨gk0 rfl, fun A w' γ hb hF hs => g_eq (op_move (.tmp 76) (.inl rfl) ((hs.1 0 rfl 76 rfl).trans (hF 0 rfl)))⟩),
    q_of (.inr ⟨gkT 1 true rfl rfl 77 rfl (fun _ _ h => h), fun A w' γ hb hF hs => g_eq (op_load 26 (.tmp 13) rfl ((hs.2 13 rfl).trans rfl) (q_z.below hb k_z) Try.underlying26 (i26 _))⟩),
    q_of (.inr ⟨gkT 1 true rfl rfl 77 rfl (fun _ _ h => h), fun A w' γ hb hF hs => g_eq (op_load 26 (.tmp 15) rfl ((hs.2 15 rfl).trans rfl) (q_s.below hb k_s) Try.underlying26 (i26 _))⟩),
    q_of (.inr ⟨gkT 1 true rfl rfl 77 rfl (fun _ _ h => h), fun A w' γ hb hF hs => g_eq (op_eq_agg 26 _ (.tmp 78) (.tmp 79) ((ucells z)) ((ucells s)) true rfl ((hs.1 2 rfl 78 rfl).trans (hF 2 rfl)) ((hs.1 3 rfl 79 rfl).trans (hF 3 rfl)) (by kernel_rfl) (HQ.out.1 _))⟩),
    q_of (.inr ⟨gk0 rfl, fun A w' γ hb hF hs => g_eq (op_pick (.tmp 77) (.tmp 80) (.const (.bool false)) true rfl ((hs.1 1 rfl 77 rfl).trans (hF 1 rfl)) ((hs.1 4 rfl 80 rfl).trans (hF 4 rfl)))⟩),
    q_of (.inr ⟨gk0 rfl, fun A w' γ hb hF hs => g_eq (op_move (.tmp 81) (.inl rfl) ((hs.1 5 rfl 81 rfl).trans (hF 5 rfl)))⟩),
    q_of (.inr ⟨gkT 6 true rfl rfl 82 rfl (fun _ _ h => h), fun A w' γ hb hF hs => g_eq (op_move (.tmp 14) (.inl rfl) ((hs.2 14 rfl).trans rfl))⟩),
    q_of (.inr ⟨gkT 6 true rfl rfl 82 rfl (fun _ _ h => h), fun A w' γ hb hF hs => g_eq (op_move (.tmp 9) (.inl rfl) ((hs.2 9 rfl).trans rfl))⟩),
    q_of (.inr ⟨gkT 6 true rfl rfl 82 rfl (fun _ _ h => h), fun A w' γ hb hF hs => g_eq (op_move (.tmp 84) (.inl rfl) ((hs.1 8 rfl 84 rfl).trans (hF 8 rfl)))⟩),
    q_if 9 false one rfl rfl 85 rfl (fun _ _ h => h) (fun h0 w hh => by rw [h0] at hh; cases hh) (fun hw A w' γ hb hF hs => g_if (g_eq (op_move (.tmp 11) (.inl rfl) ((hs.2 11 rfl).trans rfl)))),
    q_of (.inr ⟨gkT 6 true rfl rfl 82 rfl (fun _ _ h => h), fun A w' γ hb hF hs => g_eq (op_pick_or (.tmp 85) (.tmp 86) (one) (two) (r1) rfl ((hs.1 9 rfl 85 rfl).trans (hF 9 rfl)) (fun hw => ((hs.1 10 rfl 86 rfl).trans (hF 10 rfl hw))) (HQ.out.2.1))⟩),
    q_of (.inr ⟨gkT 6 true rfl rfl 82 rfl (fun _ _ h => h), fun A w' γ hb hF hs => g_eq (op_move (.tmp 87) (.inl rfl) ((hs.1 11 rfl 87 rfl).trans (hF 11 rfl)))⟩),
    q_if 12 false r1 rfl rfl 88 rfl (fun _ _ h => h) (fun h0 w hh => by rw [h0] at hh; cases hh) (fun hw A w' γ hb hF hs => g_if (g_eq (op_move (.tmp 16) (.inl rfl) ((hs.2 16 rfl).trans rfl)))),
    q_of (.inr ⟨gkT 6 true rfl rfl 82 rfl (fun _ _ h => h), fun A w' γ hb hF hs => g_eq (op_pick_or (.tmp 88) (.tmp 89) (r1) (ov) (lost) rfl ((hs.1 12 rfl 88 rfl).trans (hF 12 rfl)) (fun hw => ((hs.1 13 rfl 89 rfl).trans (hF 13 rfl hw))) (HQ.out.2.2.1))⟩),
    q_of (.inr ⟨gkT 6 true rfl rfl 82 rfl (fun _ _ h => h), fun A w' γ hb hF hs => g_eq (op_eq_bool 4 _ (.tmp 83) (.tmp 90) (lost) (lost) true rfl ((hs.1 7 rfl 83 rfl).trans (hF 7 rfl)) ((hs.1 14 rfl 90 rfl).trans (hF 14 rfl)) Try.underlying4 (by cases lost <;> rfl))⟩),
    q_of (.inr ⟨gk0 rfl, fun A w' γ hb hF hs => g_eq (op_pick (.tmp 82) (.tmp 91) (.const (.bool false)) true rfl ((hs.1 6 rfl 82 rfl).trans (hF 6 rfl)) ((hs.1 15 rfl 91 rfl).trans (hF 15 rfl)))⟩),
    q_of (.inr ⟨gk0 rfl, fun A w' γ hb hF hs => g_eq (op_move (.tmp 92) (.inl rfl) ((hs.1 16 rfl 92 rfl).trans (hF 16 rfl)))⟩),
    q_of (.inr ⟨gkT 17 true rfl rfl 93 rfl (fun _ _ h => h), fun A w' γ hb hF hs => g_eq (op_move (.tmp 19) (.inl rfl) ((hs.2 19 rfl).trans rfl))⟩),
    q_of (.inr ⟨gkT 17 true rfl rfl 93 rfl (fun _ _ h => h), fun A w' γ hb hF hs => g_eq (op_move (.tmp 94) (.inl rfl) ((hs.1 18 rfl 94 rfl).trans (hF 18 rfl)))⟩),
    q_if 19 false wraps rfl rfl 95 rfl (fun _ _ h => h) (fun h0 w hh => by rw [h0] at hh; cases hh) (fun hw A w' γ hb hF hs => g_if (g_eq (op_move (.tmp 21) (.inl rfl) ((hs.2 21 rfl).trans rfl)))),
    q_if 19 false wraps rfl rfl 95 rfl (fun _ _ h => h) (fun h0 w hh => by rw [h0] at hh; cases hh) (fun hw A w' γ hb hF hs => g_if (g_eq (op_eq_int 30 _ (.tmp 96) (.const (.int .i64 0)) .i64 (ee) (0) eo rfl ((hs.1 20 rfl 96 rfl).trans (hF 20 rfl hw)) rfl (HQ.out.2.2.2.1)))),
    q_if 19 false wraps rfl rfl 95 rfl (fun _ _ h => h) (fun h0 w hh => by rw [h0] at hh; cases hh) (fun hw A w' γ hb hF hs => g_if (g_eq (op_load 26 (.tmp 18) rfl ((hs.2 18 rfl).trans rfl) (q_m.below hb k_m) Try.underlying26 (i26 _)))),
    q_if 19 false wraps rfl rfl 95 rfl (fun _ _ h => h) (fun h0 w hh => by rw [h0] at hh; cases hh) (fun hw A w' γ hb hF hs => g_if (g_eq (op_load 26 (.tmp 8) rfl ((hs.2 8 rfl).trans rfl) (q_x.below hb k_x) Try.underlying26 (i26 _)))),
    q_if 19 false wraps rfl rfl 95 rfl (fun _ _ h => h) (fun h0 w hh => by rw [h0] at hh; cases hh) (fun hw A w' γ hb hF hs => g_if (g_eq (op_call 17 #[.agg (ucells m), .agg (ucells x)] (exec_call _ 17 #[.agg (ucells m), .agg (ucells x)] rfl rfl (oargs2 ((hs.1 22 rfl 98 rfl).trans (hF 22 rfl hw)) ((hs.1 23 rfl 99 rfl).trans (hF 23 rfl hw))) Try.func17 rfl rfl) (Cmp_any m x cc _ HQ.out.2.2.2.2.1)))),
    q_if 19 false wraps rfl rfl 95 rfl (fun _ _ h => h) (fun h0 w hh => by rw [h0] at hh; cases hh) (fun hw A w' γ hb hF hs => g_if (g_eq (op_gtr 3 _ (.tmp 100) (.const (.int .i64 0)) .i64 (cc) (0) g1 rfl ((hs.1 24 rfl 100 rfl).trans (hF 24 rfl hw)) rfl (HQ.out.2.2.2.2.2.1)))),
    q_if 19 false wraps rfl rfl 95 rfl (fun _ _ h => h) (fun h0 w hh => by rw [h0] at hh; cases hh) (fun hw A w' γ hb hF hs => g_if (g_eq (op_eq_bool 4 _ (.tmp 97) (.tmp 101) (eo) (g1) q5 rfl ((hs.1 21 rfl 97 rfl).trans (hF 21 rfl hw)) ((hs.1 25 rfl 101 rfl).trans (hF 25 rfl hw)) Try.underlying4 (HQ.out.2.2.2.2.2.2.1)))),
    q_of (.inr ⟨gkT 17 true rfl rfl 93 rfl (fun _ _ h => h), fun A w' γ hb hF hs => g_eq (op_pick_or (.tmp 95) (.tmp 102) (wraps) (q5) (true) rfl ((hs.1 19 rfl 95 rfl).trans (hF 19 rfl)) (fun hw => ((hs.1 26 rfl 102 rfl).trans (hF 26 rfl hw))) (HQ.out.2.2.2.2.2.2.2.1))⟩),
    q_of (.inr ⟨gk0 rfl, fun A w' γ hb hF hs => g_eq (op_pick (.tmp 93) (.tmp 103) (.const (.bool false)) true rfl ((hs.1 17 rfl 93 rfl).trans (hF 17 rfl)) ((hs.1 27 rfl 103 rfl).trans (hF 27 rfl)))⟩),
    q_of (.inr ⟨gk0 rfl, fun A w' γ hb hF hs => g_eq (op_move (.tmp 104) (.inl rfl) ((hs.1 28 rfl 104 rfl).trans (hF 28 rfl)))⟩),
    q_of (.inr ⟨gkT 29 true rfl rfl 105 rfl (fun _ _ h => h), fun A w' γ hb hF hs => g_eq (op_move (.tmp 21) (.inl rfl) ((hs.2 21 rfl).trans rfl))⟩),
    q_of (.inr ⟨gkT 29 true rfl rfl 105 rfl (fun _ _ h => h), fun A w' γ hb hF hs => g_eq (op_eq_int 30 _ (.tmp 106) (.const (.int .i64 0)) .i64 (ee) (0) eo rfl ((hs.1 30 rfl 106 rfl).trans (hF 30 rfl)) rfl (HQ.out.2.2.2.1))⟩),
    q_of (.inr ⟨gkT 29 true rfl rfl 105 rfl (fun _ _ h => h), fun A w' γ hb hF hs => g_eq (op_move (.tmp 107) (.inl rfl) ((hs.1 31 rfl 107 rfl).trans (hF 31 rfl)))⟩),
    q_if 32 false eo rfl rfl 108 rfl (fun _ _ h => h) (fun h0 w hh => by rw [h0] at hh; cases hh) (fun hw A w' γ hb hF hs => g_if (g_eq (op_load 26 (.tmp 18) rfl ((hs.2 18 rfl).trans rfl) (q_m.below hb k_m) Try.underlying26 (i26 _)))),
    q_if 32 false eo rfl rfl 108 rfl (fun _ _ h => h) (fun h0 w hh => by rw [h0] at hh; cases hh) (fun hw A w' γ hb hF hs => g_if (g_eq (op_load 26 (.tmp 8) rfl ((hs.2 8 rfl).trans rfl) (q_x.below hb k_x) Try.underlying26 (i26 _)))),
    q_if 32 false eo rfl rfl 108 rfl (fun _ _ h => h) (fun h0 w hh => by rw [h0] at hh; cases hh) (fun hw A w' γ hb hF hs => g_if (g_eq (op_eq_agg 26 _ (.tmp 109) (.tmp 110) ((ucells m)) ((ucells x)) ex rfl ((hs.1 33 rfl 109 rfl).trans (hF 33 rfl hw)) ((hs.1 34 rfl 110 rfl).trans (hF 34 rfl hw)) (by kernel_rfl) (HQ.out.2.2.2.2.2.2.2.2.1 _)))),
    q_of (.inr ⟨gkT 29 true rfl rfl 105 rfl (fun _ _ h => h), fun A w' γ hb hF hs => g_eq (op_pick_or (.tmp 108) (.tmp 111) (eo) (ex) (true) rfl ((hs.1 32 rfl 108 rfl).trans (hF 32 rfl)) (fun hw => ((hs.1 35 rfl 111 rfl).trans (hF 35 rfl hw))) (HQ.out.2.2.2.2.2.2.2.2.2))⟩),
    q_of (.inr ⟨gk0 rfl, fun A w' γ hb hF hs => g_eq (op_pick (.tmp 105) (.tmp 112) (.const (.bool false)) true rfl ((hs.1 29 rfl 105 rfl).trans (hF 29 rfl)) ((hs.1 36 rfl 112 rfl).trans (hF 36 rfl)))⟩),
    q_of (.inr ⟨gk0 rfl, fun A w' γ hb hF hs => g_eq (op_move (.tmp 113) (.inr rfl) ((hs.1 37 rfl 113 rfl).trans (hF 37 rfl)))⟩),
    trivial⟩ ?_
  intro γ w' hb hF
  have bz := bt bb hb
  have ez : γ 38 = .bool true := hF 38 (by decide)
  simp only [Fr, if_true, Act.put, List.setIfInBounds_toArray, List.set_cons_zero, List.set_cons_succ]
  rw [ez]
  clear ez hF
  go_wp2
  go_ret
  exact ⟨rfl, bz⟩
end Go.Proofs.Ytlkjcijbmfgjiaa
