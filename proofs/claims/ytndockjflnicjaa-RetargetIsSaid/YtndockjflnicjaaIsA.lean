/- florinref05: the document's Expand. -/
import Derived.Test.YtndockjflnicjaaTargA
import Derived.Test.YtndockjflnicjaaRefD
import Derived.Test.YtndockjflnicjaaStore
import Derived.Deep.DeepCutAuto
namespace Go.Proofs.Ytndockjflnicjaa
open Go.RowKit
set_option linter.unusedVariables false
set_option maxRecDepth 100000 in
set_option maxHeartbeats 4000000 in
theorem RExpand_lo (b e m t0 t v : Nat) (r s d1 d2 : Int) (z sn lost : Bool) (he : (b : Int) / 16777216 = (e : Int)) (he2 : IntKind.i64.wrap (e : Int) = (e : Int)) (hm : bits .and .u32 (b : Int) 8388607 = (m : Int)) (hm2 : IntKind.u64.wrap (m : Int) = (m : Int)) (hd1 : IntKind.i64.wrap (3 - (e : Int)) = d1) (hd2 : IntKind.i64.wrap (8 * d1) = d2) (hs : bits .and .u32 (b : Int) 8388608 = s)
    (cO : Hid (∀ w, Calls Try.prog 37 #[.int .u64 m] w fun e w' => e = .returned (uval m) ∧ Below w.heap.size w w')) (cR : Hid (∀ w, Calls Try.prog 38 #[uval m, .int .i64 d2] w fun e w' => e = .returned (uval t0) ∧ Below w.heap.size w w'))
    (h3 : decide ((3 : Int) < (e : Int)) = false) (ht : t0 = t) (hl : lost = false) (HQ : Hid ((∀ w, (Op.equalIn 10000 63 (.agg #[.int .u64 (lim t 0), .int .u64 (lim t 1), .int .u64 (lim t 2), .int .u64 (lim t 3)]) (.agg #[.int .u64 0, .int .u64 0, .int .u64 0, .int .u64 0])).run Try.prog w = .ok z w) ∧ (s != 0) = sn)) (HX : Hid ((z = true ∨ lost = true ∨ sn = true → v = 0 ∧ r = 7) ∧ (z = false → lost = false → sn = false → t = v ∧ r = 0))) (w : World) :
    Calls Try.prog 33 #[.int .u32 b] w fun q w' => q = .returned (.tuple #[uval v, .int .i64 r]) ∧ Below w.heap.size w w' := by
  have iZ : (Try.prog.info? 63).map (·.size) = some (#[.int .u64 0, .int .u64 0, .int .u64 0, .int .u64 0] : Array Value).size := by kernel_rfl
  have iL : ∀ v, (Try.prog.info? 63).map (·.size) = some (#[.int .u64 (lim v 0), .int .u64 (lim v 1), .int .u64 (lim v 2), .int .u64 (lim v 3)] : Array Value).size := fun v => iZ
  have aZ : (#[.int .u64 0, .int .u64 0, .int .u64 0, .int .u64 0] : Array Value).all (·.oneCell') = true := by simp [Value.oneCell']
  have aL : ∀ v, (#[.int .u64 (lim v 0), .int .u64 (lim v 1), .int .u64 (lim v 2), .int .u64 (lim v 3)] : Array Value).all (·.oneCell') = true := fun v => by simp [Value.oneCell']
  go_enter Try.func33, Try.ntmps33
  go_wp2_with fail
  refine (cO.out _).mono ?_
  rintro q w1 ⟨rfl, hb1⟩
  simp only [uval]
  have B0 : Blk w1 w.heap.size 63 #[.int .u64 0, .int .u64 0, .int .u64 0, .int .u64 0] := (Blk.newAt w _ #[.int .u64 0, .int .u64 0, .int .u64 0, .int .u64 0] rfl).calls hb1
  have bb := bt (ba (Below.refl w.heap.size w) _) hb1
  clear hb1
  subst ht hl
  go_wp2_with fail
  refine (cR.out _).mono ?_
  rintro q w2 ⟨rfl, hb1⟩
  simp only [uval]
  replace B0 := (B0.alloc (.cells #[.int .u64 (lim m 0), .int .u64 (lim m 1), .int .u64 (lim m 2), .int .u64 (lim m 3)] 63)).calls hb1
  have B1 : Blk w2 w1.heap.size 63 #[.int .u64 (lim m 0), .int .u64 (lim m 1), .int .u64 (lim m 2), .int .u64 (lim m 3)] := (Blk.newAt w1 _ #[.int .u64 (lim m 0), .int .u64 (lim m 1), .int .u64 (lim m 2), .int .u64 (lim m 3)] rfl).calls hb1
  replace bb := bt (ba bb (.cells #[.int .u64 (lim m 0), .int .u64 (lim m 1), .int .u64 (lim m 2), .int .u64 (lim m 3)] 63)) hb1
  clear hb1
  clear B1
  replace B0 := B0.alloc (.cells #[.int .u64 (lim t0 0), .int .u64 (lim t0 1), .int .u64 (lim t0 2), .int .u64 (lim t0 3)] 63)
  have B2 : Blk (w2.alloc (.cells #[.int .u64 (lim t0 0), .int .u64 (lim t0 1), .int .u64 (lim t0 2), .int .u64 (lim t0 3)] 63)) w2.heap.size 63 #[.int .u64 (lim t0 0), .int .u64 (lim t0 1), .int .u64 (lim t0 2), .int .u64 (lim t0 3)] := Blk.newAt w2 _ #[.int .u64 (lim t0 0), .int .u64 (lim t0 1), .int .u64 (lim t0 2), .int .u64 (lim t0 3)] rfl
  replace bb := ba bb (.cells #[.int .u64 (lim t0 0), .int .u64 (lim t0 1), .int .u64 (lim t0 2), .int .u64 (lim t0 3)] 63)
  have qz := HQ.out.1
  have hsn := HQ.out.2
  cases z
  · cases sn
    · obtain ⟨rfl, rfl⟩ := HX.out.2 (by trivial) (by trivial) (by trivial)
      go_wp2_with (first | with_reducible refine wl_row B2 _ _ rfl rfl rfl _ _ Try.underlying63 (iL t0) ?_ | with_reducible refine ws_row B0 _ _ _ _ rfl rfl rfl rfl (iL t0) rfl (aL t0) ?_)
      refine bodyPost_ret (v := .tuple #[.agg #[.int .u64 (lim t0 0), .int .u64 (lim t0 1), .int .u64 (lim t0 2), .int .u64 (lim t0 3)], .int .i64 0]) ?_ rfl ⟨rfl, setRow_below bb (Nat.le_refl _) _⟩
      exact results_cs (p := 2) (s := 3) rfl _ _ _ _ _ rfl (B0.row _) Try.underlying63 (iL t0)
    · obtain ⟨rfl, rfl⟩ := HX.out.1 (by simp)
      go_wp2_with (first | with_reducible refine wl_row B2 _ _ rfl rfl rfl _ _ Try.underlying63 (iL t0) ?_ | with_reducible refine ws_row B0 _ _ _ _ rfl rfl rfl rfl iZ rfl aZ ?_)
      refine bodyPost_ret (v := .tuple #[.agg #[.int .u64 0, .int .u64 0, .int .u64 0, .int .u64 0], .int .i64 7]) ?_ rfl ⟨by rw [uval_zero0], setRow_below bb (Nat.le_refl _) _⟩
      exact results_cs (p := 2) (s := 3) rfl _ _ _ _ _ rfl (B0.row _) Try.underlying63 iZ
  · obtain ⟨rfl, rfl⟩ := HX.out.1 (by simp)
    go_wp2_with (first | with_reducible refine wl_row B2 _ _ rfl rfl rfl _ _ Try.underlying63 (iL t0) ?_ | with_reducible refine ws_row B0 _ _ _ _ rfl rfl rfl rfl iZ rfl aZ ?_)
    refine bodyPost_ret (v := .tuple #[.agg #[.int .u64 0, .int .u64 0, .int .u64 0, .int .u64 0], .int .i64 7]) ?_ rfl ⟨by rw [uval_zero0], setRow_below bb (Nat.le_refl _) _⟩
    exact results_cs (p := 2) (s := 3) rfl _ _ _ _ _ rfl (B0.row _) Try.underlying63 iZ
set_option maxRecDepth 100000 in
set_option maxHeartbeats 4000000 in
theorem RExpand_hi (b e m t0 t v : Nat) (r s d1 d2 : Int) (z sn lost : Bool) (he : (b : Int) / 16777216 = (e : Int)) (he2 : IntKind.i64.wrap (e : Int) = (e : Int)) (hm : bits .and .u32 (b : Int) 8388607 = (m : Int)) (hm2 : IntKind.u64.wrap (m : Int) = (m : Int)) (hd1 : IntKind.i64.wrap (3 - (e : Int)) = d1) (hd2 : IntKind.i64.wrap (8 * d1) = d2) (hs : bits .and .u32 (b : Int) 8388608 = s)
    (cO : Hid (∀ w, Calls Try.prog 37 #[.int .u64 m] w fun e w' => e = .returned (uval m) ∧ Below w.heap.size w w')) (cR : Hid (∀ w, Calls Try.prog 38 #[uval m, .int .i64 d2] w fun e w' => e = .returned (uval t0) ∧ Below w.heap.size w w'))
    (h3 : decide ((3 : Int) < (e : Int)) = true) (f1 f2 : Int) (hf1 : IntKind.i64.wrap ((e : Int) - 3) = f1) (hf2 : IntKind.i64.wrap (8 * f1) = f2) (cL : Hid (∀ w, Calls Try.prog 39 #[uval m, .int .i64 f2] w fun e w' => e = .returned (.tuple #[uval t, .bool lost]) ∧ Below w.heap.size w w')) (HQ : Hid ((∀ w, (Op.equalIn 10000 63 (.agg #[.int .u64 (lim t 0), .int .u64 (lim t 1), .int .u64 (lim t 2), .int .u64 (lim t 3)]) (.agg #[.int .u64 0, .int .u64 0, .int .u64 0, .int .u64 0])).run Try.prog w = .ok z w) ∧ (s != 0) = sn)) (HX : Hid ((z = true ∨ lost = true ∨ sn = true → v = 0 ∧ r = 7) ∧ (z = false → lost = false → sn = false → t = v ∧ r = 0))) (w : World) :
    Calls Try.prog 33 #[.int .u32 b] w fun q w' => q = .returned (.tuple #[uval v, .int .i64 r]) ∧ Below w.heap.size w w' := by
  have iZ : (Try.prog.info? 63).map (·.size) = some (#[.int .u64 0, .int .u64 0, .int .u64 0, .int .u64 0] : Array Value).size := by kernel_rfl
  have iL : ∀ v, (Try.prog.info? 63).map (·.size) = some (#[.int .u64 (lim v 0), .int .u64 (lim v 1), .int .u64 (lim v 2), .int .u64 (lim v 3)] : Array Value).size := fun v => iZ
  have aZ : (#[.int .u64 0, .int .u64 0, .int .u64 0, .int .u64 0] : Array Value).all (·.oneCell') = true := by simp [Value.oneCell']
  have aL : ∀ v, (#[.int .u64 (lim v 0), .int .u64 (lim v 1), .int .u64 (lim v 2), .int .u64 (lim v 3)] : Array Value).all (·.oneCell') = true := fun v => by simp [Value.oneCell']
  go_enter Try.func33, Try.ntmps33
  go_wp2_with fail
  refine (cO.out _).mono ?_
  rintro q w1 ⟨rfl, hb1⟩
  simp only [uval]
  have B0 : Blk w1 w.heap.size 63 #[.int .u64 0, .int .u64 0, .int .u64 0, .int .u64 0] := (Blk.newAt w _ #[.int .u64 0, .int .u64 0, .int .u64 0, .int .u64 0] rfl).calls hb1
  have bb := bt (ba (Below.refl w.heap.size w) _) hb1
  clear hb1
  go_wp2_with fail
  refine (cR.out _).mono ?_
  rintro q w2 ⟨rfl, hb1⟩
  simp only [uval]
  replace B0 := (B0.alloc (.cells #[.int .u64 (lim m 0), .int .u64 (lim m 1), .int .u64 (lim m 2), .int .u64 (lim m 3)] 63)).calls hb1
  have B1 : Blk w2 w1.heap.size 63 #[.int .u64 (lim m 0), .int .u64 (lim m 1), .int .u64 (lim m 2), .int .u64 (lim m 3)] := (Blk.newAt w1 _ #[.int .u64 (lim m 0), .int .u64 (lim m 1), .int .u64 (lim m 2), .int .u64 (lim m 3)] rfl).calls hb1
  replace bb := bt (ba bb (.cells #[.int .u64 (lim m 0), .int .u64 (lim m 1), .int .u64 (lim m 2), .int .u64 (lim m 3)] 63)) hb1
  clear hb1
  have l2 : w.heap.size < w2.heap.size := B0.lt
  replace B0 := B0.alloc (.cells #[.int .u64 (lim t0 0), .int .u64 (lim t0 1), .int .u64 (lim t0 2), .int .u64 (lim t0 3)] 63)
  replace B1 := B1.alloc (.cells #[.int .u64 (lim t0 0), .int .u64 (lim t0 1), .int .u64 (lim t0 2), .int .u64 (lim t0 3)] 63)
  have B2 : Blk (w2.alloc (.cells #[.int .u64 (lim t0 0), .int .u64 (lim t0 1), .int .u64 (lim t0 2), .int .u64 (lim t0 3)] 63)) w2.heap.size 63 #[.int .u64 (lim t0 0), .int .u64 (lim t0 1), .int .u64 (lim t0 2), .int .u64 (lim t0 3)] := Blk.newAt w2 _ #[.int .u64 (lim t0 0), .int .u64 (lim t0 1), .int .u64 (lim t0 2), .int .u64 (lim t0 3)] rfl
  replace bb := ba bb (.cells #[.int .u64 (lim t0 0), .int .u64 (lim t0 1), .int .u64 (lim t0 2), .int .u64 (lim t0 3)] 63)
  go_wp2_with (with_reducible refine wl_row B1 _ _ rfl rfl rfl _ _ Try.underlying63 (iL m) ?_)
  refine (cL.out _).mono ?_
  rintro q w3 ⟨rfl, hb1⟩
  simp only [uval]
  replace B0 := B0.calls hb1
  replace B2 := B2.calls hb1
  replace bb := bt bb hb1
  clear hb1 B1
  go_upto_region 7 with (with_reducible refine ws_row B2 _ _ _ _ rfl rfl rfl rfl (iL t) rfl (aL t) ?_)
  replace B0 := B0.rowFar (Nat.ne_of_lt l2) #[.int .u64 (lim t 0), .int .u64 (lim t 1), .int .u64 (lim t 2), .int .u64 (lim t 3)]
  replace B2 := B2.row #[.int .u64 (lim t 0), .int .u64 (lim t 1), .int .u64 (lim t 2), .int .u64 (lim t 3)]
  replace bb := setRow_below bb (Nat.le_of_lt l2) #[.int .u64 (lim t 0), .int .u64 (lim t 1), .int .u64 (lim t 2), .int .u64 (lim t 3)]
  have qz := HQ.out.1
  have hsn := HQ.out.2
  cases z
  · cases lost
    · cases sn
      · obtain ⟨rfl, rfl⟩ := HX.out.2 (by trivial) (by trivial) (by trivial)
        go_wp2_with (first | with_reducible refine wl_row B2 _ _ rfl rfl rfl _ _ Try.underlying63 (iL t) ?_ | with_reducible refine ws_row B0 _ _ _ _ rfl rfl rfl rfl (iL t) rfl (aL t) ?_)
        refine bodyPost_ret (v := .tuple #[.agg #[.int .u64 (lim t 0), .int .u64 (lim t 1), .int .u64 (lim t 2), .int .u64 (lim t 3)], .int .i64 0]) ?_ rfl ⟨rfl, setRow_below bb (Nat.le_refl _) _⟩
        exact results_cs (p := 2) (s := 3) rfl _ _ _ _ _ rfl (B0.row _) Try.underlying63 (iL t)
      · obtain ⟨rfl, rfl⟩ := HX.out.1 (by simp)
        go_wp2_with (first | with_reducible refine wl_row B2 _ _ rfl rfl rfl _ _ Try.underlying63 (iL t) ?_ | with_reducible refine ws_row B0 _ _ _ _ rfl rfl rfl rfl iZ rfl aZ ?_)
        refine bodyPost_ret (v := .tuple #[.agg #[.int .u64 0, .int .u64 0, .int .u64 0, .int .u64 0], .int .i64 7]) ?_ rfl ⟨by rw [uval_zero0], setRow_below bb (Nat.le_refl _) _⟩
        exact results_cs (p := 2) (s := 3) rfl _ _ _ _ _ rfl (B0.row _) Try.underlying63 iZ
    · obtain ⟨rfl, rfl⟩ := HX.out.1 (by simp)
      go_wp2_with (first | with_reducible refine wl_row B2 _ _ rfl rfl rfl _ _ Try.underlying63 (iL t) ?_ | with_reducible refine ws_row B0 _ _ _ _ rfl rfl rfl rfl iZ rfl aZ ?_)
      refine bodyPost_ret (v := .tuple #[.agg #[.int .u64 0, .int .u64 0, .int .u64 0, .int .u64 0], .int .i64 7]) ?_ rfl ⟨by rw [uval_zero0], setRow_below bb (Nat.le_refl _) _⟩
      exact results_cs (p := 2) (s := 3) rfl _ _ _ _ _ rfl (B0.row _) Try.underlying63 iZ
  · obtain ⟨rfl, rfl⟩ := HX.out.1 (by simp)
    go_wp2_with (first | with_reducible refine wl_row B2 _ _ rfl rfl rfl _ _ Try.underlying63 (iL t) ?_ | with_reducible refine ws_row B0 _ _ _ _ rfl rfl rfl rfl iZ rfl aZ ?_)
    refine bodyPost_ret (v := .tuple #[.agg #[.int .u64 0, .int .u64 0, .int .u64 0, .int .u64 0], .int .i64 7]) ?_ rfl ⟨by rw [uval_zero0], setRow_below bb (Nat.le_refl _) _⟩
    exact results_cs (p := 2) (s := 3) rfl _ _ _ _ _ rfl (B0.row _) Try.underlying63 iZ
end Go.Proofs.Ytndockjflnicjaa
