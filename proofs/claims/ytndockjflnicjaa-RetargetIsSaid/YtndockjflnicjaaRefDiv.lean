/- The document's Div. -/
import Derived.Test.YtndockjflnicjaaRefM
import Derived.Test.YtndockjflnicjaaStore
import Derived.Test.YtndockjflnicjaaLaw01Div
namespace Go.Proofs.Ytndockjflnicjaa
open Go.RowKit
set_option linter.unusedVariables false
set_option maxRecDepth 100000 in
theorem eqRR (m n : Nat) (b : Bool) (hm : m < T) (hn : n < T) (h : decide (m = n) = b) (w : World) : (Op.equalIn 10000 63 (.agg #[.int .u64 (lim m 0), .int .u64 (lim m 1), .int .u64 (lim m 2), .int .u64 (lim m 3)]) (.agg #[.int .u64 (lim n 0), .int .u64 (lim n 1), .int .u64 (lim n 2), .int .u64 (lim n 3)])).run Try.prog w = .ok b w :=
  run_eqInts w .u64 .u64 (by kernel_rfl) Try.underlying32 Try.underlying63 rfl (by kernel_rfl) (fun i => lim m i) (fun i => lim n i) (ucells m) (ucells n)
    (fun i hi => ⟨ucells_at m i hi, ucells_at n i hi⟩) b (parts_eq m n hm hn b h)
theorem eqRR0 (m : Nat) (b : Bool) (hm : m < T) (h : decide (m = 0) = b) (w : World) : (Op.equalIn 10000 63 (.agg #[.int .u64 (lim m 0), .int .u64 (lim m 1), .int .u64 (lim m 2), .int .u64 (lim m 3)]) (.agg #[.int .u64 0, .int .u64 0, .int .u64 0, .int .u64 0])).run Try.prog w = .ok b w := by
  have e := eqRR m 0 b hm (by decide) h w
  simpa [lim] using e
theorem results_ccs {fn : Func} {p q s : Tmp} {ty : TypeId} (h : fn.results = #[.cell p ty, .cell q ty, .tmp s]) {P : Program} (tmps : Array Value) (w : World) (g k : Nat) (cs ds : Array Value) {t u : TypeId} {n : Nat} {e : TypeId}
    (hp : tmps.getD p undef = .pointer (some ⟨g, 0, none⟩)) (hq : tmps.getD q undef = .pointer (some ⟨k, 0, none⟩)) (hg : Blk w g t cs) (hk : Blk w k u ds) (hu : P.underlying ty = some (.array n e)) (hi : (P.info? ty).map (·.size) = some cs.size) (hj : (P.info? ty).map (·.size) = some ds.size) :
    (results fn tmps).run P w = .ok (.tuple #[.agg cs, .agg ds, tmps.getD s undef]) w := by
  have hp' : tmps[p]?.getD undef = .pointer (some ⟨g, 0, none⟩) := by simpa using hp
  have hq' : tmps[q]?.getD undef = .pointer (some ⟨k, 0, none⟩) := by simpa using hq
  simp [results, h, hp', hq', asAddr, run_loadVar_row w g t ty cs (0, 0) _ hg hu rfl hi, run_loadVar_row w k u ty ds (0, 0) _ hk hu rfl hj]
def topD (f : Nat → Int) (j i : Nat) : Int := if j ≤ i then f i else 0
theorem topD_set (f : Nat → Int) (i : Nat) (h : i < 256) : (bc (topD f (i + 1))).setIfInBounds i (.int .i64 (f i)) = bc (topD f i) := by
  rw [bc_set _ _ h]
  apply bc_ext
  intro j hj
  unfold topD
  by_cases e : j = i
  · subst e; simp
  · simp [e]
    by_cases h1 : i + 1 ≤ j
    · simp [h1, show i ≤ j by omega]
    · simp [h1, show ¬ i ≤ j by omega]
theorem topD_stay (f : Nat → Int) (i : Nat) (h : f i = 0) : bc (topD f (i + 1)) = bc (topD f i) := by
  apply bc_ext
  intro j hj
  unfold topD
  by_cases e : j = i
  · subst e; simp [h]
  · by_cases h1 : i + 1 ≤ j
    · simp [h1, show i ≤ j by omega]
    · simp [h1, show ¬ i ≤ j by omega]
theorem topD_top (f : Nat → Int) : bc (topD f 256) = bc fun _ => 0 := bc_ext fun j hj => by unfold topD; rw [if_neg (by omega)]
theorem topD_all (f : Nat → Int) : bc (topD f 0) = bc f := bc_ext fun j hj => by unfold topD; rw [if_pos (by omega)]
set_option maxRecDepth 100000 in
set_option maxHeartbeats 4000000 in
theorem RDiv_core (m n : Nat) (w : World) (hm : m < T) (hn : n < T) (hn0 : 0 < n) :
    Calls Try.prog 40 #[uval m, uval n] w fun e w' => e = .returned (.tuple #[uval (m / n), uval (m % n), .bool true]) ∧ Below w.heap.size w w' := by
  have en0 := fun w => eqRR0 n false hn (by simp; omega) w
  obtain ⟨D0, hD0⟩ : ∃ D, D = bc (dig m) := ⟨_, rfl⟩
  have sD0 : D0.size = 256 := by rw [hD0]; exact bc_size _
  have aD0 : D0.all (·.oneCell') = true := by rw [hD0]; exact bc_one _
  have iD0 := isB D0 sD0
  have cD0 := fun w => digits_any m w
  rw [← hD0] at cD0
  obtain ⟨Z, hZ⟩ : ∃ Z, Z = bc fun _ => 0 := ⟨_, rfl⟩
  have HA := allocZ_of hZ
  have sZ0 : Z.size = D0.size := by rw [sD0, hZ]; exact bc_size _
  have P := Lib.hid (And.intro hZ (And.intro hD0 (And.intro cD0 trivial))); clear hZ hD0 cD0 sD0
  have q0 := uval_zero0
  have HC := Lib.hid (And.intro hm (And.intro hn hn0)); clear hm hn hn0
  unfold uval
  go_enter Try.func40, Try.ntmps40
  go_wp2_with fail
  refine (P.out.2.2.1 _).mono ?_
  rintro e w1 ⟨rfl, hb1⟩
  have A1 : Blk w1 (w.heap.size) 63 (ucells m) := ((((Blk.newAt _ _ _ rfl).alloc _).alloc _).alloc _).calls hb1
  have A2 : Blk w1 (w.heap.size + 1) 63 (ucells n) := (((Blk.snd _ _ _ _).alloc _).alloc _).calls hb1
  have A3 : Blk w1 (w.heap.size + 2) 63 (ucells 0) := ((Blk.newAt _ _ _ (by simp)).alloc _).calls hb1
  have A4 : Blk w1 (w.heap.size + 3) 63 (ucells 0) := (Blk.newAt _ _ _ (by simp)).calls hb1
  have AB : Below w.heap.size w w1 := bt (ba (ba (ba (ba (Below.refl _ _) _) _) _) _) hb1
  clear hb1
  have l3 := A4.lt
  have N1 : Blk _ w1.heap.size 81 Z := Blk.new w1 81 Z
  have X1 := N1.row D0
  have B1 := (A1.alloc (.cells Z 81)).rowFar (b := w1.heap.size) (by omega) D0
  have B2 := (A2.alloc (.cells Z 81)).rowFar (b := w1.heap.size) (by omega) D0
  have B3 := (A3.alloc (.cells Z 81)).rowFar (b := w1.heap.size) (by omega) D0
  have B4 := (A4.alloc (.cells Z 81)).rowFar (b := w1.heap.size) (by omega) D0
  have BB := setRow_below (g := w1.heap.size) (ba AB (.cells Z 81)) AB.size D0
  have N2 : Blk (((w1.alloc (.cells Z 81)).setRow w1.heap.size D0).alloc (.cells Z 81)) (w1.heap.size + 1) 81 Z := Blk.newAt _ _ _ (by simp [World.setRow])
  have N3 : Blk ((((w1.alloc (.cells Z 81)).setRow w1.heap.size D0).alloc (.cells Z 81)).alloc (.cells (ucells 0) 63)) (w1.heap.size + 2) 63 (ucells 0) := Blk.newAt _ _ _ (by simp [World.setRow])
  have G := Lib.hid (And.intro ((B2.alloc (.cells Z 81)).alloc (.cells (ucells 0) 63)) (And.intro ((B3.alloc (.cells Z 81)).alloc (.cells (ucells 0) 63)) (And.intro ((B4.alloc (.cells Z 81)).alloc (.cells (ucells 0) 63)) (And.intro ((X1.alloc (.cells Z 81)).alloc (.cells (ucells 0) 63)) (And.intro (N2.alloc (.cells (ucells 0) 63)) (And.intro N3 (ba (ba BB (.cells Z 81)) (.cells (ucells 0) 63))))))))
  clear A1 A2 A3 A4 AB X1 B1 B2 B3 B4 BB N2 N3
  go_wp2_with (first | with_reducible refine HA.out rfl rfl ?_ | with_reducible refine ws_row N1 _ _ _ _ rfl rfl rfl rfl iD0 sZ0 aD0 ?_)
  clear N1
  change Code.wp _ _ _ _ ((((w1.alloc (.cells Z 81)).setRow w1.heap.size D0).alloc (.cells Z 81)).alloc (.cells (ucells 0) 63))
  generalize World.alloc _ _ = w2 at *
  go_loopw [10] (fun i wr => ∃ j : Nat, j ≤ 256 ∧ i = .int .i64 ((j : Int) - 1) ∧ Blk wr (w.heap.size + 1) 63 (ucells n) ∧ Blk wr (w.heap.size + 2) 63 (ucells 0) ∧ Blk wr (w.heap.size + 3) 63 (ucells 0) ∧ Blk wr w1.heap.size 81 D0 ∧ Blk wr (w1.heap.size + 1) 81 (bc (topD (dig (m / n)) j)) ∧ Blk wr (w1.heap.size + 2) 63 (ucells (m / 2 ^ j % n)) ∧ Below w.heap.size w wr) (fun i _ => (intOf i + 1).toNat)
  case atStart =>
    refine ⟨256, by omega, rfl, G.out.1, G.out.2.1, G.out.2.2.1, G.out.2.2.2.1, ?_, ?_, G.out.2.2.2.2.2.2⟩
    · rw [topD_top, ← P.out.1]; exact G.out.2.2.2.2.1
    · rw [← T_pow, Nat.div_eq_of_lt HC.out.1, Nat.zero_mod]; exact G.out.2.2.2.2.2.1
  case round =>
    obtain ⟨j, hj, rfl, h0, h1, h2, h3, h4, h5, hb⟩ := hrel
    clear G
    have hn0 := HC.out.2.2
    have hn := HC.out.2.1
    by_cases hlt : 0 < j
    · obtain ⟨i, rfl⟩ : ∃ i, j = i + 1 := ⟨j - 1, by omega⟩
      have hi : i < 256 := by omega
      obtain ⟨L, hL⟩ : ∃ L, L = m / 2 ^ (i + 1) % n := ⟨_, rfl⟩
      obtain ⟨x, hx⟩ : ∃ x, x = m / 2 ^ i % 2 := ⟨_, rfl⟩
      have hx1 : x ≤ 1 := by omega
      have hLn : L < n := by rw [hL]; exact Nat.mod_lt _ hn0
      have st := div_step m n i hn0
      rw [← hL, ← hx] at st
      rw [← hL] at h5
      obtain ⟨r, ov, hsum⟩ := sum_ex L L (by omega) (by omega)
      have hsum' := hsum
      obtain ⟨hLT, _, hrT, hre⟩ := hsum'
      have cSh := fun w => RShl_any L 1 w hLT (by omega)
      have e1 : shlN L 1 = r := by
        rw [shlN_eq L 1 hLT, show (1 : Int).toNat = 1 from rfl, Nat.pow_one]
        cases ov <;> simp at hre
        · rw [show L * 2 = r by omega, Nat.mod_eq_of_lt hrT]
        · rw [show L * 2 = r + T by omega, Nat.add_mod_right, Nat.mod_eq_of_lt hrT]
      have e2 : shlB L 1 = ov := by
        rw [shlB_eq L 1 hLT, show (1 : Int).toNat = 1 from rfl, over_iff L 1 hLT (by omega), Nat.pow_one]
        cases ov <;> simp at hre ⊢ <;> omega
      rw [e1, e2] at cSh
      have hr2 : r % 2 = 0 := by unfold T at hre; omega
      have hrx : r + x < T := by unfold T at hrT hr2 ⊢; omega
      have lo := lim_odd r x hr2 hx1
      have vo : bits .or .u64 (lim r 0 : Int) (x : Int) = (lim (r + x) 0 : Nat) := by
        rw [or_low _ _ (by have : lim r 0 = r % W64 := by unfold lim; rw [Nat.pow_zero, Nat.div_one]
                           rw [this]; unfold W64; omega) hx1 (lim_lt _ _), lo.1]
      obtain ⟨c, hc⟩ := cmp_ex (r + x) n hrx hn
      have hcf := cmp_facts hc
      obtain ⟨tb, hd⟩ : ∃ tb, n ≤ 2 * L + x → DiffIs (r + x) n (m / 2 ^ i % n) tb := by
        by_cases g : n ≤ r + x
        · refine ⟨false, fun h => ⟨hrx, hn, Nat.lt_trans (Nat.mod_lt _ hn0) hn, ?_⟩⟩
          cases ov <;> simp at hre ⊢ <;> omega
        · refine ⟨true, fun h => ⟨hrx, hn, Nat.lt_trans (Nat.mod_lt _ hn0) hn, ?_⟩⟩
          cases ov <;> simp at hre ⊢ <;> omega
      have hv : n ≤ 2 * L + x ↔ ov = true ∨ 0 ≤ c := by
        cases ov <;> simp at hre ⊢ <;> omega
      have ex : D0[i]? = some (.int .i64 (x : Nat)) := by rw [P.out.2.1, hx]; exact bc_at _ i hi
      have hii : ((i + 1 : Nat) : Int) - 1 = (i : Int) := by omega
      rw [hii]
      have F := Lib.hid (And.intro st (And.intro cSh (And.intro hsum (And.intro lo (And.intro hc (And.intro hd (And.intro hv (And.intro hre (And.intro hL hx)))))))))
      clear st cSh hsum lo hc hd hv hre hL hx hr2 hcf hlt hj hii e1 e2 hLT hrT
      have G := Lib.hid (And.intro h0 (And.intro h1 (And.intro h2 (And.intro h3 (And.intro h4 (And.intro h5 hb))))))
      clear h0 h1 h2 h3 h4 h5 hb
      have c9 := cl4 G.out.2.2.2.2.2.1
      go_wp2_with fail
      refine (F.out.2.1 _).mono ?_
      rintro e w3 ⟨rfl, hb3⟩
      simp only [uval]
      clear c9
      have T0 := G.out.1.calls hb3
      have T1 := G.out.2.1.calls hb3
      have T2 := G.out.2.2.1.calls hb3
      have T3 := G.out.2.2.2.1.calls hb3
      have T4 := G.out.2.2.2.2.1.calls hb3
      have T5 := G.out.2.2.2.2.2.1.calls hb3
      have TB := bt G.out.2.2.2.2.2.2 hb3
      clear G
      have G := Lib.hid (And.intro T0 (And.intro T1 (And.intro T2 (And.intro T3 (And.intro T4 (And.intro T5 TB))))))
      clear T0 T1 T2 T3 T4 T5 TB
      clear hb3
      have ls := G.out.2.2.2.2.2.1.lt
      have Bs : Blk (w3.alloc (.cells (ucells r) 63)) w3.heap.size 63 (ucells r) := Blk.new w3 _ _
      have T0 := G.out.1.alloc (.cells (ucells r) 63)
      have T1 := G.out.2.1.alloc (.cells (ucells r) 63)
      have T2 := G.out.2.2.1.alloc (.cells (ucells r) 63)
      have T3 := G.out.2.2.2.1.alloc (.cells (ucells r) 63)
      have T4 := G.out.2.2.2.2.1.alloc (.cells (ucells r) 63)
      have T5 := G.out.2.2.2.2.2.1.alloc (.cells (ucells r) 63)
      have TB := ba G.out.2.2.2.2.2.2 (.cells (ucells r) 63)
      clear G
      have G := Lib.hid (And.intro T0 (And.intro T1 (And.intro T2 (And.intro T3 (And.intro T4 (And.intro T5 TB))))))
      clear T0 T1 T2 T3 T4 T5 TB
      go_wp2_with fail
      change Code.wp _ _ _ _ (w3.alloc (.cells (ucells r) 63))
      generalize World.alloc _ _ = w4 at *
      generalize w3.heap.size = gs at *
      have cs := clf Bs
      have cx := blk_get G.out.2.2.2.1 i _ ex
      have i2 : (i : Int) < 256 := by omega
      go_region
      have hset := ucells_put r (r + x) 0 (by decide) (fun k hk h0 => F.out.2.2.2.1.2 k (by omega))
      have T0 := (G.out.1.far (b := gs) (i := 0) (by omega) (.int .u64 (lim (r + x) 0))).drew
      have T1 := (G.out.2.1.far (b := gs) (i := 0) (by omega) (.int .u64 (lim (r + x) 0))).drew
      have T2 := (G.out.2.2.1.far (b := gs) (i := 0) (by omega) (.int .u64 (lim (r + x) 0))).drew
      have T3 := (G.out.2.2.2.1.far (b := gs) (i := 0) (by omega) (.int .u64 (lim (r + x) 0))).drew
      have T4 := (G.out.2.2.2.2.1.far (b := gs) (i := 0) (by omega) (.int .u64 (lim (r + x) 0))).drew
      have T5 := (G.out.2.2.2.2.2.1.far (b := gs) (i := 0) (by omega) (.int .u64 (lim (r + x) 0))).drew
      have TB := (G.out.2.2.2.2.2.2.setCell (p := ⟨gs, 0, none⟩) (by simp; omega) (.int .u64 (lim (r + x) 0))).drew
      clear G
      have G := Lib.hid (And.intro T0 (And.intro T1 (And.intro T2 (And.intro T3 (And.intro T4 (And.intro T5 TB))))))
      clear T0 T1 T2 T3 T4 T5 TB
      have Bs2 := ((Bs.set_ 0 (.int .u64 (lim (r + x) 0))).to hset).drew
      clear cs cx Bs hset
      change Exit.then _ _ _ _ (w4.setCell ⟨gs, 0, none⟩ (.int .u64 (lim (r + x) 0))).drew
      generalize World.drew _ = w5 at *
      have cs := clf Bs2
      have cr := clf G.out.2.2.2.2.2.1
      have lr := G.out.2.2.2.2.2.1.lt
      have T0 := G.out.1.fillFar (b := (w1.heap.size + 2)) (n := (r + x)) (by omega)
      have T1 := G.out.2.1.fillFar (b := (w1.heap.size + 2)) (n := (r + x)) (by omega)
      have T2 := G.out.2.2.1.fillFar (b := (w1.heap.size + 2)) (n := (r + x)) (by omega)
      have T3 := G.out.2.2.2.1.fillFar (b := (w1.heap.size + 2)) (n := (r + x)) (by omega)
      have T4 := G.out.2.2.2.2.1.fillFar (b := (w1.heap.size + 2)) (n := (r + x)) (by omega)
      have T5 := G.out.2.2.2.2.2.1.fillAt (n := (r + x))
      have TB := fill_below (n := (r + x)) G.out.2.2.2.2.2.2 (b := (w1.heap.size + 2)) (by omega)
      clear G
      have G := Lib.hid (And.intro T0 (And.intro T1 (And.intro T2 (And.intro T3 (And.intro T4 (And.intro T5 TB))))))
      clear T0 T1 T2 T3 T4 T5 TB
      have c9 := cl4 G.out.2.2.2.2.2.1
      have c3 := cl4 G.out.1
      unfold fillW at c9 c3
      cases hov : ov
      · have hov' := Lib.hid hov; clear hov
        go_wp2_with fail
        refine (RCmp_any (r + x) n c _ F.out.2.2.2.2.1).mono ?_
        rintro e w6 ⟨rfl, hb6⟩
        simp only [uval]
        clear c9 c3 cs cr Bs2
        have T0 := G.out.1.calls hb6
        have T1 := G.out.2.1.calls hb6
        have T2 := G.out.2.2.1.calls hb6
        have T3 := G.out.2.2.2.1.calls hb6
        have T4 := G.out.2.2.2.2.1.calls hb6
        have T5 := G.out.2.2.2.2.2.1.calls hb6
        have TB := bt G.out.2.2.2.2.2.2 hb6
        clear G
        have G := Lib.hid (And.intro T0 (And.intro T1 (And.intro T2 (And.intro T3 (And.intro T4 (And.intro T5 TB))))))
        clear T0 T1 T2 T3 T4 T5 TB
        clear hb6
        by_cases hc0 : 0 ≤ c
        · have hge : n ≤ 2 * L + x := F.out.2.2.2.2.2.2.1.2 (.inr hc0)
          have hdd := F.out.2.2.2.2.2.1 hge
          have hq1 : dig (m / n) i = 1 := by
            have h1 : m / n / 2 ^ i % 2 = 1 := by rcases F.out.1 with s | s; exact s.2.1; exact absurd hge (by omega)
            unfold dig; rw [h1]; rfl
          obtain ⟨d, hd0⟩ : ∃ d, d = m / 2 ^ i % n := ⟨_, rfl⟩
          rw [← hd0] at hdd
          have HD := Lib.hid (And.intro hdd (And.intro hq1 hd0)); clear hdd hq1 hd0 hge
          have c9 := cl4 G.out.2.2.2.2.2.1
          have c3 := cl4 G.out.1
          go_wp2_with fail
          refine (RSub_any (r + x) n d tb _ HD.out.1).mono ?_
          rintro e w7 ⟨rfl, hb7⟩
          simp only [uval]
          clear c9 c3
          have T0 := G.out.1.calls hb7
          have T1 := G.out.2.1.calls hb7
          have T2 := G.out.2.2.1.calls hb7
          have T3 := G.out.2.2.2.1.calls hb7
          have T4 := G.out.2.2.2.2.1.calls hb7
          have T5 := G.out.2.2.2.2.2.1.calls hb7
          have TB := bt G.out.2.2.2.2.2.2 hb7
          clear G
          have G := Lib.hid (And.intro T0 (And.intro T1 (And.intro T2 (And.intro T3 (And.intro T4 (And.intro T5 TB))))))
          clear T0 T1 T2 T3 T4 T5 TB
          clear hb7
          have c9 := clf G.out.2.2.2.2.2.1
          have lr := G.out.2.2.2.2.2.1.lt
          have cq := blk_get G.out.2.2.2.2.1 i _ (bc_at _ i hi)
          have fq := G.out.2.2.2.2.1.frozen i
          have lq := G.out.2.2.2.2.1.lt
          have il : (i : Int) < 256 := by omega
          go_wp2
          have E0 := ((G.out.1.fillFar (b := (w1.heap.size + 2)) (n := d) (by omega)).far (b := (w1.heap.size + 1)) (i := i) (by omega) (.int .i64 1)).alloc (.cells (ucells d) 63)
          have E1 := ((G.out.2.1.fillFar (b := (w1.heap.size + 2)) (n := d) (by omega)).far (b := (w1.heap.size + 1)) (i := i) (by omega) (.int .i64 1)).alloc (.cells (ucells d) 63)
          have E2 := ((G.out.2.2.1.fillFar (b := (w1.heap.size + 2)) (n := d) (by omega)).far (b := (w1.heap.size + 1)) (i := i) (by omega) (.int .i64 1)).alloc (.cells (ucells d) 63)
          have E3 := ((G.out.2.2.2.1.fillFar (b := (w1.heap.size + 2)) (n := d) (by omega)).far (b := (w1.heap.size + 1)) (i := i) (by omega) (.int .i64 1)).alloc (.cells (ucells d) 63)
          have hts := topD_set (dig (m / n)) i hi
          rw [HD.out.2.1] at hts
          have E4 := (((G.out.2.2.2.2.1.fillFar (b := (w1.heap.size + 2)) (n := d) (by omega)).set_ i (.int .i64 1)).to hts).alloc (.cells (ucells d) 63)
          have E5 := ((G.out.2.2.2.2.2.1.fillAt (n := d)).far (b := (w1.heap.size + 1)) (i := i) (by omega) (.int .i64 1)).alloc (.cells (ucells d) 63)
          have E6 := ba ((fill_below (n := d) G.out.2.2.2.2.2.2 (b := (w1.heap.size + 2)) (by omega)).setCell (p := ⟨(w1.heap.size + 1), i, none⟩) (by simp; omega) (.int .i64 1)) (.cells (ucells d) 63)
          go_roundw
          case rel =>
            refine ⟨i, by omega, rfl, E0, E1, E2, E3, E4, ?_, E6⟩
            rw [← HD.out.2.2]
            exact E5
          case measure => simp [intOf]
        · have hlt2 : c < 0 := by omega
          have hnot : ¬ n ≤ 2 * L + x := fun h => by rcases F.out.2.2.2.2.2.2.1.1 h with k | k; rw [hov'.out] at k; cases k; exact hc0 k
          have HN := Lib.hid hnot; clear hnot hc0
          go_wp2
          have hst : m / n / 2 ^ i % 2 = 0 ∧ m / 2 ^ i % n = 2 * L + x := by rcases F.out.1 with s | s; exact absurd s.1 HN.out; exact s.2
          have hre := F.out.2.2.2.2.2.2.2.1
          rw [hov'.out] at hre
          have hLx : m / 2 ^ i % n = r + x := by rw [hst.2]; simp at hre; omega
          have hq0 : dig (m / n) i = 0 := by unfold dig; rw [hst.1]; rfl
          go_roundw
          case rel => exact ⟨i, by omega, rfl, G.out.1, G.out.2.1, G.out.2.2.1, G.out.2.2.2.1, by rw [← topD_stay _ i hq0]; exact G.out.2.2.2.2.1, by rw [hLx]; exact G.out.2.2.2.2.2.1, G.out.2.2.2.2.2.2⟩
          case measure => simp [intOf]
      · have hge : n ≤ 2 * L + x := F.out.2.2.2.2.2.2.1.2 (.inl hov)
        have hov' := Lib.hid hov; clear hov
        have hdd := F.out.2.2.2.2.2.1 hge
        have hq1 : dig (m / n) i = 1 := by
          have h1 : m / n / 2 ^ i % 2 = 1 := by rcases F.out.1 with s | s; exact s.2.1; exact absurd hge (by omega)
          unfold dig; rw [h1]; rfl
        obtain ⟨d, hd0⟩ : ∃ d, d = m / 2 ^ i % n := ⟨_, rfl⟩
        rw [← hd0] at hdd
        have HD := Lib.hid (And.intro hdd (And.intro hq1 hd0)); clear hdd hq1 hd0 hge
        go_wp2_with fail
        refine (RSub_any (r + x) n d tb _ HD.out.1).mono ?_
        rintro e w6 ⟨rfl, hb6⟩
        simp only [uval]
        clear c9 c3
        clear cs cr Bs2
        have T0 := G.out.1.calls hb6
        have T1 := G.out.2.1.calls hb6
        have T2 := G.out.2.2.1.calls hb6
        have T3 := G.out.2.2.2.1.calls hb6
        have T4 := G.out.2.2.2.2.1.calls hb6
        have T5 := G.out.2.2.2.2.2.1.calls hb6
        have TB := bt G.out.2.2.2.2.2.2 hb6
        clear G
        have G := Lib.hid (And.intro T0 (And.intro T1 (And.intro T2 (And.intro T3 (And.intro T4 (And.intro T5 TB))))))
        clear T0 T1 T2 T3 T4 T5 TB
        clear hb6
        have c9 := clf G.out.2.2.2.2.2.1
        have lr := G.out.2.2.2.2.2.1.lt
        have cq := blk_get G.out.2.2.2.2.1 i _ (bc_at _ i hi)
        have fq := G.out.2.2.2.2.1.frozen i
        have lq := G.out.2.2.2.2.1.lt
        have il : (i : Int) < 256 := by omega
        go_wp2
        have E0 := ((G.out.1.fillFar (b := (w1.heap.size + 2)) (n := d) (by omega)).far (b := (w1.heap.size + 1)) (i := i) (by omega) (.int .i64 1)).alloc (.cells (ucells d) 63)
        have E1 := ((G.out.2.1.fillFar (b := (w1.heap.size + 2)) (n := d) (by omega)).far (b := (w1.heap.size + 1)) (i := i) (by omega) (.int .i64 1)).alloc (.cells (ucells d) 63)
        have E2 := ((G.out.2.2.1.fillFar (b := (w1.heap.size + 2)) (n := d) (by omega)).far (b := (w1.heap.size + 1)) (i := i) (by omega) (.int .i64 1)).alloc (.cells (ucells d) 63)
        have E3 := ((G.out.2.2.2.1.fillFar (b := (w1.heap.size + 2)) (n := d) (by omega)).far (b := (w1.heap.size + 1)) (i := i) (by omega) (.int .i64 1)).alloc (.cells (ucells d) 63)
        have hts := topD_set (dig (m / n)) i hi
        rw [HD.out.2.1] at hts
        have E4 := (((G.out.2.2.2.2.1.fillFar (b := (w1.heap.size + 2)) (n := d) (by omega)).set_ i (.int .i64 1)).to hts).alloc (.cells (ucells d) 63)
        have E5 := ((G.out.2.2.2.2.2.1.fillAt (n := d)).far (b := (w1.heap.size + 1)) (i := i) (by omega) (.int .i64 1)).alloc (.cells (ucells d) 63)
        have E6 := ba ((fill_below (n := d) G.out.2.2.2.2.2.2 (b := (w1.heap.size + 2)) (by omega)).setCell (p := ⟨(w1.heap.size + 1), i, none⟩) (by simp; omega) (.int .i64 1)) (.cells (ucells d) 63)
        go_roundw
        case rel =>
          refine ⟨i, by omega, rfl, E0, E1, E2, E3, E4, ?_, E6⟩
          rw [← HD.out.2.2]
          exact E5
        case measure => simp [intOf]
    · obtain rfl : j = 0 := by omega
      rw [topD_all] at h4
      rw [Nat.pow_zero, Nat.div_one] at h5
      have hqT : m / n < T := Nat.lt_of_le_of_lt (Nat.div_le_self _ _) HC.out.1
      have cN := fun w => number_any (m / n) hqT w
      obtain ⟨Gq, hG⟩ : ∃ G, G = bc (dig (m / n)) := ⟨_, rfl⟩
      rw [← hG] at h4 cN
      have iG := isB Gq (by rw [hG]; exact bc_size _)
      obtain ⟨U, hU⟩ : ∃ U, U = ucells (m / n) := ⟨_, rfl⟩
      obtain ⟨V, hV⟩ : ∃ V, V = ucells (m % n) := ⟨_, rfl⟩
      have sU : U.size = 4 := by rw [hU]; rfl
      have sV : V.size = 4 := by rw [hV]; rfl
      have aU : U.all (·.oneCell') = true := by rw [hU]; exact u_one _
      have aV : V.all (·.oneCell') = true := by rw [hV]; exact u_one _
      have iU := isR4 U sU
      have iV := isR4 V sV
      have zU : (ucells 0).size = U.size := by rw [sU]; rfl
      have zV : (ucells 0).size = V.size := by rw [sV]; rfl
      have uU : uval (m / n) = .agg U := by rw [hU]; rfl
      rw [uU] at cN
      rw [← hV] at h5
      have HU := Lib.hid (And.intro hU hV); clear hU hV uU hG sU sV hqT
      have K := Lib.hid (And.intro h1 (And.intro h2 (And.intro h4 (And.intro h5 (And.intro hb cN))))); clear h0 h1 h2 h3 h4 h5 hb cN
      go_wp2
      refine wp_region_st w.heap.size [some 57, some 58, some 59, none, none, some 6] [⟨3, (w.heap.size + 2), 63, ucells 0, U⟩, ⟨4, (w.heap.size + 3), 63, ucells 0, V⟩] (fun i => ([.agg Gq, .agg U, .agg V, undef, undef, .bool true] : List Value).getD i undef) K.out.2.2.2.2.1.size (by kernel_rfl) rfl rfl rfl rfl rfl rfl (by simp) rfl
        (by intro s hs; simp at hs; rcases hs with rfl | rfl; exact K.out.1; exact K.out.2.1) ⟨
        .inl ⟨rfl, fun A w' hb hk hz hs => op_load 81 (.tmp 8) rfl ((hs.2 8 rfl).trans rfl) (hk.blk K.out.2.2.1 (.inr (by intro s hs; simp at hs; rcases hs with rfl | rfl <;> simp <;> omega))) Try.underlying81 iG⟩,
        .inl ⟨rfl, fun A w' hb hk hz hs => op_call 47 _ (exec_call _ 47 _ rfl rfl (args1 (hs.1 0 rfl 57 rfl)) Try.func47 rfl rfl) (K.out.2.2.2.2.2 w')⟩,
        .inl ⟨rfl, fun A w' hb hk hz hs => op_load 63 (.tmp 9) rfl ((hs.2 9 rfl).trans rfl) (hk.blk K.out.2.2.2.1 (.inr (by intro s hs; simp at hs; rcases hs with rfl | rfl <;> simp <;> omega))) Try.underlying63 iV⟩,
        .inr ⟨⟨3, (w.heap.size + 2), 63, ucells 0, U⟩, by simp, rfl, rfl, 63, .tmp 4, .tmp 58, rfl, fun A hs => ⟨(hs.2 4 rfl).trans rfl, hs.1 1 rfl 58 rfl⟩, iU, zU, aU, by simp⟩,
        .inr ⟨⟨4, (w.heap.size + 3), 63, ucells 0, V⟩, by simp, rfl, rfl, 63, .tmp 5, .tmp 59, rfl, fun A hs => ⟨(hs.2 5 rfl).trans rfl, hs.1 2 rfl 59 rfl⟩, iV, zV, aV, by simp⟩,
        .inl ⟨rfl, fun A w' hb hk hz hs => op_move (.const (.bool true)) (.inr rfl) rfl⟩, trivial⟩ ?_
      intro wz hbz _ hk hst
      have r4 := hst ⟨3, (w.heap.size + 2), 63, ucells 0, U⟩ (by simp)
      have r5 := hst ⟨4, (w.heap.size + 3), 63, ucells 0, V⟩ (by simp)
      simp only [Fr, if_true, Act.put, List.setIfInBounds_toArray, List.set_cons_zero, List.set_cons_succ, List.getD_cons_zero, List.getD_cons_succ]
      go_wp2
      refine bodyPost_ret (v := .tuple #[.agg U, .agg V, .bool true]) ?_ rfl ⟨by rw [HU.out.1, HU.out.2]; rfl, K.out.2.2.2.2.1.trans hbz⟩
      exact results_ccs (p := 4) (q := 5) (s := 6) rfl _ _ _ _ _ _ rfl rfl r4 r5 Try.underlying63 iU iV
set_option maxRecDepth 100000 in
theorem RDiv_none (m : Nat) (w : World) : Calls Try.prog 40 #[uval m, uval 0] w fun e w' => e = .returned (.tuple #[uval 0, uval 0, .bool false]) ∧ Below w.heap.size w w' := by
  have en := fun w => eqRR0 0 true (by decide) (by decide) w
  unfold uval
  go_enter Try.func40, Try.ntmps40
  go_wp2
  refine bodyPost_ret (v := .tuple #[uval 0, uval 0, .bool false]) ?_ rfl ⟨rfl, ?_⟩
  · simp [results, Try.results40, go_sem, uval_zero0]
  · exact ba (ba (ba (ba (Below.refl _ _) _) _) _) _
theorem RDiv_is (m n q r : Nat) (b : Bool) (w : World) (h : DivIs m n q r b) : Calls Try.prog 40 #[uval m, uval n] w fun e w' => e = .returned (.tuple #[uval q, uval r, .bool b]) ∧ Below w.heap.size w w' := by
  obtain ⟨hm, hn, h⟩ := h
  rcases h with ⟨rfl, rfl, rfl, rfl⟩ | ⟨h0, rfl, rfl, rfl⟩
  · exact RDiv_none m w
  · exact RDiv_core m n w hm hn h0
end Go.Proofs.Ytndockjflnicjaa
