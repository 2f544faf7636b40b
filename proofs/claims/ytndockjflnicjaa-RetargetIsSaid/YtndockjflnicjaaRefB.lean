/- The document's Add and Sub. -/
import Derived.Test.YtndockjflnicjaaRefB0
namespace Go.Proofs.Ytndockjflnicjaa
open Go.RowKit
set_option linter.unusedVariables false
theorem results_cs {fn : Func} {p s : Tmp} {ty : TypeId} (h : fn.results = #[.cell p ty, .tmp s]) {P : Program} (tmps : Array Value) (w : World) (g : Nat) (t : TypeId) (cs : Array Value) {n : Nat} {e : TypeId}
    (hp : tmps.getD p undef = .pointer (some ⟨g, 0, none⟩)) (hg : Blk w g t cs) (hu : P.underlying ty = some (.array n e)) (hi : (P.info? ty).map (·.size) = some cs.size) : (results fn tmps).run P w = .ok (.tuple #[.agg cs, tmps.getD s undef]) w := by
  have hp' : tmps[p]?.getD undef = .pointer (some ⟨g, 0, none⟩) := by simpa using hp
  simp [results, h, hp', asAddr, run_loadVar_row w g t ty cs (0, 0) _ hg hu rfl hi]
set_option maxRecDepth 100000 in
set_option maxHeartbeats 2000000 in
theorem RAdd_any (m n r : Nat) (b : Bool) (w : World) (h : SumIs m n r b) :
    Calls Try.prog 42 #[uval m, uval n] w fun e w' => e = .returned (.tuple #[uval r, .bool b]) ∧ Below w.heap.size w w' := by
  obtain ⟨hm, hn, hr, he⟩ := h
  have hdr : bc (dig r) = bc (dig (m + n)) := by
    have hT0 : T < 2 * T := by decide
    rw [show r = (m + n) % T from ?_]
    · exact bc_ext fun i hi => dig_mod (m + n) i hi
    · cases b
      · simp at he
        rw [he, Nat.mod_eq_of_lt hr]
      · simp at he
        rw [he, Nat.add_mod_right, Nat.mod_eq_of_lt hr]
  have hbr : ((cryD m n 256 : Int) == 1) = b := by
    have e : cryD m n 256 = (m + n) / T := by
      unfold cryD
      rw [← T_pow, Nat.mod_eq_of_lt hm, Nat.mod_eq_of_lt hn]
    rw [e]
    have hT : 0 < T := by decide
    cases b
    · simp at he
      rw [he, Nat.div_eq_of_lt hr]
      rfl
    · simp at he
      rw [he, Nat.add_div_right _ hT, Nat.div_eq_of_lt hr]
      rfl
  obtain ⟨D0, hD0⟩ : ∃ D, D = bc (dig m) := ⟨_, rfl⟩
  have sD0 : D0.size = 256 := by rw [hD0]; exact bc_size _
  have aD0 : D0.all (·.oneCell') = true := by rw [hD0]; exact bc_one _
  have iD0 := isB D0 sD0
  have cD0 := fun w => digits_any m w
  rw [← hD0] at cD0
  obtain ⟨D1, hD1⟩ : ∃ D, D = bc (dig n) := ⟨_, rfl⟩
  have sD1 : D1.size = 256 := by rw [hD1]; exact bc_size _
  have aD1 : D1.all (·.oneCell') = true := by rw [hD1]; exact bc_one _
  have iD1 := isB D1 sD1
  have cD1 := fun w => digits_any n w
  rw [← hD1] at cD1
  obtain ⟨Z, hZ⟩ : ∃ Z, Z = bc fun _ => 0 := ⟨_, rfl⟩
  have HA := allocZ_of hZ
  have sZ0 : Z.size = D0.size := by rw [sD0, hZ]; exact bc_size _
  have sZ1 : Z.size = D1.size := by rw [sD1, hZ]; exact bc_size _
  have P := Lib.hid (And.intro hZ (And.intro hD0 (And.intro cD0 (And.intro hD1 (And.intro cD1 trivial))))); clear hZ hD0 cD0 sD0 hD1 cD1 sD1
  have q0 := uval_zero0
  have cN := fun w => number_any r hr w
  have hN := Lib.hid (And.intro cN (And.intro hm (And.intro hn (And.intro hdr hbr)))); clear cN hm hn hdr hbr he hr
  unfold uval
  go_enter Try.func42, Try.ntmps42
  go_wp2_with fail
  refine (P.out.2.2.1 _).mono ?_
  rintro e w1 ⟨rfl, hb1⟩
  have A1 : Blk w1 w.heap.size 63 (ucells m) := (((Blk.newAt _ _ _ rfl).alloc _).alloc _).calls hb1
  have A2 : Blk w1 (w.heap.size + 1) 63 (ucells n) := ((Blk.snd _ _ _ _).alloc _).calls hb1
  have A3 : Blk w1 (w.heap.size + 2) 63 (ucells 0) := (Blk.newAt _ _ _ (by simp)).calls hb1
  have AB : Below w.heap.size w w1 := bt (ba (ba (ba (Below.refl _ _) _) _) _) hb1
  clear hb1
  have l3 := A3.lt
  have N1 : Blk _ w1.heap.size 81 Z := Blk.new w1 81 Z
  have X1 := N1.row D0
  have B2 := (A2.alloc (.cells Z 81)).rowFar (b := w1.heap.size) (by omega) D0
  have B3 := (A3.alloc (.cells Z 81)).rowFar (b := w1.heap.size) (by omega) D0
  have BB := setRow_below (g := w1.heap.size) (ba AB (.cells Z 81)) AB.size D0
  have c2 := cl4 B2
  have K := Lib.hid (And.intro X1 (And.intro B3 BB)); clear A1 A2 A3 AB X1 B2 B3 BB
  go_wp2_with (first | with_reducible refine HA.out rfl rfl ?_ | with_reducible refine ws_row N1 _ _ _ _ rfl rfl rfl rfl iD0 sZ0 aD0 ?_)
  refine (P.out.2.2.2.2.1 _).mono ?_
  rintro e w2 ⟨rfl, hb2⟩
  clear c2 N1
  have zz : w1.heap.size < w2.heap.size := (K.out.1.calls hb2).lt
  have N2 : Blk _ w2.heap.size 81 Z := Blk.new w2 81 Z
  have Y := N2.row D1
  have X := ((K.out.1.calls hb2).alloc (.cells Z 81)).rowFar (b := w2.heap.size) (by omega) D1
  have B3 := ((K.out.2.1.calls hb2).alloc (.cells Z 81)).rowFar (b := w2.heap.size) (by omega) D1
  have BB := setRow_below (g := w2.heap.size) (ba (bt K.out.2.2 hb2) (.cells Z 81)) (by omega) D1
  have J := Lib.hid (And.intro X (And.intro Y (And.intro B3 BB))); clear X Y B3 BB hb2 K
  go_wp2_with (first | with_reducible refine HA.out rfl rfl ?_ | with_reducible refine ws_row N2 _ _ _ _ rfl rfl rfl rfl iD1 sZ1 aD1 ?_)
  clear N2
  generalize World.setRow _ _ _ = w3 at *
  go_loopw [8, 9] (fun c i wr => ∃ k : Nat, k ≤ 256 ∧ i = .int .i64 k ∧ c = .int .i64 (cryD m n k : Nat) ∧ Blk wr w1.heap.size 81 (bc (mixD (dig (m + n)) (dig m) k)) ∧ Blk wr w2.heap.size 81 D1 ∧ Blk wr (w.heap.size + 2) 63 (ucells 0) ∧ Below w.heap.size w wr) (fun _ i _ => 256 - (intOf i).toNat)
  case atStart =>
    refine ⟨0, by omega, rfl, by rw [cryD_zero]; rfl, ?_, J.out.2.1, J.out.2.2.1, J.out.2.2.2⟩
    rw [mixD_zero, ← P.out.2.1]
    exact J.out.1
  case round =>
    obtain ⟨k, hk, rfl, rfl, h0, h1, h2, hb⟩ := hrel
    by_cases hlt : k < 256
    · obtain ⟨x, hx⟩ : ∃ x, x = m / 2 ^ k % 2 := ⟨_, rfl⟩
      obtain ⟨y, hy⟩ : ∃ y, y = n / 2 ^ k % 2 := ⟨_, rfl⟩
      obtain ⟨s, hs⟩ : ∃ s, s = (m + n) / 2 ^ k % 2 := ⟨_, rfl⟩
      obtain ⟨c, hc⟩ : ∃ c, c = cryD m n k := ⟨_, rfl⟩
      obtain ⟨c', hc'⟩ : ∃ c', c' = cryD m n (k + 1) := ⟨_, rfl⟩
      have st := cryD_step m n k
      have hx1 : x ≤ 1 := by omega
      have hy1 : y ≤ 1 := by omega
      have hs1 : s ≤ 1 := by omega
      have hc1 : c ≤ 1 := by rw [hc]; exact cryD_le m n k
      have hc1' : c' ≤ 1 := by rw [hc']; exact cryD_le m n (k + 1)
      rw [← hx, ← hy, ← hs, ← hc, ← hc'] at st
      rw [← hc]
      have cx := blk_get h0 k _ (bc_at _ k hlt)
      rw [mixD_at, show dig m k = ((x : Nat) : Int) by rw [hx]; rfl] at cx
      have ey : D1[k]? = some (.int .i64 (y : Nat)) := by rw [P.out.2.2.2.1, hy]; exact bc_at _ k hlt
      have cy := blk_get h1 k _ ey
      have f0 := h0.frozen k
      have ds : ((s : Nat) : Int) = dig (m + n) k := by rw [hs]; rfl
      have k2 : (k : Int) < 256 := by omega
      have ST := Lib.hid (And.intro st (And.intro ds (And.intro hc' (And.intro hs1 hc1')))); clear st ds hc' hs hx hy hc ey hs1 hc1'
      have J := Lib.hid (And.intro h0 (And.intro h1 (And.intro h2 hb))); clear h0 h1 h2 hb
      go_wp2
      go_region
      go_wp2
      go_roundw
      case rel =>
        obtain ⟨st, ds, hc', hs1, hc1'⟩ := ST.out
        refine ⟨k + 1, by omega, by go_num, ?_, ?_, (J.out.2.1.far (by omega) _).drew, (J.out.2.2.1.far (by omega) _).drew, (J.out.2.2.2.setCell (by simp; omega) _).drew⟩
        · rw [← hc']
          first | rfl | (congr 1; omega)
        · have e := mixD_set (dig (m + n)) (dig m) k hlt
          rw [← ds] at e
          refine ((J.out.1.set_ k _).to ?_).drew
          rw [← e]
          first | rfl | (congr 2; omega)
      case measure => simp [intOf]; omega

    · obtain rfl : k = 256 := by omega
      rw [mixD_full, ← hN.out.2.2.2.1] at h0
      obtain ⟨G, hG⟩ : ∃ G, G = bc (dig r) := ⟨_, rfl⟩
      have cN := hN.out.1
      rw [← hG] at h0 cN
      have sG : G.size = 256 := by rw [hG]; exact bc_size _
      have iG := isB G sG
      obtain ⟨U, hU⟩ : ∃ U, U = ucells r := ⟨_, rfl⟩
      have sU : U.size = 4 := by rw [hU]; rfl
      have aU : U.all (·.oneCell') = true := by rw [hU]; exact u_one _
      have iU := isR4 U sU
      have zU : (ucells 0).size = U.size := by rw [sU]; rfl
      have uU : uval r = .agg U := by rw [hU]; rfl
      rw [uU] at cN
      have hbr : ((((cryD m n 256 : Nat) : Int)) == 1) = b := hN.out.2.2.2.2
      have J := Lib.hid (And.intro h0 (And.intro h2 (And.intro hb (And.intro hU cN)))); clear h0 h1 h2 hb hU cN uU hG sG sU
      generalize cryD m n 256 = cc at *
      have HB := Lib.hid hbr; clear hbr
      go_wp2_with (with_reducible refine wl_row J.out.1 _ _ rfl rfl rfl _ _ Try.underlying81 iG ?_)
      refine (J.out.2.2.2.2 _).mono ?_
      rintro e w5 ⟨rfl, hb5⟩
      have D := Lib.hid (And.intro (J.out.2.1.calls hb5) (bt J.out.2.2.1 hb5)); clear hb5
      have D2 := Lib.hid J.out.2.2.2.1
      have hbr := HB.out
      go_wp2_with (with_reducible refine ws_row D.out.1 _ _ _ _ rfl rfl rfl rfl iU zU aU ?_)
      refine bodyPost_ret (v := .tuple #[.agg U, .bool b]) ?_ rfl ⟨by rw [D2.out]; rfl, setRow_below D.out.2 (by omega) _⟩
      exact results_cs (p := 4) (s := 5) rfl _ _ _ _ _ rfl (D.out.1.row _) Try.underlying63 iU
set_option maxRecDepth 100000 in
set_option maxHeartbeats 2000000 in
theorem RSub_any (m n r : Nat) (b : Bool) (w : World) (h : DiffIs m n r b) :
    Calls Try.prog 48 #[uval m, uval n] w fun e w' => e = .returned (.tuple #[uval r, .bool b]) ∧ Below w.heap.size w w' := by
  obtain ⟨hm, hn, hr, he⟩ := h
  have hdr : bc (dig r) = bc (dig (m + (T - n))) := by
    rw [show r = (m + (T - n)) % T from ?_]
    · exact bc_ext fun i hi => dig_mod (m + (T - n)) i hi
    · cases b
      · simp at he
        rw [show m + (T - n) = r + T by omega, Nat.add_mod_right, Nat.mod_eq_of_lt hr]
      · simp at he
        rw [show m + (T - n) = r by omega, Nat.mod_eq_of_lt hr]
  have hbr : ((boD m n 256 : Int) == 1) = b := by
    unfold boD
    rw [← T_pow, Nat.mod_eq_of_lt hm, Nat.mod_eq_of_lt hn]
    cases b
    · simp at he
      rw [if_neg (by omega)]
      rfl
    · simp at he
      rw [if_pos (by omega)]
      rfl
  obtain ⟨D0, hD0⟩ : ∃ D, D = bc (dig m) := ⟨_, rfl⟩
  have sD0 : D0.size = 256 := by rw [hD0]; exact bc_size _
  have aD0 : D0.all (·.oneCell') = true := by rw [hD0]; exact bc_one _
  have iD0 := isB D0 sD0
  have cD0 := fun w => digits_any m w
  rw [← hD0] at cD0
  obtain ⟨D1, hD1⟩ : ∃ D, D = bc (dig n) := ⟨_, rfl⟩
  have sD1 : D1.size = 256 := by rw [hD1]; exact bc_size _
  have aD1 : D1.all (·.oneCell') = true := by rw [hD1]; exact bc_one _
  have iD1 := isB D1 sD1
  have cD1 := fun w => digits_any n w
  rw [← hD1] at cD1
  obtain ⟨Z, hZ⟩ : ∃ Z, Z = bc fun _ => 0 := ⟨_, rfl⟩
  have HA := allocZ_of hZ
  have sZ0 : Z.size = D0.size := by rw [sD0, hZ]; exact bc_size _
  have sZ1 : Z.size = D1.size := by rw [sD1, hZ]; exact bc_size _
  have P := Lib.hid (And.intro hZ (And.intro hD0 (And.intro cD0 (And.intro hD1 (And.intro cD1 trivial))))); clear hZ hD0 cD0 sD0 hD1 cD1 sD1
  have q0 := uval_zero0
  have cN := fun w => number_any r hr w
  have hN := Lib.hid (And.intro cN (And.intro hm (And.intro hn (And.intro hdr hbr)))); clear cN hm hn hdr hbr he hr
  unfold uval
  go_enter Try.func48, Try.ntmps48
  go_wp2_with fail
  refine (P.out.2.2.1 _).mono ?_
  rintro e w1 ⟨rfl, hb1⟩
  have A1 : Blk w1 w.heap.size 63 (ucells m) := (((Blk.newAt _ _ _ rfl).alloc _).alloc _).calls hb1
  have A2 : Blk w1 (w.heap.size + 1) 63 (ucells n) := ((Blk.snd _ _ _ _).alloc _).calls hb1
  have A3 : Blk w1 (w.heap.size + 2) 63 (ucells 0) := (Blk.newAt _ _ _ (by simp)).calls hb1
  have AB : Below w.heap.size w w1 := bt (ba (ba (ba (Below.refl _ _) _) _) _) hb1
  clear hb1
  have l3 := A3.lt
  have N1 : Blk _ w1.heap.size 81 Z := Blk.new w1 81 Z
  have X1 := N1.row D0
  have B2 := (A2.alloc (.cells Z 81)).rowFar (b := w1.heap.size) (by omega) D0
  have B3 := (A3.alloc (.cells Z 81)).rowFar (b := w1.heap.size) (by omega) D0
  have BB := setRow_below (g := w1.heap.size) (ba AB (.cells Z 81)) AB.size D0
  have c2 := cl4 B2
  have K := Lib.hid (And.intro X1 (And.intro B3 BB)); clear A1 A2 A3 AB X1 B2 B3 BB
  go_wp2_with (first | with_reducible refine HA.out rfl rfl ?_ | with_reducible refine ws_row N1 _ _ _ _ rfl rfl rfl rfl iD0 sZ0 aD0 ?_)
  refine (P.out.2.2.2.2.1 _).mono ?_
  rintro e w2 ⟨rfl, hb2⟩
  clear c2 N1
  have zz : w1.heap.size < w2.heap.size := (K.out.1.calls hb2).lt
  have N2 : Blk _ w2.heap.size 81 Z := Blk.new w2 81 Z
  have Y := N2.row D1
  have X := ((K.out.1.calls hb2).alloc (.cells Z 81)).rowFar (b := w2.heap.size) (by omega) D1
  have B3 := ((K.out.2.1.calls hb2).alloc (.cells Z 81)).rowFar (b := w2.heap.size) (by omega) D1
  have BB := setRow_below (g := w2.heap.size) (ba (bt K.out.2.2 hb2) (.cells Z 81)) (by omega) D1
  have J := Lib.hid (And.intro X (And.intro Y (And.intro B3 BB))); clear X Y B3 BB hb2 K
  go_wp2_with (first | with_reducible refine HA.out rfl rfl ?_ | with_reducible refine ws_row N2 _ _ _ _ rfl rfl rfl rfl iD1 sZ1 aD1 ?_)
  clear N2
  generalize World.setRow _ _ _ = w3 at *
  go_loopw [8, 9] (fun c i wr => ∃ k : Nat, k ≤ 256 ∧ i = .int .i64 k ∧ c = .int .i64 (boD m n k : Nat) ∧ Blk wr w1.heap.size 81 (bc (mixD (dig (m + (T - n))) (dig m) k)) ∧ Blk wr w2.heap.size 81 D1 ∧ Blk wr (w.heap.size + 2) 63 (ucells 0) ∧ Below w.heap.size w wr) (fun _ i _ => 256 - (intOf i).toNat)
  case atStart =>
    refine ⟨0, by omega, rfl, by rw [boD_zero]; rfl, ?_, J.out.2.1, J.out.2.2.1, J.out.2.2.2⟩
    rw [mixD_zero, ← P.out.2.1]
    exact J.out.1
  case round =>
    obtain ⟨k, hk, rfl, rfl, h0, h1, h2, hb⟩ := hrel
    by_cases hlt : k < 256
    · obtain ⟨x, hx⟩ : ∃ x, x = m / 2 ^ k % 2 := ⟨_, rfl⟩
      obtain ⟨y, hy⟩ : ∃ y, y = n / 2 ^ k % 2 := ⟨_, rfl⟩
      obtain ⟨s, hs⟩ : ∃ s, s = (m + (T - n)) / 2 ^ k % 2 := ⟨_, rfl⟩
      obtain ⟨c, hc⟩ : ∃ c, c = boD m n k := ⟨_, rfl⟩
      obtain ⟨c', hc'⟩ : ∃ c', c' = boD m n (k + 1) := ⟨_, rfl⟩
      have st := boD_step m n k hN.out.2.2.1 hlt
      have hx1 : x ≤ 1 := by omega
      have hy1 : y ≤ 1 := by omega
      have hs1 : s ≤ 1 := by omega
      have hc1 : c ≤ 1 := by rw [hc]; exact boD_le m n k
      have hc1' : c' ≤ 1 := by rw [hc']; exact boD_le m n (k + 1)
      rw [← hx, ← hy, ← hs, ← hc, ← hc'] at st
      rw [← hc]
      have cx := blk_get h0 k _ (bc_at _ k hlt)
      rw [mixD_at, show dig m k = ((x : Nat) : Int) by rw [hx]; rfl] at cx
      have ey : D1[k]? = some (.int .i64 (y : Nat)) := by rw [P.out.2.2.2.1, hy]; exact bc_at _ k hlt
      have cy := blk_get h1 k _ ey
      have f0 := h0.frozen k
      have ds : ((s : Nat) : Int) = dig (m + (T - n)) k := by rw [hs]; rfl
      have k2 : (k : Int) < 256 := by omega
      have ST := Lib.hid (And.intro st (And.intro ds (And.intro hc' (And.intro hs1 hc1')))); clear st ds hc' hs hx hy hc ey hs1 hc1'
      have J := Lib.hid (And.intro h0 (And.intro h1 (And.intro h2 hb))); clear h0 h1 h2 hb
      by_cases hcc : c' = 1
      · have hneg : (x : Int) - y - c < 0 := by have := ST.out.1; have := ST.out.2.2.2.1; omega
        go_wp2
        go_region
        go_wp2
        go_roundw
        case rel =>
          obtain ⟨st, ds, hc', hs1, hc1'⟩ := ST.out
          refine ⟨k + 1, by omega, by go_num, ?_, ?_, (J.out.2.1.far (by omega) _).drew, (J.out.2.2.1.far (by omega) _).drew, (J.out.2.2.2.setCell (by simp; omega) _).drew⟩
          · rw [← hc']
            first | rfl | (congr 1; omega)
          · have e := mixD_set (dig (m + (T - n))) (dig m) k hlt
            rw [← ds] at e
            refine ((J.out.1.set_ k _).to ?_).drew
            rw [← e]
            first | rfl | (congr 2; omega)
        case measure => simp [intOf]; omega
      · have hneg : ¬ (x : Int) - y - c < 0 := by have := ST.out.1; have := ST.out.2.2.2.2; omega
        go_wp2
        go_region
        go_wp2
        go_roundw
        case rel =>
          obtain ⟨st, ds, hc', hs1, hc1'⟩ := ST.out
          refine ⟨k + 1, by omega, by go_num, ?_, ?_, (J.out.2.1.far (by omega) _).drew, (J.out.2.2.1.far (by omega) _).drew, (J.out.2.2.2.setCell (by simp; omega) _).drew⟩
          · rw [← hc']
            first | rfl | (congr 1; omega)
          · have e := mixD_set (dig (m + (T - n))) (dig m) k hlt
            rw [← ds] at e
            refine ((J.out.1.set_ k _).to ?_).drew
            rw [← e]
            first | rfl | (congr 2; omega)
        case measure => simp [intOf]; omega

    · obtain rfl : k = 256 := by omega
      rw [mixD_full, ← hN.out.2.2.2.1] at h0
      obtain ⟨G, hG⟩ : ∃ G, G = bc (dig r) := ⟨_, rfl⟩
      have cN := hN.out.1
      rw [← hG] at h0 cN
      have sG : G.size = 256 := by rw [hG]; exact bc_size _
      have iG := isB G sG
      obtain ⟨U, hU⟩ : ∃ U, U = ucells r := ⟨_, rfl⟩
      have sU : U.size = 4 := by rw [hU]; rfl
      have aU : U.all (·.oneCell') = true := by rw [hU]; exact u_one _
      have iU := isR4 U sU
      have zU : (ucells 0).size = U.size := by rw [sU]; rfl
      have uU : uval r = .agg U := by rw [hU]; rfl
      rw [uU] at cN
      have hbr : ((((boD m n 256 : Nat) : Int)) == 1) = b := hN.out.2.2.2.2
      have J := Lib.hid (And.intro h0 (And.intro h2 (And.intro hb (And.intro hU cN)))); clear h0 h1 h2 hb hU cN uU hG sG sU
      generalize boD m n 256 = cc at *
      have HB := Lib.hid hbr; clear hbr
      go_wp2_with (with_reducible refine wl_row J.out.1 _ _ rfl rfl rfl _ _ Try.underlying81 iG ?_)
      refine (J.out.2.2.2.2 _).mono ?_
      rintro e w5 ⟨rfl, hb5⟩
      have D := Lib.hid (And.intro (J.out.2.1.calls hb5) (bt J.out.2.2.1 hb5)); clear hb5
      have D2 := Lib.hid J.out.2.2.2.1
      have hbr := HB.out
      go_wp2_with (with_reducible refine ws_row D.out.1 _ _ _ _ rfl rfl rfl rfl iU zU aU ?_)
      refine bodyPost_ret (v := .tuple #[.agg U, .bool b]) ?_ rfl ⟨by rw [D2.out]; rfl, setRow_below D.out.2 (by omega) _⟩
      exact results_cs (p := 4) (s := 5) rfl _ _ _ _ _ rfl (D.out.1.row _) Try.underlying63 iU
end Go.Proofs.Ytndockjflnicjaa
