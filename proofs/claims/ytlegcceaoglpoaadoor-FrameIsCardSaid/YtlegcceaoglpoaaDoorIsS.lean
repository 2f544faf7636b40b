/- FrameIs: the law's walk. -/
import Derived.BigQuiet
import Derived.Test.YtlegcceaoglpoaaDoorIsK
import Derived.Test.YtlegcceaoglpoaaDoorIsM
import Derived.Test.YtlegcceaoglpoaaDoorIsN
import Derived.Test.YtlegcceaoglpoaaDoorIsP
import Derived.Test.YtlegcceaoglpoaaDoorIsR
namespace Go.Proofs.YtlegcceaoglpoaaDoor
open Go.RowKit
set_option linter.unusedVariables false
/-- What Get tells: the command, the payload, how many bytes, the mark. -/
def grAll : GR → List UInt8 × List UInt8 × Nat × Nat
  | .no e => ([], [], 0, e)
  | .yes c p => (c, p, 24 + p.length, 0)
theorem GetV.parts {base magic cap : Nat} {b : List UInt8} {v : Value} {w : World} (h : GetV base magic cap b v w) :
    ∃ a c, v = .tuple #[.agg #[.string (bstr (grAll (getG magic cap b)).1), .slice a (grAll (getG magic cap b)).2.1.length c], .int .i64 ((grAll (getG magic cap b)).2.2.1 : Nat), .int .i64 ((grAll (getG magic cap b)).2.2.2 : Nat)] ∧ CloV (grAll (getG magic cap b)).2.1 (.slice a (grAll (getG magic cap b)).2.1.length c) w := by
  unfold GetV at h
  cases hg : getG magic cap b with
  | no e =>
    rw [hg] at h
    exact ⟨none, 0, h, ⟨none, 0, rfl, .inl rfl, Nat.le_refl _, Nat.zero_le _, fun _ => ⟨rfl, rfl⟩⟩⟩
  | yes c p =>
    rw [hg] at h
    obtain ⟨u, hv, hu, _⟩ := h
    obtain ⟨a, cc, rfl, hr⟩ := hu
    exact ⟨a, cc, hv, ⟨a, cc, rfl, hr⟩⟩
theorem CloV.rds {l : List UInt8} {a : Option Addr} {n c : Nat} {w : World} (h : CloV l (.slice a n c) w) : RdS w a l := by
  obtain ⟨a', c', e, hr, _⟩ := h
  injection e with e1 e2 e3
  subst e1
  exact hr
theorem feedF_len (magic : Nat) (m : Int) (rest : List UInt8) (bad : Int) (c : List UInt8) : (feedF magic m rest bad c).1.length ≤ rest.length + c.length := by
  have h : ∀ K x, (fedA magic K x).1.length ≤ x.length := fun K x => by
    have h1 := (fedA_kept magic K x).2.1
    have h2 := sumM_length (fedA magic K x).1
    omega
  unfold feedF
  split
  · split
    · have := h (capN m) (rest ++ c)
      rw [List.length_append] at this
      exact this
    · exact Nat.zero_le _
  · have := h (capN m) c
    omega
set_option maxRecDepth 100000 in
set_option maxHeartbeats 4000000 in
theorem Is_walk (w : World) (hL : Laid w) (magic : Nat) (hm : magic < 4294967296) (most : Int) (x : MsgT) (S : ByteArray) (hS : S = bstr x.1) (p : Option Addr) (n d : Nat) (hn : x.2.length = n) (hRp : RdS w p x.2) (q4 : n ≤ d) (q5 : d ≤ 9223372036854775807) (q6 : p = none → n = 0 ∧ d = 0)
    (ab : Option Addr) (nb cb : Nat) (lb : List UInt8) (hlb : lb.length = nb) (hb1 : nb ≤ cb) (hb2 : cb ≤ 140737488355328) (hnob : ab = none → nb = 0 ∧ cb = 0) (hRb : RdS w ab lb)
    (mg : Nat) (hmg : mg < 4294967296) (K0 bad : Int) (as_ : Option Addr) (ns ds : Nat) (rs : List UInt8) (hls : rs.length = ns) (hs1 : ns ≤ ds) (hs2 : ds ≤ 140737488355328) (hnos : as_ = none → ns = 0 ∧ ds = 0) (hRs : RdS w as_ rs)
    (ac : Option Addr) (nc cc : Nat) (lc : List UInt8) (hlc : lc.length = nc) (hc1 : nc ≤ cc) (hc2 : cc ≤ 140737488355328) (hnoc : ac = none → nc = 0 ∧ cc = 0) (hRc : RdS w ac lc) :
    Calls Tryd.prog 3 #[.int .u32 magic, .int .i64 most, .agg #[.string S, .slice p n d], .slice ab nb cb, .agg #[.int .u32 mg, .int .i64 K0, .slice as_ ns ds, .int .i64 bad], .slice ac nc cc] w fun e w' => e = .returned (.bool true) ∧ Below w.heap.size w w' := by
  have cA := fun w' (h : Below w.heap.size w w') => Awake06 w' (hL.calls h)
  have hsz : S.size = x.1.length := by rw [hS]; simp [bstr, ByteArray.size]
  have H := Lib.hid (And.intro hL (And.intro hRp (And.intro (And.intro hRb (And.intro hRs hRc)) (And.intro (And.intro hlb (And.intro hls hlc)) (And.intro hS (And.intro hn cA)))))); clear hL hRp hRb hRs hRc hlb hls hlc hS hn cA
  have big : ((400 : Int) < (nb : Int) ∨ (400 : Int) < (n : Int) ∨ (400 : Int) < (ns : Int) ∨ (400 : Int) < (nc : Int) ∨ (100 : Int) < (S.size : Int)) → Calls Tryd.prog 3 #[.int .u32 magic, .int .i64 most, .agg #[.string S, .slice p n d], .slice ab nb cb, .agg #[.int .u32 mg, .int .i64 K0, .slice as_ ns ds, .int .i64 bad], .slice ac nc cc] w fun e w' => e = .returned (.bool true) ∧ Below w.heap.size w w' := by
    intro hbig
    clear hsz q6 hnob hnos hnoc
    by_cases b1' : (400 : Int) < (nb : Int)
    · go_enter Tryd.func3, Tryd.ntmps3
      go_wp2_with fail
      refine (H.out.2.2.2.2.2.2 _ (ba (ba (Below.refl _ _) _) _)).mono ?_
      rintro e w1 ⟨rfl, hb1⟩
      have X1 := ((Blk.newAt w 25 #[.string S, .slice p n d] rfl).alloc (.cells #[.int .u32 mg, .int .i64 K0, .slice as_ ns ds, .int .i64 bad] 28)).calls hb1
      have X2 : Blk w1 (w.heap.size + 1) 28 #[.int .u32 mg, .int .i64 K0, .slice as_ ns ds, .int .i64 bad] := (Blk.second w _ _ _).calls hb1
      have m1 : w1.cell? ⟨w.heap.size, 0, none⟩ = some (.string S) := X1.cell 0
      have m2 : w1.cell? ⟨w.heap.size, 1, none⟩ = some (.slice p n d) := X1.cell 1
      have s0 : w1.cell? ⟨w.heap.size + 1, 0, none⟩ = some (.int .u32 mg) := X2.cell 0
      have s1 : w1.cell? ⟨w.heap.size + 1, 1, none⟩ = some (.int .i64 K0) := X2.cell 1
      have s2 : w1.cell? ⟨w.heap.size + 1, 2, none⟩ = some (.slice as_ ns ds) := X2.cell 2
      have s3 : w1.cell? ⟨w.heap.size + 1, 3, none⟩ = some (.int .i64 bad) := X2.cell 3
      have zz : w.heap.size + 1 < w1.heap.size := X2.lt
      have zy : w.heap.size < w1.heap.size := X1.lt
      have B1 := Lib.hid (bt (ba (ba (Below.refl w.heap.size w) (.cells #[.string S, .slice p n d] 25)) (.cells #[.int .u32 mg, .int .i64 K0, .slice as_ ns ds, .int .i64 bad] 28)) hb1); clear hb1 X1 X2
      go_wp2_with fail
      go_ret
      exact ⟨rfl, B1.out⟩
    by_cases b2' : (400 : Int) < (n : Int)
    · go_enter Tryd.func3, Tryd.ntmps3
      go_wp2_with fail
      refine (H.out.2.2.2.2.2.2 _ (ba (ba (Below.refl _ _) _) _)).mono ?_
      rintro e w1 ⟨rfl, hb1⟩
      have X1 := ((Blk.newAt w 25 #[.string S, .slice p n d] rfl).alloc (.cells #[.int .u32 mg, .int .i64 K0, .slice as_ ns ds, .int .i64 bad] 28)).calls hb1
      have X2 : Blk w1 (w.heap.size + 1) 28 #[.int .u32 mg, .int .i64 K0, .slice as_ ns ds, .int .i64 bad] := (Blk.second w _ _ _).calls hb1
      have m1 : w1.cell? ⟨w.heap.size, 0, none⟩ = some (.string S) := X1.cell 0
      have m2 : w1.cell? ⟨w.heap.size, 1, none⟩ = some (.slice p n d) := X1.cell 1
      have s0 : w1.cell? ⟨w.heap.size + 1, 0, none⟩ = some (.int .u32 mg) := X2.cell 0
      have s1 : w1.cell? ⟨w.heap.size + 1, 1, none⟩ = some (.int .i64 K0) := X2.cell 1
      have s2 : w1.cell? ⟨w.heap.size + 1, 2, none⟩ = some (.slice as_ ns ds) := X2.cell 2
      have s3 : w1.cell? ⟨w.heap.size + 1, 3, none⟩ = some (.int .i64 bad) := X2.cell 3
      have zz : w.heap.size + 1 < w1.heap.size := X2.lt
      have zy : w.heap.size < w1.heap.size := X1.lt
      have B1 := Lib.hid (bt (ba (ba (Below.refl w.heap.size w) (.cells #[.string S, .slice p n d] 25)) (.cells #[.int .u32 mg, .int .i64 K0, .slice as_ ns ds, .int .i64 bad] 28)) hb1); clear hb1 X1 X2
      go_wp2_with fail
      go_ret
      exact ⟨rfl, B1.out⟩
    by_cases b3' : (400 : Int) < (ns : Int)
    · go_enter Tryd.func3, Tryd.ntmps3
      go_wp2_with fail
      refine (H.out.2.2.2.2.2.2 _ (ba (ba (Below.refl _ _) _) _)).mono ?_
      rintro e w1 ⟨rfl, hb1⟩
      have X1 := ((Blk.newAt w 25 #[.string S, .slice p n d] rfl).alloc (.cells #[.int .u32 mg, .int .i64 K0, .slice as_ ns ds, .int .i64 bad] 28)).calls hb1
      have X2 : Blk w1 (w.heap.size + 1) 28 #[.int .u32 mg, .int .i64 K0, .slice as_ ns ds, .int .i64 bad] := (Blk.second w _ _ _).calls hb1
      have m1 : w1.cell? ⟨w.heap.size, 0, none⟩ = some (.string S) := X1.cell 0
      have m2 : w1.cell? ⟨w.heap.size, 1, none⟩ = some (.slice p n d) := X1.cell 1
      have s0 : w1.cell? ⟨w.heap.size + 1, 0, none⟩ = some (.int .u32 mg) := X2.cell 0
      have s1 : w1.cell? ⟨w.heap.size + 1, 1, none⟩ = some (.int .i64 K0) := X2.cell 1
      have s2 : w1.cell? ⟨w.heap.size + 1, 2, none⟩ = some (.slice as_ ns ds) := X2.cell 2
      have s3 : w1.cell? ⟨w.heap.size + 1, 3, none⟩ = some (.int .i64 bad) := X2.cell 3
      have zz : w.heap.size + 1 < w1.heap.size := X2.lt
      have zy : w.heap.size < w1.heap.size := X1.lt
      have B1 := Lib.hid (bt (ba (ba (Below.refl w.heap.size w) (.cells #[.string S, .slice p n d] 25)) (.cells #[.int .u32 mg, .int .i64 K0, .slice as_ ns ds, .int .i64 bad] 28)) hb1); clear hb1 X1 X2
      go_wp2_with fail
      go_ret
      exact ⟨rfl, B1.out⟩
    by_cases b4' : (400 : Int) < (nc : Int)
    · go_enter Tryd.func3, Tryd.ntmps3
      go_wp2_with fail
      refine (H.out.2.2.2.2.2.2 _ (ba (ba (Below.refl _ _) _) _)).mono ?_
      rintro e w1 ⟨rfl, hb1⟩
      have X1 := ((Blk.newAt w 25 #[.string S, .slice p n d] rfl).alloc (.cells #[.int .u32 mg, .int .i64 K0, .slice as_ ns ds, .int .i64 bad] 28)).calls hb1
      have X2 : Blk w1 (w.heap.size + 1) 28 #[.int .u32 mg, .int .i64 K0, .slice as_ ns ds, .int .i64 bad] := (Blk.second w _ _ _).calls hb1
      have m1 : w1.cell? ⟨w.heap.size, 0, none⟩ = some (.string S) := X1.cell 0
      have m2 : w1.cell? ⟨w.heap.size, 1, none⟩ = some (.slice p n d) := X1.cell 1
      have s0 : w1.cell? ⟨w.heap.size + 1, 0, none⟩ = some (.int .u32 mg) := X2.cell 0
      have s1 : w1.cell? ⟨w.heap.size + 1, 1, none⟩ = some (.int .i64 K0) := X2.cell 1
      have s2 : w1.cell? ⟨w.heap.size + 1, 2, none⟩ = some (.slice as_ ns ds) := X2.cell 2
      have s3 : w1.cell? ⟨w.heap.size + 1, 3, none⟩ = some (.int .i64 bad) := X2.cell 3
      have zz : w.heap.size + 1 < w1.heap.size := X2.lt
      have zy : w.heap.size < w1.heap.size := X1.lt
      have B1 := Lib.hid (bt (ba (ba (Below.refl w.heap.size w) (.cells #[.string S, .slice p n d] 25)) (.cells #[.int .u32 mg, .int .i64 K0, .slice as_ ns ds, .int .i64 bad] 28)) hb1); clear hb1 X1 X2
      go_wp2_with fail
      go_ret
      exact ⟨rfl, B1.out⟩
    have b5' : (100 : Int) < (S.size : Int) := by omega
    go_enter Tryd.func3, Tryd.ntmps3
    go_wp2_with fail
    refine (H.out.2.2.2.2.2.2 _ (ba (ba (Below.refl _ _) _) _)).mono ?_
    rintro e w1 ⟨rfl, hb1⟩
    have X1 := ((Blk.newAt w 25 #[.string S, .slice p n d] rfl).alloc (.cells #[.int .u32 mg, .int .i64 K0, .slice as_ ns ds, .int .i64 bad] 28)).calls hb1
    have X2 : Blk w1 (w.heap.size + 1) 28 #[.int .u32 mg, .int .i64 K0, .slice as_ ns ds, .int .i64 bad] := (Blk.second w _ _ _).calls hb1
    have m1 : w1.cell? ⟨w.heap.size, 0, none⟩ = some (.string S) := X1.cell 0
    have m2 : w1.cell? ⟨w.heap.size, 1, none⟩ = some (.slice p n d) := X1.cell 1
    have s0 : w1.cell? ⟨w.heap.size + 1, 0, none⟩ = some (.int .u32 mg) := X2.cell 0
    have s1 : w1.cell? ⟨w.heap.size + 1, 1, none⟩ = some (.int .i64 K0) := X2.cell 1
    have s2 : w1.cell? ⟨w.heap.size + 1, 2, none⟩ = some (.slice as_ ns ds) := X2.cell 2
    have s3 : w1.cell? ⟨w.heap.size + 1, 3, none⟩ = some (.int .i64 bad) := X2.cell 3
    have zz : w.heap.size + 1 < w1.heap.size := X2.lt
    have zy : w.heap.size < w1.heap.size := X1.lt
    have B1 := Lib.hid (bt (ba (ba (Below.refl w.heap.size w) (.cells #[.string S, .slice p n d] 25)) (.cells #[.int .u32 mg, .int .i64 K0, .slice as_ ns ds, .int .i64 bad] 28)) hb1); clear hb1 X1 X2
    go_wp2_with fail
    go_ret
    exact ⟨rfl, B1.out⟩
  by_cases b0 : ((400 : Int) < (nb : Int) ∨ (400 : Int) < (n : Int) ∨ (400 : Int) < (ns : Int) ∨ (400 : Int) < (nc : Int) ∨ (100 : Int) < (S.size : Int))
  · exact big b0
  clear big
  have b1' : ¬ (400 : Int) < (nb : Int) := fun h => b0 (.inl h)
  have b2' : ¬ (400 : Int) < (n : Int) := fun h => b0 (.inr (.inl h))
  have b3' : ¬ (400 : Int) < (ns : Int) := fun h => b0 (.inr (.inr (.inl h)))
  have b4' : ¬ (400 : Int) < (nc : Int) := fun h => b0 (.inr (.inr (.inr (.inl h))))
  have b5' : ¬ (100 : Int) < (S.size : Int) := fun h => b0 (.inr (.inr (.inr (.inr h))))
  clear b0
  obtain ⟨E, hE⟩ : ∃ E, putE x.1 x.2 = E := ⟨_, rfl⟩
  obtain ⟨PL, hPL⟩ : ∃ l, putL magic x.1 x.2 = l := ⟨_, rfl⟩
  have cP := fun w' (h : Below w.heap.size w w') => Put_ex magic hm x.1 (by omega) p n d x.2 H.out.2.2.2.2.2.1 q4 ⟨by omega, q5⟩ q6 E PL hE hPL w' (H.out.2.1.calls h) (H.out.1.calls h)
  have cRP := fun w' (h : Below w.heap.size w w') => RPut_any magic hm x.1 (by omega) p n d x.2 H.out.2.2.2.2.2.1 q4 ⟨by omega, q5⟩ q6 w' (H.out.2.1.calls h)
  have cC := fun w' => Command_any x.1 (by omega) w'
  have cRC := fun w' => RCommand_any x.1 (by omega) w'
  rw [← H.out.2.2.2.2.1] at cP cRP cC cRC
  rw [hE, hPL] at cRP
  have KP := Lib.hid (And.intro cP cRP); clear cP cRP hE hPL
  have cG := fun w' (h : Below w.heap.size w w') => Get_any magic hm most ab nb cb lb H.out.2.2.2.1.1 hb1 ⟨by omega, by omega⟩ hnob w' (H.out.2.2.1.1.calls h) (H.out.1.calls h)
  have cRG := fun w' (h : Below w.heap.size w w') => RGet_any magic hm most ab nb cb lb H.out.2.2.2.1.1 hb1 ⟨by omega, by omega⟩ hnob w' (H.out.2.2.1.1.calls h)
  obtain ⟨KM, hKM⟩ : ∃ k, k = capN most := ⟨_, rfl⟩
  have cN := fun w' => New_any magic most w'
  have cRN := fun w' => RNew_any magic most w'
  rw [← hKM] at cG cRG cN cRN
  obtain ⟨⟨gc, gp, gn, ge⟩, hgr⟩ : ∃ G, grAll (getG magic KM lb) = G := ⟨_, rfl⟩
  have KG := Lib.hid (And.intro cG (And.intro cRG hgr)); clear cG cRG hgr hKM
  obtain ⟨GS, hGS⟩ : ∃ s, bstr gc = s := ⟨_, rfl⟩
  obtain ⟨GP, hGP⟩ : ∃ s, s = bstr gp := ⟨_, rfl⟩
  obtain ⟨XS, hXS⟩ : ∃ s, s = bstr PL := ⟨_, rfl⟩
  have KX := Lib.hid (And.intro hGS (And.intro hXS hGP)); clear hGS hXS hGP
  have cO := fun w' => Ours_any mg K0 bad as_ ns ds w'
  have cF := fun w' (h : Below w.heap.size w w') => Feed_any mg hmg K0 bad as_ ns ds rs ac nc cc lc H.out.2.2.2.1.2.1 H.out.2.2.2.1.2.2 hs1 (by omega) hc1 (by omega) (by omega) (by omega) hnos hnoc w' (H.out.2.2.1.2.1.calls h) (H.out.2.2.1.2.2.calls h) (H.out.1.calls h)
  have cRF := fun w' (h : Below w.heap.size w w') => RFeed_any mg hmg K0 bad as_ ns ds rs ac nc cc lc H.out.2.2.2.1.2.1 H.out.2.2.2.1.2.2 hs1 (by omega) hc1 (by omega) (by omega) (by omega) hnos hnoc w' (H.out.2.2.1.2.1.calls h) (H.out.2.2.1.2.2.calls h)
  have hTl := feedF_len mg K0 rs bad lc
  obtain ⟨K, hK⟩ : ∃ k, k = capN K0 := ⟨_, rfl⟩
  rw [← hK] at cF cRF
  clear hK
  obtain ⟨⟨T, lr, fd⟩, hfr⟩ : ∃ R, feedF mg K0 rs bad lc = R := ⟨_, rfl⟩
  rw [hfr, H.out.2.2.2.1.2.1, H.out.2.2.2.1.2.2] at hTl
  have hT8 : T.length ≤ 800 := by
    have hTl' : T.length ≤ ns + nc := hTl
    omega
  clear hTl
  have KF := Lib.hid (And.intro cO (And.intro cF (And.intro cRF hfr))); clear cO cF cRF hfr
  have cS := fun w' (h : Below w.heap.size w w') => FSane_any mg hmg K0 bad as_ ns ds rs H.out.2.2.2.1.2.1 hs1 ⟨by omega, by omega⟩ hnos w' (H.out.2.2.1.2.1.calls h) (H.out.1.calls h)
  have cRS := fun w' (h : Below w.heap.size w w') => RFSane_any mg hmg K0 bad as_ ns ds rs H.out.2.2.2.1.2.1 hs1 ⟨by omega, by omega⟩ hnos w' (H.out.2.2.1.2.1.calls h)
  obtain ⟨sv, hsv⟩ : ∃ b, saneF mg K0 rs bad = b := ⟨_, rfl⟩
  rw [hsv] at cS cRS
  obtain ⟨cv, hcv⟩ : ∃ b, cmdOk x.1 = b := ⟨_, rfl⟩
  rw [hcv] at cC cRC
  have cC' : ∀ w', Calls Tryd.prog 18 #[.string S] w' fun e w'' => e = .returned (.bool cv) ∧ Below w'.heap.size w' w'' := fun w' => (cC w').mono fun e w'' h => ⟨h.1, h.2 ▸ Below.refl _ _⟩
  have KS := Lib.hid (And.intro cS (And.intro cRS (And.intro cC' (And.intro cRC (And.intro cN cRN))))); clear cS cRS cC cC' cRC cN cRN hsv hcv hsz
  go_enter Tryd.func3, Tryd.ntmps3
  go_wp2_with fail
  refine (H.out.2.2.2.2.2.2 _ (ba (ba (Below.refl _ _) _) _)).mono ?_
  rintro e w1 ⟨rfl, hb1⟩
  have X1 := ((Blk.newAt w 25 #[.string S, .slice p n d] rfl).alloc (.cells #[.int .u32 mg, .int .i64 K0, .slice as_ ns ds, .int .i64 bad] 28)).calls hb1
  have X2 : Blk w1 (w.heap.size + 1) 28 #[.int .u32 mg, .int .i64 K0, .slice as_ ns ds, .int .i64 bad] := (Blk.second w _ _ _).calls hb1
  have m1 : w1.cell? ⟨w.heap.size, 0, none⟩ = some (.string S) := X1.cell 0
  have m2 : w1.cell? ⟨w.heap.size, 1, none⟩ = some (.slice p n d) := X1.cell 1
  have s0 : w1.cell? ⟨w.heap.size + 1, 0, none⟩ = some (.int .u32 mg) := X2.cell 0
  have s1 : w1.cell? ⟨w.heap.size + 1, 1, none⟩ = some (.int .i64 K0) := X2.cell 1
  have s2 : w1.cell? ⟨w.heap.size + 1, 2, none⟩ = some (.slice as_ ns ds) := X2.cell 2
  have s3 : w1.cell? ⟨w.heap.size + 1, 3, none⟩ = some (.int .i64 bad) := X2.cell 3
  have zz : w.heap.size + 1 < w1.heap.size := X2.lt
  have zy : w.heap.size < w1.heap.size := X1.lt
  have B1 := bt (ba (ba (Below.refl w.heap.size w) (.cells #[.string S, .slice p n d] 25)) (.cells #[.int .u32 mg, .int .i64 K0, .slice as_ ns ds, .int .i64 bad] 28)) hb1
  have S1 := Lib.hid (And.intro B1 (And.intro X1 X2))
  clear hb1 X1 X2 B1
  go_wp2_with fail
  refine (KP.out.1 _ S1.out.1).mono ?_
  rintro e w2 ⟨u2, rfl, hb2, v2, rfl, hu2⟩
  obtain ⟨xa, xc, rfl, hu2⟩ := hu2
  have S2 := Lib.hid (And.intro (bt S1.out.1 hb2) (And.intro (S1.out.2.1.calls hb2) (And.intro (S1.out.2.2.calls hb2) hu2.1)))
  clear m1 m2 s0 s1 s2 s3 zz zy
  clear hb2 hu2
  have m1 : w2.cell? ⟨w.heap.size, 0, none⟩ = some (.string S) := S2.out.2.1.cell 0
  have m2 : w2.cell? ⟨w.heap.size, 1, none⟩ = some (.slice p n d) := S2.out.2.1.cell 1
  have s0 : w2.cell? ⟨w.heap.size + 1, 0, none⟩ = some (.int .u32 mg) := S2.out.2.2.1.cell 0
  have s1 : w2.cell? ⟨w.heap.size + 1, 1, none⟩ = some (.int .i64 K0) := S2.out.2.2.1.cell 1
  have s2 : w2.cell? ⟨w.heap.size + 1, 2, none⟩ = some (.slice as_ ns ds) := S2.out.2.2.1.cell 2
  have s3 : w2.cell? ⟨w.heap.size + 1, 3, none⟩ = some (.int .i64 bad) := S2.out.2.2.1.cell 3
  have zz : w.heap.size + 1 < w2.heap.size := S2.out.2.2.1.lt
  have zy : w.heap.size < w2.heap.size := S2.out.2.1.lt
  go_wp2_with fail
  refine (KP.out.2 _ S2.out.1).mono ?_
  rintro e w3 ⟨v3, rfl, hb3, hu3⟩
  obtain ⟨ya, yc, rfl, hu3⟩ := hu3
  have S3 := Lib.hid (And.intro (bt S2.out.1 hb3) (And.intro (S2.out.2.1.calls hb3) (And.intro (S2.out.2.2.1.calls hb3) (And.intro (S2.out.2.2.2.calls hb3) hu3.1))))
  clear m1 m2 s0 s1 s2 s3 zz zy
  clear hb3 hu3
  have m1 : w3.cell? ⟨w.heap.size, 0, none⟩ = some (.string S) := S3.out.2.1.cell 0
  have m2 : w3.cell? ⟨w.heap.size, 1, none⟩ = some (.slice p n d) := S3.out.2.1.cell 1
  have s0 : w3.cell? ⟨w.heap.size + 1, 0, none⟩ = some (.int .u32 mg) := S3.out.2.2.1.cell 0
  have s1 : w3.cell? ⟨w.heap.size + 1, 1, none⟩ = some (.int .i64 K0) := S3.out.2.2.1.cell 1
  have s2 : w3.cell? ⟨w.heap.size + 1, 2, none⟩ = some (.slice as_ ns ds) := S3.out.2.2.1.cell 2
  have s3 : w3.cell? ⟨w.heap.size + 1, 3, none⟩ = some (.int .i64 bad) := S3.out.2.2.1.cell 3
  have zz : w.heap.size + 1 < w3.heap.size := S3.out.2.2.1.lt
  have zy : w.heap.size < w3.heap.size := S3.out.2.1.lt
  go_wp2_with fail
  refine (KG.out.1 _ S3.out.1).mono ?_
  rintro e w4 ⟨v4, rfl, hb4, hv4⟩
  obtain ⟨pa4, pc4, rfl, hc4⟩ := hv4.parts
  rw [KG.out.2.2]
  rw [KG.out.2.2] at hc4
  clear hv4
  simp only at hc4 ⊢
  have hc4' := hc4
  rw [KX.out.1]
  have S4 := Lib.hid (And.intro (ba (bt S3.out.1 hb4) (.cells #[.string GS, .slice pa4 gp.length pc4] 32)) (And.intro ((S3.out.2.1.calls hb4).alloc (.cells #[.string GS, .slice pa4 gp.length pc4] 32)) (And.intro ((S3.out.2.2.1.calls hb4).alloc (.cells #[.string GS, .slice pa4 gp.length pc4] 32)) (And.intro ((S3.out.2.2.2.1.calls hb4).calls (ba (Below.refl _ _) (.cells #[.string GS, .slice pa4 gp.length pc4] 32))) (And.intro ((S3.out.2.2.2.2.calls hb4).calls (ba (Below.refl _ _) (.cells #[.string GS, .slice pa4 gp.length pc4] 32))) (And.intro (show Blk (w4.alloc (.cells #[.string GS, .slice pa4 gp.length pc4] 32)) w4.heap.size 32 #[.string GS, .slice pa4 gp.length pc4] from Blk.new _ _ _) (hc4.keep (ba (Below.refl _ _) (.cells #[.string GS, .slice pa4 gp.length pc4] 32)))))))))
  clear m1 m2 s0 s1 s2 s3 zz zy
  clear hb4 hc4 hc4'
  have m1 : (w4.alloc (.cells #[.string GS, .slice pa4 gp.length pc4] 32)).cell? ⟨w.heap.size, 0, none⟩ = some (.string S) := S4.out.2.1.cell 0
  have m2 : (w4.alloc (.cells #[.string GS, .slice pa4 gp.length pc4] 32)).cell? ⟨w.heap.size, 1, none⟩ = some (.slice p n d) := S4.out.2.1.cell 1
  have s0 : (w4.alloc (.cells #[.string GS, .slice pa4 gp.length pc4] 32)).cell? ⟨w.heap.size + 1, 0, none⟩ = some (.int .u32 mg) := S4.out.2.2.1.cell 0
  have s1 : (w4.alloc (.cells #[.string GS, .slice pa4 gp.length pc4] 32)).cell? ⟨w.heap.size + 1, 1, none⟩ = some (.int .i64 K0) := S4.out.2.2.1.cell 1
  have s2 : (w4.alloc (.cells #[.string GS, .slice pa4 gp.length pc4] 32)).cell? ⟨w.heap.size + 1, 2, none⟩ = some (.slice as_ ns ds) := S4.out.2.2.1.cell 2
  have s3 : (w4.alloc (.cells #[.string GS, .slice pa4 gp.length pc4] 32)).cell? ⟨w.heap.size + 1, 3, none⟩ = some (.int .i64 bad) := S4.out.2.2.1.cell 3
  have zz : w.heap.size + 1 < (w4.alloc (.cells #[.string GS, .slice pa4 gp.length pc4] 32)).heap.size := S4.out.2.2.1.lt
  have zy : w.heap.size < (w4.alloc (.cells #[.string GS, .slice pa4 gp.length pc4] 32)).heap.size := S4.out.2.1.lt
  go_wp2_with fail
  refine (KG.out.2.1 _ S4.out.1).mono ?_
  rintro e w5 ⟨v5, rfl, hb5, hv5⟩
  obtain ⟨pa5, pc5, rfl, hc5⟩ := hv5.parts
  rw [KG.out.2.2]
  rw [KG.out.2.2] at hc5
  clear hv5
  simp only at hc5 ⊢
  rw [KX.out.1]
  have S5 := Lib.hid (And.intro (ba (bt S4.out.1 hb5) (.cells #[.string GS, .slice pa5 gp.length pc5] 25)) (And.intro ((S4.out.2.1.calls hb5).alloc (.cells #[.string GS, .slice pa5 gp.length pc5] 25)) (And.intro ((S4.out.2.2.1.calls hb5).alloc (.cells #[.string GS, .slice pa5 gp.length pc5] 25)) (And.intro ((S4.out.2.2.2.1.calls hb5).calls (ba (Below.refl _ _) (.cells #[.string GS, .slice pa5 gp.length pc5] 25))) (And.intro ((S4.out.2.2.2.2.1.calls hb5).calls (ba (Below.refl _ _) (.cells #[.string GS, .slice pa5 gp.length pc5] 25))) (And.intro ((S4.out.2.2.2.2.2.1.calls hb5).alloc (.cells #[.string GS, .slice pa5 gp.length pc5] 25)) (And.intro ((S4.out.2.2.2.2.2.2.keep hb5).keep (ba (Below.refl _ _) (.cells #[.string GS, .slice pa5 gp.length pc5] 25))) (And.intro (show Blk (w5.alloc (.cells #[.string GS, .slice pa5 gp.length pc5] 25)) w5.heap.size 25 #[.string GS, .slice pa5 gp.length pc5] from Blk.new _ _ _) (hc5.keep (ba (Below.refl _ _) (.cells #[.string GS, .slice pa5 gp.length pc5] 25)))))))))))
  clear m1 m2 s0 s1 s2 s3 zz zy
  clear hb5 hc5
  have m1 : (w5.alloc (.cells #[.string GS, .slice pa5 gp.length pc5] 25)).cell? ⟨w.heap.size, 0, none⟩ = some (.string S) := S5.out.2.1.cell 0
  have m2 : (w5.alloc (.cells #[.string GS, .slice pa5 gp.length pc5] 25)).cell? ⟨w.heap.size, 1, none⟩ = some (.slice p n d) := S5.out.2.1.cell 1
  have s0 : (w5.alloc (.cells #[.string GS, .slice pa5 gp.length pc5] 25)).cell? ⟨w.heap.size + 1, 0, none⟩ = some (.int .u32 mg) := S5.out.2.2.1.cell 0
  have s1 : (w5.alloc (.cells #[.string GS, .slice pa5 gp.length pc5] 25)).cell? ⟨w.heap.size + 1, 1, none⟩ = some (.int .i64 K0) := S5.out.2.2.1.cell 1
  have s2 : (w5.alloc (.cells #[.string GS, .slice pa5 gp.length pc5] 25)).cell? ⟨w.heap.size + 1, 2, none⟩ = some (.slice as_ ns ds) := S5.out.2.2.1.cell 2
  have s3 : (w5.alloc (.cells #[.string GS, .slice pa5 gp.length pc5] 25)).cell? ⟨w.heap.size + 1, 3, none⟩ = some (.int .i64 bad) := S5.out.2.2.1.cell 3
  have zz : w.heap.size + 1 < (w5.alloc (.cells #[.string GS, .slice pa5 gp.length pc5] 25)).heap.size := S5.out.2.2.1.lt
  have zy : w.heap.size < (w5.alloc (.cells #[.string GS, .slice pa5 gp.length pc5] 25)).heap.size := S5.out.2.1.lt
  go_wp2_with fail
  refine (KF.out.1 _).mono ?_
  rintro e w6 ⟨rfl, hb6⟩
  have S6 := Lib.hid (And.intro (bt S5.out.1 hb6) (And.intro (S5.out.2.1.calls hb6) (And.intro (S5.out.2.2.1.calls hb6) (And.intro (S5.out.2.2.2.1.calls hb6) (And.intro (S5.out.2.2.2.2.1.calls hb6) (And.intro (S5.out.2.2.2.2.2.1.calls hb6) (And.intro (S5.out.2.2.2.2.2.2.1.keep hb6) (And.intro (S5.out.2.2.2.2.2.2.2.1.calls hb6) (S5.out.2.2.2.2.2.2.2.2.keep hb6)))))))))
  clear m1 m2 s0 s1 s2 s3 zz zy
  clear hb6
  have m1 : w6.cell? ⟨w.heap.size, 0, none⟩ = some (.string S) := S6.out.2.1.cell 0
  have m2 : w6.cell? ⟨w.heap.size, 1, none⟩ = some (.slice p n d) := S6.out.2.1.cell 1
  have s0 : w6.cell? ⟨w.heap.size + 1, 0, none⟩ = some (.int .u32 mg) := S6.out.2.2.1.cell 0
  have s1 : w6.cell? ⟨w.heap.size + 1, 1, none⟩ = some (.int .i64 K0) := S6.out.2.2.1.cell 1
  have s2 : w6.cell? ⟨w.heap.size + 1, 2, none⟩ = some (.slice as_ ns ds) := S6.out.2.2.1.cell 2
  have s3 : w6.cell? ⟨w.heap.size + 1, 3, none⟩ = some (.int .i64 bad) := S6.out.2.2.1.cell 3
  have zz : w.heap.size + 1 < w6.heap.size := S6.out.2.2.1.lt
  have zy : w.heap.size < w6.heap.size := S6.out.2.1.lt
  go_wp2_with fail
  refine (KF.out.2.1 _ S6.out.1).mono ?_
  rintro e w7 ⟨v7, rfl, hb7, hv7⟩
  obtain ⟨u7, vl7, b7, rfl, hu7, hm7, -, -⟩ := hv7
  obtain ⟨oa, oc, rfl, hu7⟩ := hu7
  unfold bufI
  rw [KF.out.2.2.2] at hu7 hm7 ⊢
  simp only at hu7 hm7 ⊢
  have S7 := Lib.hid (And.intro (ba (bt S6.out.1 hb7) (.cells #[.int .u32 mg, .int .i64 (K : Nat), .slice oa lr.length oc, .int .i64 fd] 38)) (And.intro ((S6.out.2.1.calls hb7).alloc (.cells #[.int .u32 mg, .int .i64 (K : Nat), .slice oa lr.length oc, .int .i64 fd] 38)) (And.intro ((S6.out.2.2.1.calls hb7).alloc (.cells #[.int .u32 mg, .int .i64 (K : Nat), .slice oa lr.length oc, .int .i64 fd] 38)) (And.intro ((S6.out.2.2.2.1.calls hb7).calls (ba (Below.refl _ _) (.cells #[.int .u32 mg, .int .i64 (K : Nat), .slice oa lr.length oc, .int .i64 fd] 38))) (And.intro ((S6.out.2.2.2.2.1.calls hb7).calls (ba (Below.refl _ _) (.cells #[.int .u32 mg, .int .i64 (K : Nat), .slice oa lr.length oc, .int .i64 fd] 38))) (And.intro ((S6.out.2.2.2.2.2.1.calls hb7).alloc (.cells #[.int .u32 mg, .int .i64 (K : Nat), .slice oa lr.length oc, .int .i64 fd] 38)) (And.intro ((S6.out.2.2.2.2.2.2.1.keep hb7).keep (ba (Below.refl _ _) (.cells #[.int .u32 mg, .int .i64 (K : Nat), .slice oa lr.length oc, .int .i64 fd] 38))) (And.intro ((S6.out.2.2.2.2.2.2.2.1.calls hb7).alloc (.cells #[.int .u32 mg, .int .i64 (K : Nat), .slice oa lr.length oc, .int .i64 fd] 38)) (And.intro ((S6.out.2.2.2.2.2.2.2.2.keep hb7).keep (ba (Below.refl _ _) (.cells #[.int .u32 mg, .int .i64 (K : Nat), .slice oa lr.length oc, .int .i64 fd] 38))) (And.intro (show Blk (w7.alloc (.cells #[.int .u32 mg, .int .i64 (K : Nat), .slice oa lr.length oc, .int .i64 fd] 38)) w7.heap.size 38 #[.int .u32 mg, .int .i64 (K : Nat), .slice oa lr.length oc, .int .i64 fd] from Blk.new _ _ _) (And.intro (hu7.1.calls (ba (Below.refl _ _) (.cells #[.int .u32 mg, .int .i64 (K : Nat), .slice oa lr.length oc, .int .i64 fd] 38))) (hm7.slm.calls (ba (Below.refl _ _) (.cells #[.int .u32 mg, .int .i64 (K : Nat), .slice oa lr.length oc, .int .i64 fd] 38))))))))))))))
  clear m1 m2 s0 s1 s2 s3 zz zy
  clear hb7 hu7 hm7
  have m1 : (w7.alloc (.cells #[.int .u32 mg, .int .i64 (K : Nat), .slice oa lr.length oc, .int .i64 fd] 38)).cell? ⟨w.heap.size, 0, none⟩ = some (.string S) := S7.out.2.1.cell 0
  have m2 : (w7.alloc (.cells #[.int .u32 mg, .int .i64 (K : Nat), .slice oa lr.length oc, .int .i64 fd] 38)).cell? ⟨w.heap.size, 1, none⟩ = some (.slice p n d) := S7.out.2.1.cell 1
  have s0 : (w7.alloc (.cells #[.int .u32 mg, .int .i64 (K : Nat), .slice oa lr.length oc, .int .i64 fd] 38)).cell? ⟨w.heap.size + 1, 0, none⟩ = some (.int .u32 mg) := S7.out.2.2.1.cell 0
  have s1 : (w7.alloc (.cells #[.int .u32 mg, .int .i64 (K : Nat), .slice oa lr.length oc, .int .i64 fd] 38)).cell? ⟨w.heap.size + 1, 1, none⟩ = some (.int .i64 K0) := S7.out.2.2.1.cell 1
  have s2 : (w7.alloc (.cells #[.int .u32 mg, .int .i64 (K : Nat), .slice oa lr.length oc, .int .i64 fd] 38)).cell? ⟨w.heap.size + 1, 2, none⟩ = some (.slice as_ ns ds) := S7.out.2.2.1.cell 2
  have s3 : (w7.alloc (.cells #[.int .u32 mg, .int .i64 (K : Nat), .slice oa lr.length oc, .int .i64 fd] 38)).cell? ⟨w.heap.size + 1, 3, none⟩ = some (.int .i64 bad) := S7.out.2.2.1.cell 3
  have zz : w.heap.size + 1 < (w7.alloc (.cells #[.int .u32 mg, .int .i64 (K : Nat), .slice oa lr.length oc, .int .i64 fd] 38)).heap.size := S7.out.2.2.1.lt
  have zy : w.heap.size < (w7.alloc (.cells #[.int .u32 mg, .int .i64 (K : Nat), .slice oa lr.length oc, .int .i64 fd] 38)).heap.size := S7.out.2.1.lt
  go_wp2_with fail
  refine (KF.out.2.2.1 _ S7.out.1).mono ?_
  rintro e w8 ⟨v8, rfl, hb8, hv8⟩
  obtain ⟨u8, vl8, rfl, hu8, hm8⟩ := hv8
  obtain ⟨qa, qc, rfl, hu8⟩ := hu8
  unfold bufI
  rw [KF.out.2.2.2] at hu8 hm8 ⊢
  simp only at hu8 hm8 ⊢
  have S8 := Lib.hid (And.intro (ba (bt S7.out.1 hb8) (.cells #[.int .u32 mg, .int .i64 (K : Nat), .slice qa lr.length qc, .int .i64 fd] 28)) (And.intro ((S7.out.2.1.calls hb8).alloc (.cells #[.int .u32 mg, .int .i64 (K : Nat), .slice qa lr.length qc, .int .i64 fd] 28)) (And.intro ((S7.out.2.2.1.calls hb8).alloc (.cells #[.int .u32 mg, .int .i64 (K : Nat), .slice qa lr.length qc, .int .i64 fd] 28)) (And.intro ((S7.out.2.2.2.1.calls hb8).calls (ba (Below.refl _ _) (.cells #[.int .u32 mg, .int .i64 (K : Nat), .slice qa lr.length qc, .int .i64 fd] 28))) (And.intro ((S7.out.2.2.2.2.1.calls hb8).calls (ba (Below.refl _ _) (.cells #[.int .u32 mg, .int .i64 (K : Nat), .slice qa lr.length qc, .int .i64 fd] 28))) (And.intro ((S7.out.2.2.2.2.2.1.calls hb8).alloc (.cells #[.int .u32 mg, .int .i64 (K : Nat), .slice qa lr.length qc, .int .i64 fd] 28)) (And.intro ((S7.out.2.2.2.2.2.2.1.keep hb8).keep (ba (Below.refl _ _) (.cells #[.int .u32 mg, .int .i64 (K : Nat), .slice qa lr.length qc, .int .i64 fd] 28))) (And.intro ((S7.out.2.2.2.2.2.2.2.1.calls hb8).alloc (.cells #[.int .u32 mg, .int .i64 (K : Nat), .slice qa lr.length qc, .int .i64 fd] 28)) (And.intro ((S7.out.2.2.2.2.2.2.2.2.1.keep hb8).keep (ba (Below.refl _ _) (.cells #[.int .u32 mg, .int .i64 (K : Nat), .slice qa lr.length qc, .int .i64 fd] 28))) (And.intro ((S7.out.2.2.2.2.2.2.2.2.2.1.calls hb8).alloc (.cells #[.int .u32 mg, .int .i64 (K : Nat), .slice qa lr.length qc, .int .i64 fd] 28)) (And.intro ((S7.out.2.2.2.2.2.2.2.2.2.2.1.calls hb8).calls (ba (Below.refl _ _) (.cells #[.int .u32 mg, .int .i64 (K : Nat), .slice qa lr.length qc, .int .i64 fd] 28))) (And.intro ((S7.out.2.2.2.2.2.2.2.2.2.2.2.calls hb8).calls (ba (Below.refl _ _) (.cells #[.int .u32 mg, .int .i64 (K : Nat), .slice qa lr.length qc, .int .i64 fd] 28))) (And.intro (show Blk (w8.alloc (.cells #[.int .u32 mg, .int .i64 (K : Nat), .slice qa lr.length qc, .int .i64 fd] 28)) w8.heap.size 28 #[.int .u32 mg, .int .i64 (K : Nat), .slice qa lr.length qc, .int .i64 fd] from Blk.new _ _ _) (And.intro (hu8.1.calls (ba (Below.refl _ _) (.cells #[.int .u32 mg, .int .i64 (K : Nat), .slice qa lr.length qc, .int .i64 fd] 28))) (hm8.calls (ba (Below.refl _ _) (.cells #[.int .u32 mg, .int .i64 (K : Nat), .slice qa lr.length qc, .int .i64 fd] 28)))))))))))))))))
  clear m1 m2 s0 s1 s2 s3 zz zy
  clear hb8 hu8 hm8
  have kx : ∀ w', Below (w8.alloc (.cells #[.int .u32 mg, .int .i64 (K : Nat), .slice qa lr.length qc, .int .i64 fd] 28)).heap.size (w8.alloc (.cells #[.int .u32 mg, .int .i64 (K : Nat), .slice qa lr.length qc, .int .i64 fd] 28)) w' → (convert 23 9 (.slice xa PL.length xc)).run Tryd.prog w' = .ok (.string XS) w' := fun w' h => by rw [KX.out.2.1]; exact str_of (S8.out.2.2.2.1.calls h) rfl
  have ky : ∀ w', Below (w8.alloc (.cells #[.int .u32 mg, .int .i64 (K : Nat), .slice qa lr.length qc, .int .i64 fd] 28)).heap.size (w8.alloc (.cells #[.int .u32 mg, .int .i64 (K : Nat), .slice qa lr.length qc, .int .i64 fd] 28)) w' → (convert 23 9 (.slice ya PL.length yc)).run Tryd.prog w' = .ok (.string XS) w' := fun w' h => by rw [KX.out.2.1]; exact str_of (S8.out.2.2.2.2.1.calls h) rfl
  have kp1 : ∀ w', Below (w8.alloc (.cells #[.int .u32 mg, .int .i64 (K : Nat), .slice qa lr.length qc, .int .i64 fd] 28)).heap.size (w8.alloc (.cells #[.int .u32 mg, .int .i64 (K : Nat), .slice qa lr.length qc, .int .i64 fd] 28)) w' → (convert 23 9 (.slice pa4 gp.length pc4)).run Tryd.prog w' = .ok (.string GP) w' := fun w' h => by rw [KX.out.2.2]; exact str_of ((S8.out.2.2.2.2.2.2.1.keep h).rds) rfl
  have kp2 : ∀ w', Below (w8.alloc (.cells #[.int .u32 mg, .int .i64 (K : Nat), .slice qa lr.length qc, .int .i64 fd] 28)).heap.size (w8.alloc (.cells #[.int .u32 mg, .int .i64 (K : Nat), .slice qa lr.length qc, .int .i64 fd] 28)) w' → (convert 23 9 (.slice pa5 gp.length pc5)).run Tryd.prog w' = .ok (.string GP) w' := fun w' h => by rw [KX.out.2.2]; exact str_of ((S8.out.2.2.2.2.2.2.2.2.1.keep h).rds) rfl
  have ks : ∀ w', Below (w8.alloc (.cells #[.int .u32 mg, .int .i64 (K : Nat), .slice qa lr.length qc, .int .i64 fd] 28)).heap.size (w8.alloc (.cells #[.int .u32 mg, .int .i64 (K : Nat), .slice qa lr.length qc, .int .i64 fd] 28)) w' → Calls Tryd.prog 12 #[.agg #[.int .u32 mg, .int .i64 (K : Nat), .slice oa lr.length oc, .int .i64 fd], .agg #[.int .u32 mg, .int .i64 (K : Nat), .slice qa lr.length qc, .int .i64 fd]] w' fun e w'' => e = .returned (.bool true) ∧ Below w'.heap.size w' w'' := fun w' h => Same_true mg K fd lr lr.length rfl oa oc qa qc w' (S8.out.2.2.2.2.2.2.2.2.2.2.1.calls h) (S8.out.2.2.2.2.2.2.2.2.2.2.2.2.2.1.calls h)
  have km : ∀ w', Below (w8.alloc (.cells #[.int .u32 mg, .int .i64 (K : Nat), .slice qa lr.length qc, .int .i64 fd] 28)).heap.size (w8.alloc (.cells #[.int .u32 mg, .int .i64 (K : Nat), .slice qa lr.length qc, .int .i64 fd] 28)) w' → Calls Tryd.prog 15 #[vl7] w' fun e w'' => ∃ u, e = .returned u ∧ Below w'.heap.size w' w'' ∧ SlM T u w'' := fun w' h => msgs_ex T vl7 (by omega) w' (S8.out.2.2.2.2.2.2.2.2.2.2.2.1.calls h)
  have km4 : ∀ w', Below (w8.alloc (.cells #[.int .u32 mg, .int .i64 (K : Nat), .slice qa lr.length qc, .int .i64 fd] 28)).heap.size (w8.alloc (.cells #[.int .u32 mg, .int .i64 (K : Nat), .slice qa lr.length qc, .int .i64 fd] 28)) w' → SlM T vl8 w' := fun w' h => S8.out.2.2.2.2.2.2.2.2.2.2.2.2.2.2.calls h
  have KW := Lib.hid (And.intro kx (And.intro ky (And.intro kp1 (And.intro kp2 (And.intro ks (And.intro km km4)))))); clear kx ky kp1 kp2 ks km km4
  have BG1 := S8.out.2.2.2.2.2.1
  have BG2 := S8.out.2.2.2.2.2.2.2.1
  have BG3 := S8.out.2.2.2.2.2.2.2.2.2.1
  have BG4 := S8.out.2.2.2.2.2.2.2.2.2.2.2.2.1
  have BX1 := S8.out.2.1
  have BX2 := S8.out.2.2.1
  have BBB := S8.out.1
  have KB := Lib.hid (And.intro BG1 (And.intro BG2 (And.intro BG3 (And.intro BG4 (And.intro BX1 (And.intro BX2 BBB)))))); clear BG1 BG2 BG3 BG4 BX1 BX2 BBB
  clear S1 S2 S3 S4 S5 S6 S7 S8
  have iF : (Tryd.prog.info? 38).map (·.size) = some 4 := by kernel_rfl
  have iR : (Tryd.prog.info? 28).map (·.size) = some 4 := by kernel_rfl
  go_wp2_with fail
  refine wp_region_g [some 101, some 102, some 103, some 104, some 105, some 106, some 107, some 108, some 109, some 110, some 111, some 112, some 113, some 114, some 115, some 116, some 117, some 118, some 119, some 120, some 121, some 122, some 123, some 124, some 125, some 126, some 127, some 128, some 129, some 130, some 131, some 132, some 133, some 134, some 135, some 136, some 137, some 138, some 139, some 140, some 141, some 142, some 143, some 144, some 145, some 146, some 147, some 148, some 149, some 150] (FL [
      EqV (.slice xa PL.length xc),
      EqV (.string XS),
      EqV (.slice ya PL.length yc),
      EqV (.string XS),
      EqV (.bool false),
      EqV (.bool false),
      EqV (.int .i64 (E : Nat)),
      EqV (.int .i64 (E : Nat)),
      EqV (.bool false),
      EqV (.bool false),
      EqV (.bool false),
      EqV (.pointer (some ⟨w4.heap.size, 0, none⟩)),
      EqV (.string GS),
      EqV (.pointer (some ⟨w5.heap.size, 0, none⟩)),
      EqV (.string GS),
      EqV (.bool false),
      EqV (.bool false),
      EqV (.bool false),
      EqV (.pointer (some ⟨w4.heap.size, 1, none⟩)),
      EqV (.slice pa4 gp.length pc4),
      EqV (.string GP),
      EqV (.pointer (some ⟨w5.heap.size, 1, none⟩)),
      EqV (.slice pa5 gp.length pc5),
      EqV (.string GP),
      EqV (.bool false),
      EqV (.bool false),
      EqV (.bool false),
      EqV (.int .i64 (gn : Nat)),
      EqV (.int .i64 (gn : Nat)),
      EqV (.bool false),
      EqV (.bool false),
      EqV (.bool false),
      EqV (.int .i64 (ge : Nat)),
      EqV (.int .i64 (ge : Nat)),
      EqV (.bool false),
      EqV (.bool false),
      EqV (.bool false),
      EqV (.agg #[.int .u32 mg, .int .i64 (K : Nat), .slice oa lr.length oc, .int .i64 fd]),
      EqV (.agg #[.int .u32 mg, .int .i64 (K : Nat), .slice oa lr.length oc, .int .i64 fd]),
      EqV (.agg #[.int .u32 mg, .int .i64 (K : Nat), .slice qa lr.length qc, .int .i64 fd]),
      EqV (.bool true),
      EqV (.bool false),
      EqV (.bool false),
      EqV (.bool false),
      EqV (vl7),
      (SlM T),
      EqV (vl8),
      EqV (.bool true),
      EqV (.bool false),
      EqV (.bool false)
    ]) (FL_keeps ⟨keeps_eq _, keeps_eq _, keeps_eq _, keeps_eq _, keeps_eq _, keeps_eq _, keeps_eq _, keeps_eq _, keeps_eq _, keeps_eq _, keeps_eq _, keeps_eq _, keeps_eq _, keeps_eq _, keeps_eq _, keeps_eq _, keeps_eq _, keeps_eq _, keeps_eq _, keeps_eq _, keeps_eq _, keeps_eq _, keeps_eq _, keeps_eq _, keeps_eq _, keeps_eq _, keeps_eq _, keeps_eq _, keeps_eq _, keeps_eq _, keeps_eq _, keeps_eq _, keeps_eq _, keeps_eq _, keeps_eq _, keeps_eq _, keeps_eq _, keeps_eq _, keeps_eq _, keeps_eq _, keeps_eq _, keeps_eq _, keeps_eq _, keeps_eq _, keeps_eq _, Keeps_slm T, keeps_eq _, keeps_eq _, keeps_eq _, keeps_eq _, trivial⟩) (by kernel_rfl) rfl rfl rfl rfl ⟨
    .inr ⟨gk0 rfl, fun A w' γ hb hF hs => g_eq (op_move (.tmp 14) (.inl rfl) ((hs.2 14 rfl).trans rfl))⟩,
    .inr ⟨gk0 rfl, fun A w' γ hb hF hs => g_eq (op_conv 23 9 (.tmp 101) rfl ((hs.1 0 rfl 101 rfl).trans (hF 0 rfl)) (KW.out.1 w' hb))⟩,
    .inr ⟨gk0 rfl, fun A w' γ hb hF hs => g_eq (op_move (.tmp 16) (.inl rfl) ((hs.2 16 rfl).trans rfl))⟩,
    .inr ⟨gk0 rfl, fun A w' γ hb hF hs => g_eq (op_conv 23 9 (.tmp 103) rfl ((hs.1 2 rfl 103 rfl).trans (hF 2 rfl)) (KW.out.2.1 w' hb))⟩,
    .inr ⟨gk0 rfl, fun A w' γ hb hF hs => g_eq (op_nes 9 _ (.tmp 102) (.tmp 104) (XS) (XS) false rfl ((hs.1 1 rfl 102 rfl).trans (hF 1 rfl)) ((hs.1 3 rfl 104 rfl).trans (hF 3 rfl)) (by simp))⟩,
    .inr ⟨gk0 rfl, fun A w' γ hb hF hs => g_eq (op_move (.tmp 105) (.inl rfl) ((hs.1 4 rfl 105 rfl).trans (hF 4 rfl)))⟩,
    .inr ⟨gkT 5 false rfl rfl 106 rfl (fun _ _ h => h), fun A w' γ hb hF hs => g_eq (op_move (.tmp 15) (.inl rfl) ((hs.2 15 rfl).trans rfl))⟩,
    .inr ⟨gkT 5 false rfl rfl 106 rfl (fun _ _ h => h), fun A w' γ hb hF hs => g_eq (op_move (.tmp 17) (.inl rfl) ((hs.2 17 rfl).trans rfl))⟩,
    .inr ⟨gkT 5 false rfl rfl 106 rfl (fun _ _ h => h), fun A w' γ hb hF hs => g_eq (op_neq_int 26 _ (.tmp 107) (.tmp 108) .i64 ((E : Nat)) ((E : Nat)) false rfl ((hs.1 6 rfl 107 rfl).trans (hF 6 rfl)) ((hs.1 7 rfl 108 rfl).trans (hF 7 rfl)) (by simp))⟩,
    .inr ⟨gk0 rfl, fun A w' γ hb hF hs => g_eq (op_pick (.tmp 106) (.const (.bool true)) (.tmp 109) false rfl ((hs.1 5 rfl 106 rfl).trans (hF 5 rfl)) ((hs.1 8 rfl 109 rfl).trans (hF 8 rfl)))⟩,
    .inr ⟨gk0 rfl, fun A w' γ hb hF hs => g_eq (op_move (.tmp 110) (.inl rfl) ((hs.1 9 rfl 110 rfl).trans (hF 9 rfl)))⟩,
    .inr ⟨gkT 10 false rfl rfl 111 rfl (fun _ _ h => h), fun A w' γ hb hF hs => g_eq (op_fld 32 (.tmp 18) 0 0 rfl (w4.heap.size) ((hs.2 18 rfl).trans rfl) fun _ _ => by kernel_rfl)⟩,
    .inr ⟨gkT 10 false rfl rfl 111 rfl (fun _ _ h => h), fun A w' γ hb hF hs => g_eq (op_cel 9 (.tmp 112) rfl _ ((hs.1 11 rfl 112 rfl).trans (hF 11 rfl)) _ (((KB.out.1.below hb KB.out.1.lt).cell 0)) _ Tryd.underlying9 rfl)⟩,
    .inr ⟨gkT 10 false rfl rfl 111 rfl (fun _ _ h => h), fun A w' γ hb hF hs => g_eq (op_fld 25 (.tmp 21) 0 0 rfl (w5.heap.size) ((hs.2 21 rfl).trans rfl) fun _ _ => by kernel_rfl)⟩,
    .inr ⟨gkT 10 false rfl rfl 111 rfl (fun _ _ h => h), fun A w' γ hb hF hs => g_eq (op_cel 9 (.tmp 114) rfl _ ((hs.1 13 rfl 114 rfl).trans (hF 13 rfl)) _ (((KB.out.2.1.below hb KB.out.2.1.lt).cell 0)) _ Tryd.underlying9 rfl)⟩,
    .inr ⟨gkT 10 false rfl rfl 111 rfl (fun _ _ h => h), fun A w' γ hb hF hs => g_eq (op_nes 9 _ (.tmp 113) (.tmp 115) (GS) (GS) false rfl ((hs.1 12 rfl 113 rfl).trans (hF 12 rfl)) ((hs.1 14 rfl 115 rfl).trans (hF 14 rfl)) (by simp))⟩,
    .inr ⟨gk0 rfl, fun A w' γ hb hF hs => g_eq (op_pick (.tmp 111) (.const (.bool true)) (.tmp 116) false rfl ((hs.1 10 rfl 111 rfl).trans (hF 10 rfl)) ((hs.1 15 rfl 116 rfl).trans (hF 15 rfl)))⟩,
    .inr ⟨gk0 rfl, fun A w' γ hb hF hs => g_eq (op_move (.tmp 117) (.inl rfl) ((hs.1 16 rfl 117 rfl).trans (hF 16 rfl)))⟩,
    .inr ⟨gkT 17 false rfl rfl 118 rfl (fun _ _ h => h), fun A w' γ hb hF hs => g_eq (op_fld 32 (.tmp 18) 1 1 rfl (w4.heap.size) ((hs.2 18 rfl).trans rfl) fun _ _ => by kernel_rfl)⟩,
    .inr ⟨gkT 17 false rfl rfl 118 rfl (fun _ _ h => h), fun A w' γ hb hF hs => g_eq (op_cel 23 (.tmp 119) rfl _ ((hs.1 18 rfl 119 rfl).trans (hF 18 rfl)) _ (((KB.out.1.below hb KB.out.1.lt).cell 1)) _ Tryd.underlying23 rfl)⟩,
    .inr ⟨gkT 17 false rfl rfl 118 rfl (fun _ _ h => h), fun A w' γ hb hF hs => g_eq (op_conv 23 9 (.tmp 120) rfl ((hs.1 19 rfl 120 rfl).trans (hF 19 rfl)) (KW.out.2.2.1 w' hb))⟩,
    .inr ⟨gkT 17 false rfl rfl 118 rfl (fun _ _ h => h), fun A w' γ hb hF hs => g_eq (op_fld 25 (.tmp 21) 1 1 rfl (w5.heap.size) ((hs.2 21 rfl).trans rfl) fun _ _ => by kernel_rfl)⟩,
    .inr ⟨gkT 17 false rfl rfl 118 rfl (fun _ _ h => h), fun A w' γ hb hF hs => g_eq (op_cel 23 (.tmp 122) rfl _ ((hs.1 21 rfl 122 rfl).trans (hF 21 rfl)) _ (((KB.out.2.1.below hb KB.out.2.1.lt).cell 1)) _ Tryd.underlying23 rfl)⟩,
    .inr ⟨gkT 17 false rfl rfl 118 rfl (fun _ _ h => h), fun A w' γ hb hF hs => g_eq (op_conv 23 9 (.tmp 123) rfl ((hs.1 22 rfl 123 rfl).trans (hF 22 rfl)) (KW.out.2.2.2.1 w' hb))⟩,
    .inr ⟨gkT 17 false rfl rfl 118 rfl (fun _ _ h => h), fun A w' γ hb hF hs => g_eq (op_nes 9 _ (.tmp 121) (.tmp 124) (GP) (GP) false rfl ((hs.1 20 rfl 121 rfl).trans (hF 20 rfl)) ((hs.1 23 rfl 124 rfl).trans (hF 23 rfl)) (by simp))⟩,
    .inr ⟨gk0 rfl, fun A w' γ hb hF hs => g_eq (op_pick (.tmp 118) (.const (.bool true)) (.tmp 125) false rfl ((hs.1 17 rfl 118 rfl).trans (hF 17 rfl)) ((hs.1 24 rfl 125 rfl).trans (hF 24 rfl)))⟩,
    .inr ⟨gk0 rfl, fun A w' γ hb hF hs => g_eq (op_move (.tmp 126) (.inl rfl) ((hs.1 25 rfl 126 rfl).trans (hF 25 rfl)))⟩,
    .inr ⟨gkT 26 false rfl rfl 127 rfl (fun _ _ h => h), fun A w' γ hb hF hs => g_eq (op_move (.tmp 19) (.inl rfl) ((hs.2 19 rfl).trans rfl))⟩,
    .inr ⟨gkT 26 false rfl rfl 127 rfl (fun _ _ h => h), fun A w' γ hb hF hs => g_eq (op_move (.tmp 22) (.inl rfl) ((hs.2 22 rfl).trans rfl))⟩,
    .inr ⟨gkT 26 false rfl rfl 127 rfl (fun _ _ h => h), fun A w' γ hb hF hs => g_eq (op_neq_int 3 _ (.tmp 128) (.tmp 129) .i64 ((gn : Nat)) ((gn : Nat)) false rfl ((hs.1 27 rfl 128 rfl).trans (hF 27 rfl)) ((hs.1 28 rfl 129 rfl).trans (hF 28 rfl)) (by simp))⟩,
    .inr ⟨gk0 rfl, fun A w' γ hb hF hs => g_eq (op_pick (.tmp 127) (.const (.bool true)) (.tmp 130) false rfl ((hs.1 26 rfl 127 rfl).trans (hF 26 rfl)) ((hs.1 29 rfl 130 rfl).trans (hF 29 rfl)))⟩,
    .inr ⟨gk0 rfl, fun A w' γ hb hF hs => g_eq (op_move (.tmp 131) (.inl rfl) ((hs.1 30 rfl 131 rfl).trans (hF 30 rfl)))⟩,
    .inr ⟨gkT 31 false rfl rfl 132 rfl (fun _ _ h => h), fun A w' γ hb hF hs => g_eq (op_move (.tmp 20) (.inl rfl) ((hs.2 20 rfl).trans rfl))⟩,
    .inr ⟨gkT 31 false rfl rfl 132 rfl (fun _ _ h => h), fun A w' γ hb hF hs => g_eq (op_move (.tmp 23) (.inl rfl) ((hs.2 23 rfl).trans rfl))⟩,
    .inr ⟨gkT 31 false rfl rfl 132 rfl (fun _ _ h => h), fun A w' γ hb hF hs => g_eq (op_neq_int 26 _ (.tmp 133) (.tmp 134) .i64 ((ge : Nat)) ((ge : Nat)) false rfl ((hs.1 32 rfl 133 rfl).trans (hF 32 rfl)) ((hs.1 33 rfl 134 rfl).trans (hF 33 rfl)) (by simp))⟩,
    .inr ⟨gk0 rfl, fun A w' γ hb hF hs => g_eq (op_pick (.tmp 132) (.const (.bool true)) (.tmp 135) false rfl ((hs.1 31 rfl 132 rfl).trans (hF 31 rfl)) ((hs.1 34 rfl 135 rfl).trans (hF 34 rfl)))⟩,
    .inr ⟨gk0 rfl, fun A w' γ hb hF hs => g_eq (op_move (.tmp 136) (.inl rfl) ((hs.1 35 rfl 136 rfl).trans (hF 35 rfl)))⟩,
    .inr ⟨gkT 36 false rfl rfl 137 rfl (fun _ _ h => h), fun A w' γ hb hF hs => g_eq (op_load_st 38 (.tmp 24) rfl ((hs.2 24 rfl).trans rfl) (KB.out.2.2.1.below hb KB.out.2.2.1.lt) Tryd.underlying38 (iF))⟩,
    .inr ⟨gkT 36 false rfl rfl 137 rfl (fun _ _ h => h), fun A w' γ hb hF hs => g_eq (op_call 13 #[.agg #[.int .u32 mg, .int .i64 (K : Nat), .slice oa lr.length oc, .int .i64 fd]] (exec_call _ 13 #[.agg #[.int .u32 mg, .int .i64 (K : Nat), .slice oa lr.length oc, .int .i64 fd]] rfl rfl (oargs1 ((hs.1 37 rfl 138 rfl).trans (hF 37 rfl))) Tryd.func13 rfl rfl) (Theirs_any mg K fd oa lr.length oc w'))⟩,
    .inr ⟨gkT 36 false rfl rfl 137 rfl (fun _ _ h => h), fun A w' γ hb hF hs => g_eq (op_load_st 28 (.tmp 26) rfl ((hs.2 26 rfl).trans rfl) (KB.out.2.2.2.1.below hb KB.out.2.2.2.1.lt) Tryd.underlying28 (iR))⟩,
    .inr ⟨gkT 36 false rfl rfl 137 rfl (fun _ _ h => h), fun A w' γ hb hF hs => g_eq (op_call 12 #[.agg #[.int .u32 mg, .int .i64 (K : Nat), .slice oa lr.length oc, .int .i64 fd], .agg #[.int .u32 mg, .int .i64 (K : Nat), .slice qa lr.length qc, .int .i64 fd]] (exec_call _ 12 #[.agg #[.int .u32 mg, .int .i64 (K : Nat), .slice oa lr.length oc, .int .i64 fd], .agg #[.int .u32 mg, .int .i64 (K : Nat), .slice qa lr.length qc, .int .i64 fd]] rfl rfl (oargs2 ((hs.1 38 rfl 139 rfl).trans (hF 38 rfl)) ((hs.1 39 rfl 140 rfl).trans (hF 39 rfl))) Tryd.func12 rfl rfl) (KW.out.2.2.2.2.1 w' hb))⟩,
    .inr ⟨gkT 36 false rfl rfl 137 rfl (fun _ _ h => h), fun A w' γ hb hF hs => g_eq (op_not 4 (.tmp 141) true rfl ((hs.1 40 rfl 141 rfl).trans (hF 40 rfl)))⟩,
    .inr ⟨gk0 rfl, fun A w' γ hb hF hs => g_eq (op_pick (.tmp 137) (.const (.bool true)) (.tmp 142) false rfl ((hs.1 36 rfl 137 rfl).trans (hF 36 rfl)) ((hs.1 41 rfl 142 rfl).trans (hF 41 rfl)))⟩,
    .inr ⟨gk0 rfl, fun A w' γ hb hF hs => g_eq (op_move (.tmp 143) (.inl rfl) ((hs.1 42 rfl 143 rfl).trans (hF 42 rfl)))⟩,
    .inr ⟨gkT 43 false rfl rfl 144 rfl (fun _ _ h => h), fun A w' γ hb hF hs => g_eq (op_move (.tmp 25) (.inl rfl) ((hs.2 25 rfl).trans rfl))⟩,
    .inr ⟨gkT 43 false rfl rfl 144 rfl (fun _ _ h => h), fun A w' γ hb hF hs => g_call 15 #[vl7] (exec_call _ 15 #[vl7] rfl rfl (oargs1 ((hs.1 44 rfl 145 rfl).trans (hF 44 rfl))) Tryd.func15 rfl rfl) (KW.out.2.2.2.2.2.1 w' hb)⟩,
    .inr ⟨gkT 43 false rfl rfl 144 rfl (fun _ _ h => h), fun A w' γ hb hF hs => g_eq (op_move (.tmp 27) (.inl rfl) ((hs.2 27 rfl).trans rfl))⟩,
    .inr ⟨gkT 43 false rfl rfl 144 rfl (fun _ _ h => h), fun A w' γ hb hF hs => g_eq (op_call 14 #[γ 45, vl8] (exec_call _ 14 #[γ 45, vl8] rfl rfl (oargs2 (hs.1 45 rfl 146 rfl) ((hs.1 46 rfl 147 rfl).trans (hF 46 rfl))) Tryd.func14 rfl rfl) (Msgs_true T (γ 45) vl8 (by omega) w' (hF 45 rfl) (KW.out.2.2.2.2.2.2 w' hb)))⟩,
    .inr ⟨gkT 43 false rfl rfl 144 rfl (fun _ _ h => h), fun A w' γ hb hF hs => g_eq (op_not 4 (.tmp 148) true rfl ((hs.1 47 rfl 148 rfl).trans (hF 47 rfl)))⟩,
    .inr ⟨gk0 rfl, fun A w' γ hb hF hs => g_eq (op_pick (.tmp 144) (.const (.bool true)) (.tmp 149) false rfl ((hs.1 43 rfl 144 rfl).trans (hF 43 rfl)) ((hs.1 48 rfl 149 rfl).trans (hF 48 rfl)))⟩,
    trivial⟩ ?_
  intro γ wy hby hF
  have ez : γ 49 = .bool false := hF 49 (by decide)
  simp only [Fr, if_true, Act.put, List.setIfInBounds_toArray, List.set_cons_zero, List.set_cons_succ]
  rw [ez]
  clear ez hF
  have X1 := KB.out.2.2.2.2.1.calls hby
  have X2 := KB.out.2.2.2.2.2.1.calls hby
  have BBB := bt KB.out.2.2.2.2.2.2 hby
  have KC := Lib.hid (And.intro X1 (And.intro X2 BBB)); clear X1 X2 BBB hby KB KW
  go_wp2_with fail
  refine wp_region_g [some 151, some 152, some 153, some 154, some 155, some 156, some 157, some 158, some 159, some 160, some 161, some 162, some 163, some 164, some 165, some 166, some 167, some 168, some 169, some 170, some 171, some 172, some 173, some 174, some 175, some 176, some 177, some 178, some 12] (FL [
      EqV (.bool true),
      EqV (.bool true),
      EqV (.agg #[.int .u32 mg, .int .i64 K0, .slice as_ ns ds, .int .i64 bad]),
      EqV (.agg #[.int .u32 mg, .int .i64 K0, .slice as_ ns ds, .int .i64 bad]),
      EqV (.bool sv),
      EqV (.agg #[.int .u32 mg, .int .i64 K0, .slice as_ ns ds, .int .i64 bad]),
      EqV (.bool sv),
      EqV (.bool true),
      EqV (.bool true),
      EqV (.bool true),
      EqV (.pointer (some ⟨w.heap.size, 0, none⟩)),
      EqV (.string S),
      EqV (.bool cv),
      EqV (.pointer (some ⟨w.heap.size, 0, none⟩)),
      EqV (.string S),
      EqV (.bool cv),
      EqV (.bool true),
      EqV (.bool true),
      EqV (.bool true),
      EqV (.int .u32 magic),
      EqV (.int .i64 most),
      EqV (.agg #[.int .u32 magic, .int .i64 (KM : Nat), .slice none 0 0, .int .i64 0]),
      EqV (.agg #[.int .u32 magic, .int .i64 (KM : Nat), .slice none 0 0, .int .i64 0]),
      EqV (.int .u32 magic),
      EqV (.int .i64 most),
      EqV (.agg #[.int .u32 magic, .int .i64 (KM : Nat), .slice none 0 0, .int .i64 0]),
      EqV (.bool true),
      EqV (.bool true),
      EqV (.bool true)
    ]) (FL_keeps ⟨keeps_eq _, keeps_eq _, keeps_eq _, keeps_eq _, keeps_eq _, keeps_eq _, keeps_eq _, keeps_eq _, keeps_eq _, keeps_eq _, keeps_eq _, keeps_eq _, keeps_eq _, keeps_eq _, keeps_eq _, keeps_eq _, keeps_eq _, keeps_eq _, keeps_eq _, keeps_eq _, keeps_eq _, keeps_eq _, keeps_eq _, keeps_eq _, keeps_eq _, keeps_eq _, keeps_eq _, keeps_eq _, keeps_eq _, trivial⟩) (by kernel_rfl) rfl rfl rfl rfl ⟨
    .inr ⟨gk0 rfl, fun A w' γ hb hF hs => g_eq (op_move (.tmp 13) (.inl rfl) ((hs.2 13 rfl).trans rfl))⟩,
    .inr ⟨gk0 rfl, fun A w' γ hb hF hs => g_eq (op_move (.tmp 151) (.inl rfl) ((hs.1 0 rfl 151 rfl).trans (hF 0 rfl)))⟩,
    .inr ⟨gkT 1 true rfl rfl 152 rfl (fun _ _ h => h), fun A w' γ hb hF hs => g_eq (op_load_st 28 (.tmp 10) rfl ((hs.2 10 rfl).trans rfl) (KC.out.2.1.below hb KC.out.2.1.lt) Tryd.underlying28 (iR))⟩,
    .inr ⟨gkT 1 true rfl rfl 152 rfl (fun _ _ h => h), fun A w' γ hb hF hs => g_eq (op_call 10 #[.agg #[.int .u32 mg, .int .i64 K0, .slice as_ ns ds, .int .i64 bad]] (exec_call _ 10 #[.agg #[.int .u32 mg, .int .i64 K0, .slice as_ ns ds, .int .i64 bad]] rfl rfl (oargs1 ((hs.1 2 rfl 153 rfl).trans (hF 2 rfl))) Tryd.func10 rfl rfl) (KF.out.1 w'))⟩,
    .inr ⟨gkT 1 true rfl rfl 152 rfl (fun _ _ h => h), fun A w' γ hb hF hs => g_eq (op_call 16 #[.agg #[.int .u32 mg, .int .i64 K0, .slice as_ ns ds, .int .i64 bad]] (exec_call _ 16 #[.agg #[.int .u32 mg, .int .i64 K0, .slice as_ ns ds, .int .i64 bad]] rfl rfl (oargs1 ((hs.1 3 rfl 154 rfl).trans (hF 3 rfl))) Tryd.func16 rfl rfl) (KS.out.1 w' (bt KC.out.2.2 hb)))⟩,
    .inr ⟨gkT 1 true rfl rfl 152 rfl (fun _ _ h => h), fun A w' γ hb hF hs => g_eq (op_load_st 28 (.tmp 10) rfl ((hs.2 10 rfl).trans rfl) (KC.out.2.1.below hb KC.out.2.1.lt) Tryd.underlying28 (iR))⟩,
    .inr ⟨gkT 1 true rfl rfl 152 rfl (fun _ _ h => h), fun A w' γ hb hF hs => g_eq (op_call 17 #[.agg #[.int .u32 mg, .int .i64 K0, .slice as_ ns ds, .int .i64 bad]] (exec_call _ 17 #[.agg #[.int .u32 mg, .int .i64 K0, .slice as_ ns ds, .int .i64 bad]] rfl rfl (oargs1 ((hs.1 5 rfl 156 rfl).trans (hF 5 rfl))) Tryd.func17 rfl rfl) (KS.out.2.1 w' (bt KC.out.2.2 hb)))⟩,
    .inr ⟨gkT 1 true rfl rfl 152 rfl (fun _ _ h => h), fun A w' γ hb hF hs => g_eq (op_eq_bool 4 _ (.tmp 155) (.tmp 157) (sv) (sv) true rfl ((hs.1 4 rfl 155 rfl).trans (hF 4 rfl)) ((hs.1 6 rfl 157 rfl).trans (hF 6 rfl)) Tryd.underlying4 (by simp))⟩,
    .inr ⟨gk0 rfl, fun A w' γ hb hF hs => g_eq (op_pick (.tmp 152) (.tmp 158) (.const (.bool false)) true rfl ((hs.1 1 rfl 152 rfl).trans (hF 1 rfl)) ((hs.1 7 rfl 158 rfl).trans (hF 7 rfl)))⟩,
    .inr ⟨gk0 rfl, fun A w' γ hb hF hs => g_eq (op_move (.tmp 159) (.inl rfl) ((hs.1 8 rfl 159 rfl).trans (hF 8 rfl)))⟩,
    .inr ⟨gkT 9 true rfl rfl 160 rfl (fun _ _ h => h), fun A w' γ hb hF hs => g_eq (op_fld 25 (.tmp 8) 0 0 rfl (w.heap.size) ((hs.2 8 rfl).trans rfl) fun _ _ => by kernel_rfl)⟩,
    .inr ⟨gkT 9 true rfl rfl 160 rfl (fun _ _ h => h), fun A w' γ hb hF hs => g_eq (op_cel 9 (.tmp 161) rfl _ ((hs.1 10 rfl 161 rfl).trans (hF 10 rfl)) _ (((KC.out.1.below hb KC.out.1.lt).cell 0)) _ Tryd.underlying9 rfl)⟩,
    .inr ⟨gkT 9 true rfl rfl 160 rfl (fun _ _ h => h), fun A w' γ hb hF hs => g_eq (op_call 18 #[.string S] (exec_call _ 18 #[.string S] rfl rfl (oargs1 ((hs.1 11 rfl 162 rfl).trans (hF 11 rfl))) Tryd.func18 rfl rfl) (KS.out.2.2.1 w'))⟩,
    .inr ⟨gkT 9 true rfl rfl 160 rfl (fun _ _ h => h), fun A w' γ hb hF hs => g_eq (op_fld 25 (.tmp 8) 0 0 rfl (w.heap.size) ((hs.2 8 rfl).trans rfl) fun _ _ => by kernel_rfl)⟩,
    .inr ⟨gkT 9 true rfl rfl 160 rfl (fun _ _ h => h), fun A w' γ hb hF hs => g_eq (op_cel 9 (.tmp 164) rfl _ ((hs.1 13 rfl 164 rfl).trans (hF 13 rfl)) _ (((KC.out.1.below hb KC.out.1.lt).cell 0)) _ Tryd.underlying9 rfl)⟩,
    .inr ⟨gkT 9 true rfl rfl 160 rfl (fun _ _ h => h), fun A w' γ hb hF hs => g_eq (op_call 19 #[.string S] (exec_call _ 19 #[.string S] rfl rfl (oargs1 ((hs.1 14 rfl 165 rfl).trans (hF 14 rfl))) Tryd.func19 rfl rfl) (KS.out.2.2.2.1 w'))⟩,
    .inr ⟨gkT 9 true rfl rfl 160 rfl (fun _ _ h => h), fun A w' γ hb hF hs => g_eq (op_eq_bool 4 _ (.tmp 163) (.tmp 166) (cv) (cv) true rfl ((hs.1 12 rfl 163 rfl).trans (hF 12 rfl)) ((hs.1 15 rfl 166 rfl).trans (hF 15 rfl)) Tryd.underlying4 (by simp))⟩,
    .inr ⟨gk0 rfl, fun A w' γ hb hF hs => g_eq (op_pick (.tmp 160) (.tmp 167) (.const (.bool false)) true rfl ((hs.1 9 rfl 160 rfl).trans (hF 9 rfl)) ((hs.1 16 rfl 167 rfl).trans (hF 16 rfl)))⟩,
    .inr ⟨gk0 rfl, fun A w' γ hb hF hs => g_eq (op_move (.tmp 168) (.inl rfl) ((hs.1 17 rfl 168 rfl).trans (hF 17 rfl)))⟩,
    .inr ⟨gkT 18 true rfl rfl 169 rfl (fun _ _ h => h), fun A w' γ hb hF hs => g_eq (op_move (.tmp 0) (.inl rfl) ((hs.2 0 rfl).trans rfl))⟩,
    .inr ⟨gkT 18 true rfl rfl 169 rfl (fun _ _ h => h), fun A w' γ hb hF hs => g_eq (op_move (.tmp 1) (.inl rfl) ((hs.2 1 rfl).trans rfl))⟩,
    .inr ⟨gkT 18 true rfl rfl 169 rfl (fun _ _ h => h), fun A w' γ hb hF hs => g_eq (op_call 20 #[.int .u32 magic, .int .i64 most] (exec_call _ 20 #[.int .u32 magic, .int .i64 most] rfl rfl (oargs2 ((hs.1 19 rfl 170 rfl).trans (hF 19 rfl)) ((hs.1 20 rfl 171 rfl).trans (hF 20 rfl))) Tryd.func20 rfl rfl) (KS.out.2.2.2.2.1 w'))⟩,
    .inr ⟨gkT 18 true rfl rfl 169 rfl (fun _ _ h => h), fun A w' γ hb hF hs => g_eq (op_call 13 #[.agg #[.int .u32 magic, .int .i64 (KM : Nat), .slice none 0 0, .int .i64 0]] (exec_call _ 13 #[.agg #[.int .u32 magic, .int .i64 (KM : Nat), .slice none 0 0, .int .i64 0]] rfl rfl (oargs1 ((hs.1 21 rfl 172 rfl).trans (hF 21 rfl))) Tryd.func13 rfl rfl) (Theirs_any magic KM 0 none 0 0 w'))⟩,
    .inr ⟨gkT 18 true rfl rfl 169 rfl (fun _ _ h => h), fun A w' γ hb hF hs => g_eq (op_move (.tmp 0) (.inl rfl) ((hs.2 0 rfl).trans rfl))⟩,
    .inr ⟨gkT 18 true rfl rfl 169 rfl (fun _ _ h => h), fun A w' γ hb hF hs => g_eq (op_move (.tmp 1) (.inl rfl) ((hs.2 1 rfl).trans rfl))⟩,
    .inr ⟨gkT 18 true rfl rfl 169 rfl (fun _ _ h => h), fun A w' γ hb hF hs => g_eq (op_call 21 #[.int .u32 magic, .int .i64 most] (exec_call _ 21 #[.int .u32 magic, .int .i64 most] rfl rfl (oargs2 ((hs.1 23 rfl 174 rfl).trans (hF 23 rfl)) ((hs.1 24 rfl 175 rfl).trans (hF 24 rfl))) Tryd.func21 rfl rfl) (KS.out.2.2.2.2.2 w'))⟩,
    .inr ⟨gkT 18 true rfl rfl 169 rfl (fun _ _ h => h), fun A w' γ hb hF hs => g_eq (op_call 12 #[.agg #[.int .u32 magic, .int .i64 (KM : Nat), .slice none 0 0, .int .i64 0], .agg #[.int .u32 magic, .int .i64 (KM : Nat), .slice none 0 0, .int .i64 0]] (exec_call _ 12 #[.agg #[.int .u32 magic, .int .i64 (KM : Nat), .slice none 0 0, .int .i64 0], .agg #[.int .u32 magic, .int .i64 (KM : Nat), .slice none 0 0, .int .i64 0]] rfl rfl (oargs2 ((hs.1 22 rfl 173 rfl).trans (hF 22 rfl)) ((hs.1 25 rfl 176 rfl).trans (hF 25 rfl))) Tryd.func12 rfl rfl) (Same_true magic KM 0 [] 0 rfl none 0 none 0 w' (.inl rfl) (.inl rfl)))⟩,
    .inr ⟨gk0 rfl, fun A w' γ hb hF hs => g_eq (op_pick (.tmp 169) (.tmp 177) (.const (.bool false)) true rfl ((hs.1 18 rfl 169 rfl).trans (hF 18 rfl)) ((hs.1 26 rfl 177 rfl).trans (hF 26 rfl)))⟩,
    .inr ⟨gk0 rfl, fun A w' γ hb hF hs => g_eq (op_move (.tmp 178) (.inr rfl) ((hs.1 27 rfl 178 rfl).trans (hF 27 rfl)))⟩,
    trivial⟩ ?_
  intro γ wz hbz hF
  have ez : γ 28 = .bool true := hF 28 (by decide)
  simp only [Fr, if_true, Act.put, List.setIfInBounds_toArray, List.set_cons_zero, List.set_cons_succ]
  rw [ez]
  clear ez hF
  have RB := Lib.hid hbz; clear hbz
  go_wp2_with fail
  go_ret
  exact ⟨rfl, bt KC.out.2.2 RB.out⟩
end Go.Proofs.YtlegcceaoglpoaaDoor
