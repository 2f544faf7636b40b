/- The statement FrameBack: for every input the call returns true, and its arguments read as before; the card ties SHA-256's tables to the program's text. FrameBack: the law's walk. -/
import Derived.BigQuiet
import Derived.Test.YticiipddilabfaaDoorBqN
import Derived.Test.YticiipddilabfaaDoorBqC
import Derived.Test.YticiipddilabfaaDoorBqD
import Derived.Test.YticiipddilabfaaDoorBqK
namespace Go.Proofs.YticiipddilabfaaDoor
open Go.RowKit
set_option linter.unusedVariables false
set_option maxRecDepth 100000 in
set_option maxHeartbeats 4000000 in
theorem Back_walk (w : World) (hL : Laid w) (magic : Nat) (hm : magic < 4294967296) (x : MsgT) (S : ByteArray) (hS : S = bstr x.1) (p : Option Addr) (n d : Nat) (hn : x.2.length = n) (hRp : RdS w p x.2) (q4 : n ≤ d) (q5 : d ≤ 9223372036854775807) (q6 : p = none → n = 0 ∧ d = 0)
    (am : Option Addr) (nm cm : Nat) (ms : List UInt8) (hl2 : ms.length = nm) (hm1 : nm ≤ cm) (hm2 : cm ≤ 140737488355328) (hno2 : am = none → nm = 0 ∧ cm = 0) (hR2 : RdS w am ms) (kk : Int) :
    Calls Tryd.prog 4 #[.int .u32 magic, .agg #[.string S, .slice p n d], .slice am nm cm, .int .i64 kk] w fun e w' => e = .returned (.bool true) ∧ Below w.heap.size w w' := by
  have cA := fun w' (h : Below w.heap.size w w') => Awake06 w' (hL.calls h)
  have hsz : S.size = x.1.length := by rw [hS]; simp [bstr, ByteArray.size]
  have H := Lib.hid (And.intro hL (And.intro hRp (And.intro hR2 (And.intro hl2 (And.intro hS (And.intro hn cA)))))); clear hL hRp hR2 hl2 hS hn cA
  have big : ((400 : Int) < (n : Int) ∨ (400 : Int) < (nm : Int) ∨ (100 : Int) < (S.size : Int)) → Calls Tryd.prog 4 #[.int .u32 magic, .agg #[.string S, .slice p n d], .slice am nm cm, .int .i64 kk] w fun e w' => e = .returned (.bool true) ∧ Below w.heap.size w w' := by
    intro hbig
    clear hsz q6 hno2
    by_cases b1' : (400 : Int) < (n : Int)
    · go_enter Tryd.func4, Tryd.ntmps4
      go_wp2_with fail
      refine (H.out.2.2.2.2.2.2 _ (ba (Below.refl _ _) _)).mono ?_
      rintro e w1 ⟨rfl, hb1⟩
      have X1 := (Blk.new w 25 #[.string S, .slice p n d]).calls hb1
      have m1 : w1.cell? ⟨w.heap.size, 0, none⟩ = some (.string S) := X1.cell 0
      have m2 : w1.cell? ⟨w.heap.size, 1, none⟩ = some (.slice p n d) := X1.cell 1
      have B1 := Lib.hid (And.intro X1 (bt (ba (Below.refl _ _) _) hb1)); clear hb1 X1
      go_wp2_with fail
      go_ret
      exact ⟨rfl, B1.out.2⟩
    by_cases b2' : (400 : Int) < (nm : Int)
    · go_enter Tryd.func4, Tryd.ntmps4
      go_wp2_with fail
      refine (H.out.2.2.2.2.2.2 _ (ba (Below.refl _ _) _)).mono ?_
      rintro e w1 ⟨rfl, hb1⟩
      have X1 := (Blk.new w 25 #[.string S, .slice p n d]).calls hb1
      have m1 : w1.cell? ⟨w.heap.size, 0, none⟩ = some (.string S) := X1.cell 0
      have m2 : w1.cell? ⟨w.heap.size, 1, none⟩ = some (.slice p n d) := X1.cell 1
      have B1 := Lib.hid (And.intro X1 (bt (ba (Below.refl _ _) _) hb1)); clear hb1 X1
      go_wp2_with fail
      go_ret
      exact ⟨rfl, B1.out.2⟩
    have b3' : (100 : Int) < (S.size : Int) := by omega
    go_enter Tryd.func4, Tryd.ntmps4
    go_wp2_with fail
    refine (H.out.2.2.2.2.2.2 _ (ba (Below.refl _ _) _)).mono ?_
    rintro e w1 ⟨rfl, hb1⟩
    have X1 := (Blk.new w 25 #[.string S, .slice p n d]).calls hb1
    have m1 : w1.cell? ⟨w.heap.size, 0, none⟩ = some (.string S) := X1.cell 0
    have m2 : w1.cell? ⟨w.heap.size, 1, none⟩ = some (.slice p n d) := X1.cell 1
    have B1 := Lib.hid (And.intro X1 (bt (ba (Below.refl _ _) _) hb1)); clear hb1 X1
    go_wp2_with fail
    go_ret
    exact ⟨rfl, B1.out.2⟩
  by_cases b0 : ((400 : Int) < (n : Int) ∨ (400 : Int) < (nm : Int) ∨ (100 : Int) < (S.size : Int))
  · exact big b0
  clear big
  have b1' : ¬ (400 : Int) < (n : Int) := fun h => b0 (.inl h)
  have b2' : ¬ (400 : Int) < (nm : Int) := fun h => b0 (.inr (.inl h))
  have b3' : ¬ (100 : Int) < (S.size : Int) := fun h => b0 (.inr (.inr h))
  clear b0
  have n400 : n ≤ 400 := by omega
  have nm400 : nm ≤ 400 := by omega
  obtain ⟨E, hE⟩ : ∃ E, putE x.1 x.2 = E := ⟨_, rfl⟩
  obtain ⟨B0, hB0⟩ : ∃ l, putL magic x.1 x.2 = l := ⟨_, rfl⟩
  have cP := fun w' (h : Below w.heap.size w w') => Put_ex magic hm x.1 (by omega) p n d x.2 H.out.2.2.2.2.2.1 q4 ⟨by omega, q5⟩ q6 E B0 hE hB0 w' (H.out.2.1.calls h) (H.out.1.calls h)
  have cC := fun w' => Command_any x.1 (by omega) w'
  rw [← H.out.2.2.2.2.1] at cP cC
  have KP := Lib.hid (And.intro cP (And.intro cC (And.intro hE hB0))); clear cP cC hE hB0 hsz
  have iZ : (Tryd.prog.info? 32).map (·.size) = some (#[.string ⟨#[]⟩, .slice none 0 0] : Array Value).size := isMsg _ rfl
  obtain ⟨i0, hi, hz0, hz1, hz2⟩ := info_parts (show (Tryd.prog.info? 5).map (fun i => (i.zero, i.size, i.bytes)) = some (some (.int .u8 0), 1, 1) by kernel_rfl)
  have I := Lib.hid (And.intro hi (And.intro hz0 (And.intro hz1 hz2))); clear hi hz0 hz1 hz2
  go_enter Tryd.func4, Tryd.ntmps4
  go_wp2_with fail
  refine (H.out.2.2.2.2.2.2 _ (ba (Below.refl _ _) _)).mono ?_
  rintro e w1 ⟨rfl, hb1⟩
  have X1 := (Blk.new w 25 #[.string S, .slice p n d]).calls hb1
  have m1 : w1.cell? ⟨w.heap.size, 0, none⟩ = some (.string S) := X1.cell 0
  have m2 : w1.cell? ⟨w.heap.size, 1, none⟩ = some (.slice p n d) := X1.cell 1
  have B1 := Lib.hid (And.intro X1 (bt (ba (Below.refl _ _) _) hb1)); clear hb1 X1
  go_wp2_with fail
  refine (KP.out.1 _ B1.out.2).mono ?_
  rintro e w2 ⟨u, rfl, hb2, v, rfl, a10, c10, rfl, r1, r2, r3, r4⟩
  obtain ⟨NB, hNB⟩ : ∃ NB, B0.length = NB := ⟨_, rfl⟩
  rw [hNB] at r2 r4 ⊢
  clear m1 m2
  have X2 := B1.out.1.calls hb2
  have m1 : w2.cell? ⟨w.heap.size, 0, none⟩ = some (.string S) := X2.cell 0
  have m2 : w2.cell? ⟨w.heap.size, 1, none⟩ = some (.slice p n d) := X2.cell 1
  have Bw := bt B1.out.2 hb2
  have Z := Lib.hid (And.intro X2 (And.intro r1 (And.intro (H.out.2.2.1.calls Bw) (And.intro (H.out.1.calls Bw) (And.intro Bw (And.intro r3 (And.intro r4 hNB))))))); clear X2 r1 r3 r4 Bw hb2 B1 hNB
  have zw2 : w.heap.size < w2.heap.size := Z.out.1.lt
  go_wp2_with fail
  refine (KP.out.2.1 _).mono ?_
  rintro e w3 ⟨rfl, rfl⟩
  obtain ⟨w2, hw2⟩ : ∃ w, w = w3 := ⟨_, rfl⟩
  subst hw2
  cases hok : cmdOk x.1 with
  | false =>
    obtain rfl : E = 2 := by rw [← KP.out.2.2.1, putE_bad hok]
    obtain rfl : NB = 0 := by rw [← Z.out.2.2.2.2.2.2.2, ← KP.out.2.2.2]; unfold putL; rw [putE_bad hok]; rfl
    have HK := Lib.hid hok; clear hok
    go_wp2_with fail
    go_ret
    exact ⟨rfl, Z.out.2.2.2.2.1⟩
  | true =>
    obtain rfl : E = 0 := by rw [← KP.out.2.2.1, putE_good hok (by have := H.out.2.2.2.2.2.1; omega)]
    have eB : B0 = headOf magic x.1 x.2 ++ x.2 := by rw [← KP.out.2.2.2, putL_good hok (by have := H.out.2.2.2.2.2.1; omega)]
    have eN : 24 + n = NB := by rw [← Z.out.2.2.2.2.2.2.2, eB, put_length hok, H.out.2.2.2.2.2.1]
    have hNi : (24 : Int) + (n : Int) = (NB : Int) := by omega
    have HK := Lib.hid (And.intro hok (And.intro eB eN)); clear hok eB
    have nb4 : NB ≤ 424 := by omega
    obtain ⟨kq, hkq, kq6⟩ := and65535 kk
    obtain ⟨k7, hk7, k78⟩ := and7 kk
    have KB := Lib.hid (And.intro hkq hk7)
    have own : (w2.alloc (.cells #[] 5)).ownsRow w2.heap.size 5 1 (.slice (some ⟨w2.heap.size, 0, none⟩) 0 0) 0 (([] : List UInt8).map fun c => Value.int .u8 (c.toNat : Int)) := World.ownsRow_made w2 #[] 0 (Nat.le_refl _) (by unfold maxLen; omega) rfl
    have k3 : Below w2.heap.size w2 (w2.alloc (.cells #[] 5)) := ba (Below.refl _ _) _
    have z3 : w2.heap.size ≤ (w2.alloc (.cells #[] 5)).heap.size := k3.size
    have O := Lib.hid (And.intro own (And.intro k3 (Z.out.2.1.calls k3))); clear own k3 hkq hk7 eN
    go_wp2_with (at_builtin; refine wl_app O.out.1 rfl _ _ 23 rfl Tryd.underlying23 i0 I.out.1 I.out.2.1 I.out.2.2.1 I.out.2.2.2 rfl a10 NB c10 B0 rfl O.out.2.2 Z.out.2.2.2.2.2.2.2 Z.out.2.2.2.2.2.2.1 (by omega) z3 ?_)
    intro v4 w4 o4 g4 _
    replace o4 : w4.ownsRow w2.heap.size 5 1 v4 NB (B0.map fun c => Value.int .u8 (c.toNat : Int)) := by simpa using o4
    have B4 := below_grown O.out.2.1 g4 z3 (by intro k hk; have := O.out.1.lt k hk; omega)
    obtain ⟨a4, c4, rfl⟩ := own_slice o4
    have z4 : w2.heap.size ≤ w4.heap.size := B4.size
    have O4 := Lib.hid (And.intro o4 (And.intro B4 (Z.out.2.2.1.calls B4))); clear o4 B4 g4 O
    go_wp2_with (at_builtin; refine wl_app O4.out.1 rfl _ _ 23 rfl Tryd.underlying23 i0 I.out.1 I.out.2.1 I.out.2.2.1 I.out.2.2.2 rfl am nm cm ms rfl O4.out.2.2 H.out.2.2.2.1 hno2 (by omega) z4 ?_)
    intro v5 w5 o5 g5 _
    replace o5 : w5.ownsRow w2.heap.size 5 1 v5 (NB + nm) ((B0 ++ ms).map fun c => Value.int .u8 (c.toNat : Int)) := by simpa using o5
    have B5 := below_grown O4.out.2.1 g5 z4 (by intro k hk; have := O4.out.1.lt k hk; omega)
    obtain ⟨a12, c12, rfl, q1, q2, q3, q4', q5'⟩ := own_rds o5
    obtain ⟨NA, hNA⟩ : ∃ NA, NA = NB + nm := ⟨_, rfl⟩
    rw [← hNA] at q1 q3 q5' ⊢
    have NA9 : NA ≤ 824 := by omega
    have c12m : c12 ≤ 9223372036854775807 := by unfold maxLen at q4'; omega
    clear m1 m2
    have m1 : w5.cell? ⟨w.heap.size, 0, none⟩ = some (.string S) := (Z.out.1.calls B5).cell 0
    have m2 : w5.cell? ⟨w.heap.size, 1, none⟩ = some (.slice p n d) := (Z.out.1.calls B5).cell 1
    have hcap : capN (n : Int) = n := by unfold capN; omega
    have gy : getG magic n (B0 ++ ms) = .yes x.1 x.2 := by
      have h := back_yes (magic := magic) ms HK.out.1 (show x.2.length ≤ 4000000 by have := H.out.2.2.2.2.2.1; omega)
      rw [← HK.out.2.1, H.out.2.2.2.2.2.1] at h
      exact h
    have cG1 := Get_yes magic hm (n : Int) n hcap a12 NA c12 (B0 ++ ms) q1 q3 ⟨by omega, c12m⟩ q5' x.1 x.2 gy n H.out.2.2.2.2.2.1 NB (by rw [← HK.out.2.2, H.out.2.2.2.2.2.1]) w5 q2 (Z.out.2.2.2.1.calls B5)
    rw [← H.out.2.2.2.2.1] at cG1
    have O5 := Lib.hid (And.intro q1 (And.intro q2 (And.intro q3 (And.intro q5' (And.intro B5 (And.intro cG1 hcap)))))); clear q1 q2 q3 q4' q5' B5 o5 g5 O4 cG1 hcap gy hNA
    go_wp2_with fail
    refine O5.out.2.2.2.2.2.1.mono ?_
    rintro e w6 ⟨pa, pc, rfl, hb6, hcl⟩
    have al6 : Below w6.heap.size w6 (w6.alloc (.cells #[.string S, .slice pa n pc] 32)) := ba (Below.refl _ _) _
    have X6 : Blk (w6.alloc (.cells #[.string S, .slice pa n pc] 32)) w6.heap.size 32 #[.string S, .slice pa n pc] := Blk.new _ _ _
    have B6 := bt (bt O5.out.2.2.2.2.1 hb6) al6
    clear m1 m2
    have m1 : (w6.alloc (.cells #[.string S, .slice pa n pc] 32)).cell? ⟨w.heap.size, 0, none⟩ = some (.string S) := (Z.out.1.calls B6).cell 0
    have m2 : (w6.alloc (.cells #[.string S, .slice pa n pc] 32)).cell? ⟨w.heap.size, 1, none⟩ = some (.slice p n d) := (Z.out.1.calls B6).cell 1
    have O6 := Lib.hid (And.intro X6 (And.intro B6 (And.intro ((hcl.keep al6)) ((O5.out.2.1.calls hb6).calls al6)))); clear X6 B6 hcl hb6 al6
    -- a beginning is short
    obtain ⟨q, hq⟩ : ∃ q, q = kq % NB := ⟨_, rfl⟩
    have qlt : q < NB := by rw [hq]; exact Nat.mod_lt _ (by omega)
    have hnb0 : ¬ (NB : Int) = 0 := by omega
    have htm : Int.tmod (kq : Int) (NB : Int) = (q : Int) := by rw [hq, Int.tmod_eq_emod_of_nonneg (by omega)]; push_cast; rfl
    obtain ⟨a16, sl1, sl2, sl3, _⟩ := slice_to a10 B0 NB c10 q Z.out.2.2.2.2.2.2.2 (by omega) r2
    have hno16 : a16 = none → q = 0 ∧ c10 = 0 := fun h => absurd (Z.out.2.2.2.2.2.2.1 (sl3.2 h)).1 (by omega)
    have lq : (B0.take q).length = q := by rw [List.length_take, Z.out.2.2.2.2.2.2.2]; omega
    have c10m : c10 ≤ 9223372036854775807 := by have := Z.out.2.2.2.2.2.1; unfold maxLen at this; omega
    have gs : getG magic n (B0.take q) = .no 1 := by
      have h := back_short (magic := magic) HK.out.1 (show x.2.length ≤ 4000000 by have := H.out.2.2.2.2.2.1; omega) (q := q) (by rw [put_length HK.out.1]; have := HK.out.2.2; have := H.out.2.2.2.2.2.1; omega)
      rw [← HK.out.2.1, H.out.2.2.2.2.2.1] at h
      exact h
    have hcap := O5.out.2.2.2.2.2.2
    have cG2 := fun w' (h : Below w2.heap.size w2 w') => Get_no magic hm (n : Int) n hcap a16 q c10 (B0.take q) lq (by omega) ⟨by omega, c10m⟩ hno16 1 gs w' (sl2 w' (Z.out.2.1.calls h)) (Z.out.2.2.2.1.calls h)
    have hka := KB.out.1
    have lw := Nat.lt_of_lt_of_le Z.out.1.lt O6.out.2.1.size
    clear sl2 sl3 lq gs hno16 hq
    have G2 := Lib.hid cG2; clear cG2
    go_wp2_with fail
    refine wp_region_new [some 96, some 97, some 98, some 99, some 100, some 101, some 102, some 103, some 104, some 105, some 106, some 107, some 95, some 108, some 109, some 110, some 16, none, some 17, some 18] [⟨16, 17, 32, #[.string ⟨#[]⟩, .slice none 0 0], #[.string ⟨#[]⟩, .slice none 0 0]⟩] (fun i => ([.int .u32 magic, .pointer (some ⟨w.heap.size, 1, none⟩), .slice p n d, .int .i64 n, .slice a10 NB c10, .int .i64 kk, .int .i64 kq, .slice a10 NB c10, .int .i64 NB, .int .i64 q, .slice a16 q c10, .tuple #[.agg #[.string ⟨#[]⟩, .slice none 0 0], .int .i64 0, .int .i64 1], .tuple #[.agg #[.string ⟨#[]⟩, .slice none 0 0], .int .i64 0, .int .i64 1], .agg #[.string ⟨#[]⟩, .slice none 0 0], .int .i64 0, .int .i64 1, undef, undef, .int .i64 0, .int .i64 1] : List Value).getD i undef) (by kernel_rfl) rfl rfl rfl rfl rfl rfl rfl ⟨
      .inr (.inr ⟨rfl, rfl, fun A w' hb hs ho => op_move _ (.inl rfl) ((ho 0 rfl).trans rfl)⟩),
      .inr (.inr ⟨rfl, rfl, fun A w' hb hs ho => op_fld 25 (.tmp 5) 1 1 rfl w.heap.size ((ho 5 rfl).trans rfl) fun _ _ => by kernel_rfl⟩),
      .inr (.inr ⟨rfl, rfl, fun A w' hb hs ho => op_cel 23 (.tmp 97) rfl _ (hs 1 rfl rfl _ rfl) _ ((hb.cell (p := ⟨w.heap.size, 1, none⟩) lw).trans m2) _ Tryd.underlying23 rfl⟩),
      .inr (.inr ⟨rfl, rfl, fun A w' hb hs ho => op_len (.tmp 98) 23 _ p n d rfl (hs 2 rfl rfl _ rfl) Tryd.underlying23⟩),
      .inr (.inr ⟨rfl, rfl, fun A w' hb hs ho => op_move _ (.inl rfl) ((ho 10 rfl).trans rfl)⟩),
      .inr (.inr ⟨rfl, rfl, fun A w' hb hs ho => op_move _ (.inl rfl) ((ho 3 rfl).trans rfl)⟩),
      .inr (.inr ⟨rfl, rfl, fun A w' hb hs ho => op_and _ _ (.tmp 101) (.const (.int .i64 65535)) .i64 kk 65535 kq rfl (hs 5 rfl rfl _ rfl) rfl hka⟩),
      .inr (.inr ⟨rfl, rfl, fun A w' hb hs ho => op_move _ (.inl rfl) ((ho 10 rfl).trans rfl)⟩),
      .inr (.inr ⟨rfl, rfl, fun A w' hb hs ho => op_len (.tmp 103) 23 _ a10 NB c10 rfl (hs 7 rfl rfl _ rfl) Tryd.underlying23⟩),
      .inr (.inr ⟨rfl, rfl, fun A w' hb hs ho => op_remB _ _ (.tmp 102) (.tmp 104) .i64 kq NB q rfl (hs 6 rfl rfl _ rfl) (hs 8 rfl rfl _ rfl) hnb0 htm⟩),
      .inr (.inr ⟨rfl, rfl, fun A w' hb hs ho => op_slice_s _ (.tmp 100) none (some (.tmp 105)) rfl (hs 4 rfl rfl _ rfl) rfl (congrArg some (hs 9 rfl rfl _ rfl)) (by kernel_rfl) (sl1 w')⟩),
      .inr (.inr ⟨rfl, rfl, fun A w' hb hs ho => op_call 11 _ (exec_call _ 11 _ rfl rfl (oargs3 (hs 0 rfl rfl _ rfl) (hs 3 rfl rfl _ rfl) (hs 10 rfl rfl _ rfl)) Tryd.func11 rfl rfl) (G2.out w' (bt O6.out.2.1 hb))⟩),
      .inr (.inr ⟨rfl, rfl, fun A w' hb hs ho => op_move _ (.inl rfl) (hs 11 rfl rfl _ rfl)⟩),
      .inr (.inr ⟨rfl, rfl, fun A w' hb hs ho => op_extract _ 0 _ rfl (hs 12 rfl rfl _ rfl) rfl⟩),
      .inr (.inr ⟨rfl, rfl, fun A w' hb hs ho => op_extract _ 1 _ rfl (hs 12 rfl rfl _ rfl) rfl⟩),
      .inr (.inr ⟨rfl, rfl, fun A w' hb hs ho => op_extract _ 2 _ rfl (hs 12 rfl rfl _ rfl) rfl⟩),
      .inl ⟨_, List.mem_cons_self, rfl, fun A w => alloc_runM A _ rfl w⟩,
      .inr (.inl ⟨_, List.mem_cons_self, rfl, rfl, rfl, _, _, _, 13, rfl, rfl, rfl, rfl, rfl, rfl, rfl, iZ, rfl, by simp [Value.oneCell']⟩),
      .inr (.inr ⟨rfl, rfl, fun A w' hb hs ho => op_move _ (.inr rfl) (hs 14 rfl rfl _ rfl)⟩),
      .inr (.inr ⟨rfl, rfl, fun A w' hb hs ho => op_move _ (.inr rfl) (hs 15 rfl rfl _ rfl)⟩),
      trivial⟩ ?_
    intro γ w7 hb hn hd
    simp only [Fr, if_true, vN, isAl, List.any_cons, List.any_nil, Act.put, List.setIfInBounds_toArray, List.set_cons_zero, List.set_cons_succ, List.getD_cons_zero, List.getD_cons_succ]
    generalize γ 16 = g16 at *
    have X7 := O6.out.1.calls hb
    have B7 := bt O6.out.2.1 hb
    have cl7 := O6.out.2.2.1.keep hb
    have rd7 := O6.out.2.2.2.calls hb
    clear hn hd hb m1 m2 sl1 G2 O6
    -- where less may be it is too much
    obtain ⟨E3, hE3⟩ : ∃ E, ekG (getG magic (n - 1) (B0 ++ ms)) = E := ⟨_, rfl⟩
    have hei : E3 = 3 ∨ n = 0 := by
      by_cases h0 : n = 0
      · exact .inr h0
      · left
        have h := back_big (magic := magic) ms HK.out.1 (show x.2.length ≤ 4000000 by have := H.out.2.2.2.2.2.1; omega) (by rw [H.out.2.2.2.2.2.1]; exact h0)
        rw [← HK.out.2.1, H.out.2.2.2.2.2.1] at h
        rw [← hE3, h]
        rfl
    have cG3 := Get_ek magic hm ((n : Int) - 1) (n - 1) (by unfold capN; omega) a12 NA c12 (B0 ++ ms) O5.out.1 O5.out.2.2.1 ⟨by omega, c12m⟩ O5.out.2.2.2.1 E3 hE3 w7 rd7 (Z.out.2.2.2.1.calls B7)
    have m2 : w7.cell? ⟨w.heap.size, 1, none⟩ = some (.slice p n d) := (Z.out.1.calls B7).cell 1
    have O7 := Lib.hid (And.intro cG3 (And.intro X7 (And.intro B7 (And.intro cl7 hei)))); clear cG3 X7 B7 cl7 rd7 hei hE3
    go_wp2_with fail
    refine O7.out.1.mono ?_
    rintro e w8 ⟨s8, pa8, pn8, pc8, y8, rfl, hb8⟩
    have al8 : Below w8.heap.size w8 (w8.alloc (.cells #[.string s8, .slice pa8 pn8 pc8] 32)) := ba (Below.refl _ _) _
    have al9 : Below w8.heap.size w8 ((w8.alloc (.cells #[.string s8, .slice pa8 pn8 pc8] 32)).alloc (.cells #[] 5)) := ba al8 _
    have own9 : ((w8.alloc (.cells #[.string s8, .slice pa8 pn8 pc8] 32)).alloc (.cells #[] 5)).ownsRow (w8.heap.size + 1) 5 1 (.slice (some ⟨w8.heap.size + 1, 0, none⟩) 0 0) 0 (([] : List UInt8).map fun c => Value.int .u8 (c.toNat : Int)) := by
      have h := World.ownsRow_made (size := 1) (w8.alloc (.cells #[.string s8, .slice pa8 pn8 pc8] 32)) (e := 5) #[] 0 (Nat.le_refl _) (by unfold maxLen; omega) rfl
      rw [World.size_alloc] at h
      exact h
    have X8 := O7.out.2.1.calls hb8
    have B8 := bt O7.out.2.2.1 hb8
    have cl8 := O7.out.2.2.2.1.keep hb8
    have z9 : w8.heap.size + 1 ≤ ((w8.alloc (.cells #[.string s8, .slice pa8 pn8 pc8] 32)).alloc (.cells #[] 5)).heap.size := by rw [World.size_alloc, World.size_alloc]; omega
    have zz9 : w2.heap.size ≤ w8.heap.size := B8.size
    have rd9 := Z.out.2.1.calls (B8.trans (al9.mono zz9))
    clear m2
    have O9 := Lib.hid (And.intro own9 (And.intro al9 (And.intro X8 (And.intro B8 (And.intro rd9 (And.intro cl8 O7.out.2.2.2.2)))))); clear own9 X8 B8 cl8 al8 al9 hb8 rd9 O7
    go_wp2_with (at_builtin; refine wl_app O9.out.1 rfl _ _ 23 rfl Tryd.underlying23 i0 I.out.1 I.out.2.1 I.out.2.2.1 I.out.2.2.2 rfl a10 NB c10 B0 rfl O9.out.2.2.2.2.1 Z.out.2.2.2.2.2.2.2 Z.out.2.2.2.2.2.2.1 (by omega) z9 ?_)
    intro v10 w10 o10 g10 _
    replace o10 : w10.ownsRow (w8.heap.size + 1) 5 1 v10 NB (B0.map fun c => Value.int .u8 (c.toNat : Int)) := by simpa using o10
    obtain ⟨g22, c22, cur, rfl, hg22, hb22, nc22, c22m, hB0l, hcur⟩ := own_blk o10 (own_ne o10 (by omega))
    have B10 := below_grown (B := w8.heap.size + 1) (Below.refl _ _ : Below (w8.heap.size + 1) ((w8.alloc (.cells #[.string s8, .slice pa8 pn8 pc8] 32)).alloc (.cells #[] 5)) ((w8.alloc (.cells #[.string s8, .slice pa8 pn8 pc8] 32)).alloc (.cells #[] 5))) g10 z9 (by intro k hk; have := O9.out.1.lt k hk; omega)
    have B810 : Below w8.heap.size w8 w10 := O9.out.2.1.trans (B10.mono (Nat.le_succ _))
    -- one digit of its sum is turned
    obtain ⟨r15, hr15⟩ : ∃ r, r = kq % (NB - 20) := ⟨_, rfl⟩
    have r15lt : r15 < NB - 20 := by rw [hr15]; exact Nat.mod_lt _ (by omega)
    obtain ⟨M20, hM20⟩ : ∃ m, m = NB - 20 := ⟨_, rfl⟩
    have hMi : (NB : Int) - 20 = (M20 : Int) := by omega
    have hM0 : ¬ (M20 : Int) = 0 := by omega
    have htm2 : Int.tmod (kq : Int) (M20 : Int) = (r15 : Int) := by rw [hr15, hM20, Int.tmod_eq_emod_of_nonneg (by omega)]; push_cast; rfl
    obtain ⟨at_, hat⟩ : ∃ a, a = 20 + r15 := ⟨_, rfl⟩
    have hati : (20 : Int) + (r15 : Int) = (at_ : Int) := by omega
    have hatn : (at_ : Int) < (NB : Int) := by omega
    obtain ⟨z, hz1, hz2⟩ := xor_bit (B0.getD at_ 0) k7 k78
    obtain ⟨xb, hxb⟩ : ∃ x, x = (B0.getD at_ 0).toNat := ⟨_, rfl⟩
    rw [← hxb] at hz1
    have xb8 : xb < 256 := by rw [hxb]; exact (B0.getD at_ 0).toNat_lt
    have c1 : w10.cell? ⟨g22, at_, none⟩ = some (.int .u8 xb) := (hb22.cell at_).trans (by rw [hcur at_ (by omega), hxb])
    have f1 : w10.frozen? ⟨g22, at_, none⟩ = false := hb22.frozen at_
    have h2k : (2 : Int) ^ k7 % 256 = ((2 ^ k7 : Nat) : Int) := by
      have h1 : 2 ^ k7 < 256 := Nat.lt_of_lt_of_le (Nat.pow_lt_pow_right (by decide) k78) (by decide)
      have e : (2 : Int) ^ k7 = ((2 ^ k7 : Nat) : Int) := by push_cast; rfl
      rw [e]
      generalize 2 ^ k7 = t at h1
      omega
    rw [← h2k] at hz1
    have hka2 := KB.out.2
    have BB8 : Below w8.heap.size w8 (w10.setCell ⟨g22, at_, none⟩ (.int .u8 z.toNat)) := B810.setCell (by show w8.heap.size ≤ g22; omega) _
    have rd11 : RdS (w10.setCell ⟨g22, at_, none⟩ (.int .u8 z.toNat)) (some ⟨g22, 0, none⟩) (B0.set at_ z) := rds_set (fun i hi => (hb22.cell (0 + i)).trans (by rw [Nat.zero_add]; exact hcur i hi)) (by omega) hb22.lt
    have lset : (B0.set at_ z).length = NB := by rw [List.length_set]; exact hB0l
    have X11 := O9.out.2.2.1.calls BB8
    have B11 := O9.out.2.2.2.1.trans (BB8.mono zz9)
    have cl11 := O9.out.2.2.2.2.2.1.keep BB8
    obtain ⟨E4, hE4⟩ : ∃ E, ekG (getG magic n (B0.set at_ z)) = E := ⟨_, rfl⟩
    have hej : E4 = 4 ∨ 24 ≤ at_ := by
      rcases Nat.lt_or_ge at_ 24 with h | h
      · left
        have hg := back_sum (magic := magic) HK.out.1 (show x.2.length ≤ 4000000 by have := H.out.2.2.2.2.2.1; omega) (i := at_) (z := z) (by omega) h (by rw [← HK.out.2.1]; exact hz2)
        rw [← HK.out.2.1, H.out.2.2.2.2.2.1] at hg
        rw [← hE4, hg]
        rfl
      · exact .inr h
    have cG4 := Get_ek magic hm (n : Int) n O5.out.2.2.2.2.2.2 (some ⟨g22, 0, none⟩) NB c22 (B0.set at_ z) lset nc22 ⟨by omega, by unfold maxLen at c22m; omega⟩ (fun h => by cases h) E4 hE4 (w10.setCell ⟨g22, at_, none⟩ (.int .u8 z.toNat)) rd11 (Z.out.2.2.2.1.calls B11)
    have m2 : (w10.setCell ⟨g22, at_, none⟩ (.int .u8 z.toNat)).cell? ⟨w.heap.size, 1, none⟩ = some (.slice p n d) := (Z.out.1.calls B11).cell 1
    have O11 := Lib.hid (And.intro cG4 (And.intro X11 (And.intro B11 (And.intro cl11 (And.intro hej O9.out.2.2.2.2.2.2)))))
    clear cG4 X11 B11 cl11 rd11 lset BB8 B810 B10 hb22 hcur hB0l O9 o10 g10 hE4 hej hz2 h2k hg22
    have HA := Lib.hid (And.intro hr15 (And.intro hM20 (And.intro hat hxb))); clear hr15 hM20 hat hxb
    clear htm hnb0
    go_wp2_with fail
    refine O11.out.1.mono ?_
    rintro e w12 ⟨s12, pa12, pn12, pc12, y12, rfl, hb12⟩
    have al13 : Below w12.heap.size w12 (w12.alloc (.cells #[.string s12, .slice pa12 pn12 pc12] 32)) := ba (Below.refl _ _) _
    have X13 := (O11.out.2.1.calls hb12).calls al13
    have B13 := bt (bt O11.out.2.2.1 hb12) al13
    have cl13 := (O11.out.2.2.2.1.keep hb12).keep al13
    clear m2 c1 f1 hz1
    have m1 : (w12.alloc (.cells #[.string s12, .slice pa12 pn12 pc12] 32)).cell? ⟨w.heap.size, 0, none⟩ = some (.string S) := (Z.out.1.calls B13).cell 0
    have m2 : (w12.alloc (.cells #[.string s12, .slice pa12 pn12 pc12] 32)).cell? ⟨w.heap.size, 1, none⟩ = some (.slice p n d) := (Z.out.1.calls B13).cell 1
    have n1 : (w12.alloc (.cells #[.string s12, .slice pa12 pn12 pc12] 32)).cell? ⟨w6.heap.size, 0, none⟩ = some (.string S) := X13.cell 0
    have n2 : (w12.alloc (.cells #[.string s12, .slice pa12 pn12 pc12] 32)).cell? ⟨w6.heap.size, 1, none⟩ = some (.slice pa n pc) := X13.cell 1
    have Bw13 := bt Z.out.2.2.2.2.1 B13
    obtain ⟨P, hP⟩ : ∃ P, P = bstr x.2 := ⟨_, rfl⟩
    have st1 : (convert 23 9 (.slice p n d)).run Tryd.prog (w12.alloc (.cells #[.string s12, .slice pa12 pn12 pc12] 32)) = .ok (.string P) (w12.alloc (.cells #[.string s12, .slice pa12 pn12 pc12] 32)) := by rw [hP]; exact str_of (c := d) (H.out.2.1.calls Bw13) H.out.2.2.2.2.2.1
    have st2 : (convert 23 9 (.slice pa n pc)).run Tryd.prog (w12.alloc (.cells #[.string s12, .slice pa12 pn12 pc12] 32)) = .ok (.string P) (w12.alloc (.cells #[.string s12, .slice pa12 pn12 pc12] 32)) := by
      obtain ⟨a', c', e, h1, _⟩ := cl13
      injection e with e1 e2 e3
      rw [hP, e1]
      exact str_of (c := pc) h1 H.out.2.2.2.2.2.1
    have hej := O11.out.2.2.2.2.1
    have hei := O11.out.2.2.2.2.2
    have RB := Lib.hid Bw13
    clear X13 B13 cl13 al13 hb12 Bw13 hP
    rcases hei with rfl | h0
    · by_cases he4 : E4 = 4
      · subst he4
        clear hej
        go_wp2_with fail
        go_ret
        exact ⟨rfl, RB.out⟩
      · have h24 : (24 : Int) ≤ (at_ : Int) := by omega
        have he4i : ¬ (E4 : Int) = 4 := by omega
        clear hej he4
        go_wp2_with fail
        go_ret
        exact ⟨rfl, RB.out⟩
    · subst h0
      clear hNi
      by_cases he3 : E3 = 3
      · subst he3
        by_cases he4 : E4 = 4
        · subst he4
          clear hej
          go_wp2_with fail
          go_ret
          exact ⟨rfl, RB.out⟩
        · have h24 : (24 : Int) ≤ (at_ : Int) := by omega
          have he4i : ¬ (E4 : Int) = 4 := by omega
          clear hej he4
          go_wp2_with fail
          go_ret
          exact ⟨rfl, RB.out⟩
      · have he3i : ¬ (E3 : Int) = 3 := by omega
        by_cases he4 : E4 = 4
        · subst he4
          clear hej
          go_wp2_with fail
          go_ret
          exact ⟨rfl, RB.out⟩
        · have h24 : (24 : Int) ≤ (at_ : Int) := by omega
          have he4i : ¬ (E4 : Int) = 4 := by omega
          clear hej he4
          go_wp2_with fail
          go_ret
          exact ⟨rfl, RB.out⟩
end Go.Proofs.YticiipddilabfaaDoor

namespace Go.Proofs.YticiipddilabfaaDoor
open Go.ChangeShapes Go.WideShapes Go.ChangeAt Go.RowKit
open Go.ChangeMaps (open_string shut_string)
set_option linter.unusedVariables false

theorem Back_walk2 (w : World) (hL : Laid w) (a0 : Int) (w0 : (Lit.int .u32 a0).wf = true) (x1 : MsgT) (a1 : Option Addr) (c1 : Nat) (hC1 : CloV x1.2 (.slice a1 x1.2.length c1) w) (hcm1 : c1 ≤ 140737488355328) (hx1 : x1.1.length ≤ maxLen) (a2 : Option Addr) (l2 : List UInt8) (n2 c2 : Nat) (hl2 : l2.length = n2) (hc2 : n2 ≤ c2) (hm2 : c2 ≤ 140737488355328) (hno2 : a2 = none → n2 = 0 ∧ c2 = 0) (hR2 : RdS w a2 l2) (kk : Int) (w3 : (Lit.int .i64 kk).wf = true) :
    Calls Tryd.prog 4 #[.int .u32 a0, .agg #[.string (bstr x1.1), .slice a1 x1.2.length c1], .slice a2 n2 c2, .int .i64 kk] w fun e w' => e = .returned (.bool true) ∧ Below w.heap.size w w' := by
  obtain ⟨k, rfl, hk⟩ : ∃ n : Nat, a0 = n ∧ n < 4294967296 := by
    simp [Lit.wf, IntKind.min, IntKind.max, IntKind.signed, IntKind.bits] at w0
    exact ⟨a0.toNat, by omega, by omega⟩
  obtain ⟨a', c', e, r1, r2, r3, r4⟩ := hC1
  injection e with e1 e2 e3
  subst e1 e3
  exact Back_walk w hL k hk x1 (bstr x1.1) rfl a1 x1.2.length c1 rfl r1 r2 (by omega) r4 a2 n2 c2 l2 hl2 hc2 hm2 hno2 hR2 kk

set_option maxRecDepth 100000 in
theorem contractFrameBack (H : Type) (enc : TypeId × Value → H) (W : World) (base : Nat) (args : Array Value) (ds gs : List (DataW H)) (before : List MemPlace)
    (hval0 : ∀ (j : Nat) t v, Tryd.f4.params[j]? = some t → args[j]? = some v → Value.okWide Tryd.prog W .any base t v)
    (hW : DataW.Whole enc Tryd.prog Tryd.f4.params.toList Rows.frameBackSpec.vars false W args.toList ds gs before)
    (hwt0 : (DataW.weightsEach Tryd.prog (Tryd.f4.params.toList ++ (OpenSpec.ofChange Rows.frameBackSpec).bare.plain.varTypes Tryd.prog) (ds ++ gs)).all (· ≤ reachBytes) = true)
    (hL : Laid W) :
    Calls Tryd.prog 4 args W fun e W' => ∃ v, e = .returned v ∧ Rows.frameBackSpec.post enc Tryd.prog Tryd.f4 false true false false W args v W' := by
  have hval : ∀ (j : Nat) t v, Tryd.f4.params[j]? = some t → args[j]? = some v → Value.okWide Tryd.prog W .any base t v := hval0
  have hW' := hW
  obtain ⟨p, q, hA0, hV, rfl, hfz, hnd⟩ := hW
  have hA : DataW.TrodAll enc Tryd.prog W 0 (fun _ => true) true Tryd.f4.params.toList args.toList ds p := hA0
  rw [Tryd.params4] at hA hval hwt0
  obtain ⟨v0, vs0, d0, ds0, p0, q0, hargs, rfl, rfl, h0, r0⟩ := trodAll_cons hA
  obtain ⟨v1, vs1, d1, ds1, p1, q1, rfl, rfl, rfl, h1, r1⟩ := trodAll_cons r0
  obtain ⟨v2, vs2, d2, ds2, p2, q2, rfl, rfl, rfl, h2, r2⟩ := trodAll_cons r1
  obtain ⟨v3, vs3, d3, ds3, p3, q3, rfl, rfl, rfl, h3, r3⟩ := trodAll_cons r2
  obtain ⟨rfl, rfl, rfl⟩ := trodAll_nil r3
  obtain rfl : args = #[v0, v1, v2, v3] := by cases args; simp_all
  obtain ⟨rfl, rfl⟩ := trodVars_none hV
  have hwt : (DataW.weights Tryd.prog 22 d0).all (· ≤ reachBytes) = true ∧ (DataW.weights Tryd.prog 25 d1).all (· ≤ reachBytes) = true ∧ (DataW.weights Tryd.prog 23 d2).all (· ≤ reachBytes) = true ∧ (DataW.weights Tryd.prog 3 d3).all (· ≤ reachBytes) = true := by
    have h : (DataW.weightsEach Tryd.prog [22, 25, 23, 3] [d0, d1, d2, d3]).all (· ≤ reachBytes) = true := hwt0
    simp only [DataW.weightsEach, List.all_append, Bool.and_eq_true, List.append_nil] at h
    simpa only [and_assoc, List.all_nil, and_true] using h
  obtain ⟨wt0, wt1, wt2, wt3⟩ := hwt
  obtain ⟨a0, rfl, rfl, rfl, w0⟩ := open_int Tryd.underlying22 (hval 0 22 v0 rfl rfl) h0
  have k1 := h1
  have lt1 : ∀ x ∈ p1, x.block < W.heap.size := by obtain ⟨m, hm⟩ := k1; exact DataW.trod_lt m _ _ _ hm
  obtain ⟨x1, a1, c1, rfl, hC1, hc1, hl1⟩ := open_msg (hval 1 25 _ rfl rfl) h1 wt1
  have k2 := h2
  have lt2 : ∀ x ∈ p2, x.block < W.heap.size := by obtain ⟨m, hm⟩ := k2; exact DataW.trod_lt m _ _ _ hm
  obtain ⟨a2, n2, c2, l2, rfl, hn2, hc2, hm2, ho2, hr2⟩ := open_bytes Tryd.underlying23 Tryd.underlying5 (by kernel_rfl) (by kernel_rfl) (hval 2 23 _ rfl rfl) h2 wt2
  obtain ⟨a3, rfl, rfl, rfl, w3⟩ := open_int Tryd.underlying3 (hval 3 3 v3 rfl rfl) h3
  clear hA0 hval0
  refine (Back_walk2 W hL a0 w0 x1 a1 c1 hC1 hc1 hl1 a2 l2 n2 c2 hn2 hc2 hm2 ho2 hr2 a3 w3).mono fun e W' ⟨he, bel⟩ => ?_
  subst he
  exact ⟨_, rfl, _, _, _, [], _, [], hW', trodAll_mk1 (shut_bool Tryd.underlying4 _), (trodAll_cons_mk (shut_int Tryd.underlying22 w0) (trodAll_cons_mk (Below.trod laidOut (by kernel_rfl) (of_decide_eq_true (by kernel_rfl)) k1 bel lt1) (trodAll_cons_mk (Below.trod laidOut (by kernel_rfl) (of_decide_eq_true (by kernel_rfl)) k2 bel lt2) (trodAll_cons_mk (shut_int Tryd.underlying3 w3) trodAll_mk0)))), rfl, bel.frame _, fun h => by cases h⟩

theorem laid_metFrameBack (os : Os) : laidMet Tryd.prog Rows.frameBackRow.laid ((laidWorldF os).forCall (fun _ _ => 0) ⟨#[], #[.int .u32 0, .agg #[.string ByteArray.empty, .slice none 0 0], .slice none 0 0, .int .i64 0], []⟩).memory :=
  laidMet_of_run' 8 (by kernel_rfl) (by kernel_rfl)
theorem readsFrameBack (os : Os) {H : Type} (enc : TypeId × Value → H) : ∃ places, DataW.whole enc Tryd.prog ((laidWorldF os).forCall (fun _ _ => 0) ⟨#[], #[.int .u32 0, .agg #[.string ByteArray.empty, .slice none 0 0], .slice none 0 0, .int .i64 0], []⟩).memory Tryd.f4.params.toList Rows.frameBackSpec.vars false (#[.int .u32 0, .agg #[.string ByteArray.empty, .slice none 0 0], .slice none 0 0, .int .i64 0] : Array Value).toList 8 = some ([.lit (.int .u32 0), .agg [.lit (.string []), .nil], .nil, .lit (.int .i64 0)], [], places) :=
  ⟨[], by kernel_rfl⟩
set_option maxRecDepth 100000 in
theorem liftedFrameBack (os : Os) (started : os.Started) (H : Type) (enc : TypeId × Value → H) (F : Stop.Interp) :
    ReturnsInHanded {} Tryd.checked os 4 .any ((OpenSpec.ofChange Rows.frameBackSpec).preRow enc Tryd.prog Tryd.f4 Rows.frameBackRow.domain false Rows.frameBackRow.laid) (((OpenSpec.ofChange Rows.frameBackSpec).at F).post enc Tryd.prog Tryd.f4 false true false false) := by
  obtain ⟨places, hx⟩ := readsFrameBack os enc
  refine returnsInHanded_of_row (C := Tryd.checked) (s := OpenSpec.ofChange Rows.frameBackSpec) own started (by kernel_rfl) Tryd.func4
    (witness_row_at (enc := enc) (C := Tryd.checked) false (laidWorldF os) #[.int .u32 0, .agg #[.string ByteArray.empty, .slice none 0 0], .slice none 0 0, .int .i64 0] rfl (by kernel_rfl) (by kernel_rfl) (by kernel_rfl)
      (OpenSpec.preRow_of_cond 8 hx (by kernel_rfl) (fun k hk => by cases hk) (by kernel_rfl) (laid_metFrameBack os))) ?_
  intro W base args ds gs before hval hW _ _ hwt hL _ _
  exact contractFrameBack H enc W base args ds gs before hval hW hwt (LaidF_of hL)
theorem FrameBack_said : Rows.FrameBackSaid :=
  OpenClaim.holds_of_cond 4 Tryd.f4 rfl rfl rfl rfl rfl rfl rfl ⟨rfl, rfl, rfl, rfl, rfl⟩ rfl rfl rfl rfl rfl (by kernel_rfl) Tryd.func4 (by kernel_rfl)
    (of_decide_eq_true (by kernel_rfl)) (by unfold Func.isWrapper; first | (rw [if_pos (by decide +kernel)]; kernel_rfl) | (rw [if_neg (by decide +kernel)]; exact ⟨rfl, rfl⟩))
    (fun os started H enc _ F => by rw [OpenClaim.pre_eq_preRow]; exact liftedFrameBack os started H enc F)
theorem FrameBack_holds : Rows.FrameBackCardSaid :=
  Claim7.holds_tied_plain_at .later [] _ _ _ _ FrameBack_said (fun _ h => by cases h) (by kernel_rfl) (fun _ h => by cases h) frameBack_row_tie rfl ⟨rfl, rfl⟩ (by kernel_rfl) rfl (plain_of (by kernel_rfl) Tryd.func4 (by kernel_rfl)) (by kernel_rfl)
#print axioms FrameBack_holds
end Go.Proofs.YticiipddilabfaaDoor
