/- RetargetFold: its walk. -/
import Derived.Test.YtlkjcijbmfgjiaaRetG
namespace Go.Proofs.Ytlkjcijbmfgjiaa
open Go.RowKit
set_option linter.unusedVariables false
set_option maxRecDepth 100000 in
set_option maxHeartbeats 8000000 in
theorem RFold_core (lim l b t s_ ti bi fi nl m4 m8 : Nat) (e g f c1 c2 c3 : Int) (s b4 b8 : Bool) (iv sp fu ix op : Int) (a : Option Addr) (n c : Nat) (hs : Array Value) (iH : (Try.prog.info? 57).map (·.size) = some hs.size) (H66 : Hid (hs[66]? = some (.int .u32 bi)))
    (HS : Hid ((∀ w, Calls Try.prog 30 #[.agg (pcells lim iv sp fu ix op a n c)] w fun e w' => e = .returned (.bool s) ∧ Below w.heap.size w w') ∧ (∀ w, Calls Try.prog 29 #[.agg (pcells lim iv sp fu ix op a n c), .int .i64 iv, .agg hs, .int .u32 fi] w fun e w' => e = .returned (.int .u32 b) ∧ Below w.heap.size w w') ∧
      bi < 4294967296 ∧ expR bi = (t, e) ∧ lim < 4294967296 ∧ expR lim = (l, g) ∧ b < 4294967296 ∧ expR b = (s_, f)))
    (HL : Hid (∀ w, Calls Try.prog 33 #[uval t] w fun e w' => e = .returned (.int .i64 nl) ∧ Below w.heap.size w w'))
    (HC : Hid (CmpIs t l c1 ∧ (nl ≤ 200 → CmpIs s_ m4 c2) ∧ (nl ≤ 200 → CmpIs m8 t c3) ∧ (nl ≤ 200 → ProdIs t 4 m4 b4) ∧ (nl ≤ 200 → ProdIs s_ 8 m8 b8)))
    (HX : Hid (s = true → c1 ≤ 0 → nl ≤ 200 → 40 ≤ nl → f = 0 ∧ c2 ≤ 0 ∧ 0 ≤ c3)) (w : World) :
    Calls Try.prog 9 #[.agg (pcells lim iv sp fu ix op a n c), .agg hs, .int .u32 fi] w fun e w' => e = .returned (.bool true) ∧ Below w.heap.size w w' := by
  have iP : (Try.prog.info? 55).map (·.size) = some (pcells lim iv sp fu ix op a n c).size := by kernel_rfl
  go_enter Try.func9, Try.ntmps9
  go_wp2_with fail
  refine (Awake13 _).mono ?_
  rintro e w1 ⟨rfl, hb⟩
  have q_p : Blk w1 (w.heap.size) 55 (pcells lim iv sp fu ix op a n c) := ((Blk.newAt _ _ (pcells lim iv sp fu ix op a n c) rfl).alloc _).calls hb
  have q_h : Blk w1 (w.heap.size + 1) 57 (hs) := (Blk.newAt _ _ (hs) (by simp)).calls hb
  have bb := bt (ba (ba (Below.refl w.heap.size w) _) _) hb
  replace l_p := q_p.lt
  replace l_h := q_h.lt
  clear hb
  have p0 := blk_get q_p 0 _ rfl; have p1 := blk_get q_p 1 _ rfl; have p2 := blk_get q_p 2 _ rfl; have p3 := blk_get q_p 3 _ rfl; have p4 := blk_get q_p 4 _ rfl; have p5 := blk_get q_p 5 _ rfl; have p6 := blk_get q_p 6 _ rfl
  by_cases hn : 200 < n
  · have hn' : decide ((200 : Int) < (n : Int)) = true := decide_eq_true (by omega)
    go_wp2
    go_ret
    exact ⟨rfl, bb⟩
  · have hn' : decide ((200 : Int) < (n : Int)) = false := decide_eq_false (by omega)
    go_wp2_with fail
    refine (HS.out.1 _).mono ?_
    rintro e w2 ⟨rfl, hb⟩
    replace q_p : Blk w2 (w.heap.size) 55 (pcells lim iv sp fu ix op a n c) := q_p.calls hb
    replace q_h : Blk w2 (w.heap.size + 1) 57 (hs) := q_h.calls hb
    replace bb := bt bb hb
    replace l_p := q_p.lt
    replace l_h := q_h.lt
    clear hb
    clear p0 p1 p2 p3 p4 p5 p6 hn'
    cases s
    · skip
      go_wp2
      go_ret
      exact ⟨rfl, bb⟩
    · have p66 := blk_get q_h 66 _ H66.out
      go_wp2_with fail
      refine (Expand_any bi t e HS.out.2.2.1 HS.out.2.2.2.1 _).mono ?_
      rintro e w3 ⟨rfl, hb⟩
      simp only [uval]
      replace q_p : Blk w3 (w.heap.size) 55 (pcells lim iv sp fu ix op a n c) := q_p.calls hb
      replace q_h : Blk w3 (w.heap.size + 1) 57 (hs) := q_h.calls hb
      replace bb := bt bb hb
      replace l_p := q_p.lt
      replace l_h := q_h.lt
      clear hb
      clear p66
      have p0 := blk_get q_p 0 _ rfl
      go_wp2_with fail
      refine (Expand_any lim l g HS.out.2.2.2.2.1 HS.out.2.2.2.2.2.1 _).mono ?_
      rintro e w4 ⟨rfl, hb⟩
      simp only [uval]
      replace q_p : Blk w4 (w.heap.size) 55 (pcells lim iv sp fu ix op a n c) := (q_p.alloc _).calls hb
      replace q_h : Blk w4 (w.heap.size + 1) 57 (hs) := (q_h.alloc _).calls hb
      have q_t : Blk w4 (w3.heap.size) 26 (ucells t) := (Blk.newAt w3 _ (ucells t) rfl).calls hb
      replace bb := bt (ba bb _) hb
      replace l_p := q_p.lt
      replace l_h := q_h.lt
      replace l_t := q_t.lt
      clear hb
      clear p0
      by_cases he : e = 0
      · subst he
        have c_t := cl4 q_t
        go_wp2_with fail
        refine (Cmp_any t l c1 _ HC.out.1).mono ?_
        rintro e w5 ⟨rfl, hb⟩
        clear c_t
        replace q_p : Blk w5 (w.heap.size) 55 (pcells lim iv sp fu ix op a n c) := (q_p.alloc _).calls hb
        replace q_h : Blk w5 (w.heap.size + 1) 57 (hs) := (q_h.alloc _).calls hb
        replace q_t : Blk w5 (w3.heap.size) 26 (ucells t) := (q_t.alloc _).calls hb
        have q_l : Blk w5 (w4.heap.size) 26 (ucells l) := (Blk.newAt w4 _ (ucells l) rfl).calls hb
        replace bb := bt (ba bb _) hb
        replace l_p := q_p.lt
        replace l_h := q_h.lt
        replace l_t := q_t.lt
        replace l_l := q_l.lt
        clear hb
        by_cases hc : 0 < c1
        · have hc' : decide ((0 : Int) < c1) = true := decide_eq_true hc
          go_wp2
          go_ret
          exact ⟨rfl, bb⟩
        · have hc' : decide ((0 : Int) < c1) = false := decide_eq_false hc
          have c_t := cl4 q_t
          go_wp2_with fail
          refine (HL.out _).mono ?_
          rintro e w6 ⟨rfl, hb⟩
          clear c_t
          replace q_p : Blk w6 (w.heap.size) 55 (pcells lim iv sp fu ix op a n c) := q_p.calls hb
          replace q_h : Blk w6 (w.heap.size + 1) 57 (hs) := q_h.calls hb
          replace q_t : Blk w6 (w3.heap.size) 26 (ucells t) := q_t.calls hb
          replace q_l : Blk w6 (w4.heap.size) 26 (ucells l) := q_l.calls hb
          replace bb := bt bb hb
          replace l_p := q_p.lt
          replace l_h := q_h.lt
          replace l_t := q_t.lt
          replace l_l := q_l.lt
          clear hb
          by_cases hd : 200 < nl
          · have hd' : decide ((200 : Int) < (nl : Int)) = true := decide_eq_true (by omega)
            go_wp2
            go_ret
            exact ⟨rfl, bb⟩
          · have hd' : decide ((200 : Int) < (nl : Int)) = false := decide_eq_false (by omega)
            have c_t := cl4 q_t
            go_wp2_with fail
            refine (HL.out _).mono ?_
            rintro e w7 ⟨rfl, hb⟩
            clear c_t
            replace q_p : Blk w7 (w.heap.size) 55 (pcells lim iv sp fu ix op a n c) := q_p.calls hb
            replace q_h : Blk w7 (w.heap.size + 1) 57 (hs) := q_h.calls hb
            replace q_t : Blk w7 (w3.heap.size) 26 (ucells t) := q_t.calls hb
            replace q_l : Blk w7 (w4.heap.size) 26 (ucells l) := q_l.calls hb
            replace bb := bt bb hb
            replace l_p := q_p.lt
            replace l_h := q_h.lt
            replace l_t := q_t.lt
            replace l_l := q_l.lt
            clear hb
            by_cases hh : nl < 40
            · have hh' : decide ((nl : Int) < 40) = true := decide_eq_true (by omega)
              go_wp2
              go_ret
              exact ⟨rfl, bb⟩
            · have hh' : decide ((nl : Int) < 40) = false := decide_eq_false (by omega)
              have hz := HX.out (by trivial) (by omega) (by omega) (by omega)
              obtain ⟨rfl, hz1, hz2⟩ := hz
              have z1 : decide (c2 ≤ 0) = true := decide_eq_true hz1
              have z2 : decide (0 ≤ c3) = true := decide_eq_true hz2
              clear hz1 hz2
              have p1 := blk_get q_p 1 _ rfl
              go_wp2_with (first | with_reducible refine wl_rows q_p _ _ rfl rfl rfl _ Try.underlying55 iP ?_ | with_reducible refine wl_rows q_h _ _ rfl rfl rfl _ Try.underlying57 iH ?_)
              refine (HS.out.2.1 _).mono ?_
              rintro e w8 ⟨rfl, hb⟩
              replace q_p : Blk w8 (w.heap.size) 55 (pcells lim iv sp fu ix op a n c) := q_p.calls hb
              replace q_h : Blk w8 (w.heap.size + 1) 57 (hs) := q_h.calls hb
              replace q_t : Blk w8 (w3.heap.size) 26 (ucells t) := q_t.calls hb
              replace q_l : Blk w8 (w4.heap.size) 26 (ucells l) := q_l.calls hb
              replace bb := bt bb hb
              replace l_p := q_p.lt
              replace l_h := q_h.lt
              replace l_t := q_t.lt
              replace l_l := q_l.lt
              clear hb
              clear p1 hc' hd' hh'
              go_wp2_with fail
              refine (Expand_any b s_ 0 HS.out.2.2.2.2.2.2.1 HS.out.2.2.2.2.2.2.2 _).mono ?_
              rintro e w9 ⟨rfl, hb⟩
              simp only [uval]
              replace q_p : Blk w9 (w.heap.size) 55 (pcells lim iv sp fu ix op a n c) := q_p.calls hb
              replace q_h : Blk w9 (w.heap.size + 1) 57 (hs) := q_h.calls hb
              replace q_t : Blk w9 (w3.heap.size) 26 (ucells t) := q_t.calls hb
              replace q_l : Blk w9 (w4.heap.size) 26 (ucells l) := q_l.calls hb
              replace bb := bt bb hb
              replace l_p := q_p.lt
              replace l_h := q_h.lt
              replace l_t := q_t.lt
              replace l_l := q_l.lt
              clear hb
              have c_t := cl4 q_t
              go_wp2_with fail
              refine (MulU_any t 4 m4 b4 _ (HC.out.2.2.2.1 (by omega))).mono ?_
              rintro e w10 ⟨rfl, hb⟩
              simp only [uval]
              clear c_t
              replace q_p : Blk w10 (w.heap.size) 55 (pcells lim iv sp fu ix op a n c) := (q_p.alloc _).calls hb
              replace q_h : Blk w10 (w.heap.size + 1) 57 (hs) := (q_h.alloc _).calls hb
              replace q_t : Blk w10 (w3.heap.size) 26 (ucells t) := (q_t.alloc _).calls hb
              replace q_l : Blk w10 (w4.heap.size) 26 (ucells l) := (q_l.alloc _).calls hb
              have q_s : Blk w10 (w9.heap.size) 26 (ucells s_) := (Blk.newAt w9 _ (ucells s_) rfl).calls hb
              replace bb := bt (ba bb _) hb
              replace l_p := q_p.lt
              replace l_h := q_h.lt
              replace l_t := q_t.lt
              replace l_l := q_l.lt
              replace l_s := q_s.lt
              clear hb
              have c_s := cl4 q_s
              go_wp2_with fail
              refine (MulU_any s_ 8 m8 b8 _ (HC.out.2.2.2.2 (by omega))).mono ?_
              rintro e w11 ⟨rfl, hb⟩
              simp only [uval]
              clear c_s
              replace q_p : Blk w11 (w.heap.size) 55 (pcells lim iv sp fu ix op a n c) := (q_p.alloc _).calls hb
              replace q_h : Blk w11 (w.heap.size + 1) 57 (hs) := (q_h.alloc _).calls hb
              replace q_t : Blk w11 (w3.heap.size) 26 (ucells t) := (q_t.alloc _).calls hb
              replace q_l : Blk w11 (w4.heap.size) 26 (ucells l) := (q_l.alloc _).calls hb
              replace q_s : Blk w11 (w9.heap.size) 26 (ucells s_) := (q_s.alloc _).calls hb
              have q_m : Blk w11 (w10.heap.size) 26 (ucells m4) := (Blk.newAt w10 _ (ucells m4) rfl).calls hb
              replace bb := bt (ba bb _) hb
              replace l_p := q_p.lt
              replace l_h := q_h.lt
              replace l_t := q_t.lt
              replace l_l := q_l.lt
              replace l_s := q_s.lt
              replace l_m := q_m.lt
              clear hb
              have c_s := cl4 q_s
              have c_m := cl4 q_m
              go_wp2_with fail
              refine (Cmp_any s_ m4 c2 _ (HC.out.2.1 (by omega))).mono ?_
              rintro e w12 ⟨rfl, hb⟩
              clear c_s c_m
              replace q_p : Blk w12 (w.heap.size) 55 (pcells lim iv sp fu ix op a n c) := (q_p.alloc _).calls hb
              replace q_h : Blk w12 (w.heap.size + 1) 57 (hs) := (q_h.alloc _).calls hb
              replace q_t : Blk w12 (w3.heap.size) 26 (ucells t) := (q_t.alloc _).calls hb
              replace q_l : Blk w12 (w4.heap.size) 26 (ucells l) := (q_l.alloc _).calls hb
              replace q_s : Blk w12 (w9.heap.size) 26 (ucells s_) := (q_s.alloc _).calls hb
              replace q_m : Blk w12 (w10.heap.size) 26 (ucells m4) := (q_m.alloc _).calls hb
              have q_e : Blk w12 (w11.heap.size) 26 (ucells m8) := (Blk.newAt w11 _ (ucells m8) rfl).calls hb
              replace bb := bt (ba bb _) hb
              replace l_p := q_p.lt
              replace l_h := q_h.lt
              replace l_t := q_t.lt
              replace l_l := q_l.lt
              replace l_s := q_s.lt
              replace l_m := q_m.lt
              replace l_e := q_e.lt
              clear hb
              have c_e := cl4 q_e
              have c_t := cl4 q_t
              go_wp2_with fail
              refine (Cmp_any m8 t c3 _ (HC.out.2.2.1 (by omega))).mono ?_
              rintro e w13 ⟨rfl, hb⟩
              clear c_e c_t
              replace q_p : Blk w13 (w.heap.size) 55 (pcells lim iv sp fu ix op a n c) := q_p.calls hb
              replace q_h : Blk w13 (w.heap.size + 1) 57 (hs) := q_h.calls hb
              replace q_t : Blk w13 (w3.heap.size) 26 (ucells t) := q_t.calls hb
              replace q_l : Blk w13 (w4.heap.size) 26 (ucells l) := q_l.calls hb
              replace q_s : Blk w13 (w9.heap.size) 26 (ucells s_) := q_s.calls hb
              replace q_m : Blk w13 (w10.heap.size) 26 (ucells m4) := q_m.calls hb
              replace q_e : Blk w13 (w11.heap.size) 26 (ucells m8) := q_e.calls hb
              replace bb := bt bb hb
              replace l_p := q_p.lt
              replace l_h := q_h.lt
              replace l_t := q_t.lt
              replace l_l := q_l.lt
              replace l_s := q_s.lt
              replace l_m := q_m.lt
              replace l_e := q_e.lt
              clear hb
              go_wp2
              go_ret
              exact ⟨rfl, bb⟩
      · have he' : (e != 0) = true := by simpa using he
        go_wp2
        go_ret
        exact ⟨rfl, (ba bb _)⟩
end Go.Proofs.Ytlkjcijbmfgjiaa
