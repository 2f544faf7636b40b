/- RetargetHolds: its walk. -/
import Derived.Test.YtndockjflnicjaaRetE
import Derived.Test.YtndockjflnicjaaArgsP
import Derived.Test.YtndockjflnicjaaTargE
import Derived.Test.YtndockjflnicjaaTargLaw
namespace Go.Proofs.Ytndockjflnicjaa
open Go.RowKit
set_option linter.unusedVariables false
section
variable {P : Program} {w w' : World} {g : Nat} {t : TypeId} {cs : Array Value}
theorem wl_rows {ops : Array Oper} {rest : List Oper} {o : Oper} {a : Act} {Q : Exit → Act → World → Prop} (h : Blk w g t cs) (ty : TypeId) (x : Operand) (hgd : o.guard = none) (ho : o.op = .load ty x)
    (hx : a.eval x = .pointer (some ⟨g, 0, none⟩)) (fs : Array Field)
    (hu : P.underlying ty = some (.struct fs)) (hi : (P.info? ty).map (·.size) = some cs.size)
    (k : wpList P ops Q rest (a.put o.dst (.agg cs)) w) : wpList P ops Q (o :: rest) a w :=
  wpList_load_row hgd ty x ho g hx t cs (0, 0) _ h hu rfl hi k
end
set_option maxRecDepth 100000 in
set_option maxHeartbeats 8000000 in
theorem RHolds_core (lim l b t ti bi fi : Nat) (e f cc : Int) (s : Bool) (iv sp fu ix op ht : Int) (a : Option Addr) (n c : Nat) (hs : Array Value) (iH : (Try.prog.info? 29).map (·.size) = some hs.size) (H66 : Hid (hs[66]? = some (.int .u32 bi)))
    (HS : Hid ((∀ w, Calls Try.prog 9 #[.agg (pcells lim iv sp fu ix op a n c), .int .i64 ht, .agg hs, .int .u32 fi] w fun e w' => e = .returned (.int .u32 b) ∧ Below w.heap.size w w') ∧ (∀ w, Calls Try.prog 11 #[.agg (pcells lim iv sp fu ix op a n c)] w fun e w' => e = .returned (.bool s) ∧ Below w.heap.size w w') ∧
      lim < 4294967296 ∧ expR lim = (l, e) ∧ b < 4294967296 ∧ expR b = (t, f) ∧ CmpIs t l cc))
    (HX : Hid ((s = false → b = lim) ∧ (s = true → ¬ iv = 0) ∧ (s = true → (ht ≤ 0 ∨ ¬ Int.tmod ht iv = 0) → b = bi) ∧ (s = true → ¬ ht ≤ 0 → Int.tmod ht iv = 0 → e = 0 ∧ f = 0 ∧ cc ≤ 0))) (w : World) :
    Calls Try.prog 3 #[.agg (pcells lim iv sp fu ix op a n c), .int .i64 ht, .agg hs, .int .u32 fi] w fun e w' => e = .returned (.bool true) ∧ Below w.heap.size w w' := by
  have iP : (Try.prog.info? 25).map (·.size) = some (pcells lim iv sp fu ix op a n c).size := by kernel_rfl
  go_enter Try.func3, Try.ntmps3
  go_wp2_with fail
  refine (Awake13 _).mono ?_
  rintro e w1 ⟨rfl, hb⟩
  have q_p : Blk w1 (w.heap.size) 25 (pcells lim iv sp fu ix op a n c) := ((Blk.newAt _ _ (pcells lim iv sp fu ix op a n c) rfl).alloc _).calls hb
  have q_h : Blk w1 (w.heap.size + 1) 29 (hs) := (Blk.newAt _ _ (hs) (by simp)).calls hb
  have bb := bt (ba (ba (Below.refl w.heap.size w) _) _) hb
  replace l_p := q_p.lt
  replace l_h := q_h.lt
  clear hb
  have p6 := blk_get q_p 6 _ rfl
  by_cases hn : 200 < n
  · have hn' : decide ((200 : Int) < (n : Int)) = true := decide_eq_true (by omega)
    go_wp2
    go_ret
    exact ⟨rfl, bb⟩
  · have hn' : decide ((200 : Int) < (n : Int)) = false := decide_eq_false (by omega)
    go_wp2_with (first | with_reducible refine wl_rows q_p _ _ rfl rfl rfl _ Try.underlying25 iP ?_ | with_reducible refine wl_rows q_h _ _ rfl rfl rfl _ Try.underlying29 iH ?_)
    refine (HS.out.1 _).mono ?_
    rintro e w2 ⟨rfl, hb⟩
    replace q_p : Blk w2 (w.heap.size) 25 (pcells lim iv sp fu ix op a n c) := q_p.calls hb
    replace q_h : Blk w2 (w.heap.size + 1) 29 (hs) := q_h.calls hb
    replace bb := bt bb hb
    replace l_p := q_p.lt
    replace l_h := q_h.lt
    clear hb
    clear p6 hn'
    have p0 := blk_get q_p 0 _ rfl
    go_wp2_with fail
    refine (Expand_any lim l e HS.out.2.2.1 HS.out.2.2.2.1 _).mono ?_
    rintro e w3 ⟨rfl, hb⟩
    simp only [uval]
    replace q_p : Blk w3 (w.heap.size) 25 (pcells lim iv sp fu ix op a n c) := q_p.calls hb
    replace q_h : Blk w3 (w.heap.size + 1) 29 (hs) := q_h.calls hb
    replace bb := bt bb hb
    replace l_p := q_p.lt
    replace l_h := q_h.lt
    clear hb
    clear p0
    go_wp2_with fail
    refine (Expand_any b t f HS.out.2.2.2.2.1 HS.out.2.2.2.2.2.1 _).mono ?_
    rintro e w4 ⟨rfl, hb⟩
    simp only [uval]
    replace q_p : Blk w4 (w.heap.size) 25 (pcells lim iv sp fu ix op a n c) := (q_p.alloc _).calls hb
    replace q_h : Blk w4 (w.heap.size + 1) 29 (hs) := (q_h.alloc _).calls hb
    have q_l : Blk w4 (w3.heap.size) 34 (ucells l) := (Blk.newAt w3 _ (ucells l) rfl).calls hb
    replace bb := bt (ba bb _) hb
    replace l_p := q_p.lt
    replace l_h := q_h.lt
    replace l_l := q_l.lt
    clear hb
    go_wp2_with (first | with_reducible refine wl_rows (q_p.alloc _) _ _ rfl rfl rfl _ Try.underlying25 iP ?_ | with_reducible refine wl_rows (q_h.alloc _) _ _ rfl rfl rfl _ Try.underlying29 iH ?_)
    refine (HS.out.2.1 _).mono ?_
    rintro e w5 ⟨rfl, hb⟩
    replace q_p : Blk w5 (w.heap.size) 25 (pcells lim iv sp fu ix op a n c) := (q_p.alloc _).calls hb
    replace q_h : Blk w5 (w.heap.size + 1) 29 (hs) := (q_h.alloc _).calls hb
    replace q_l : Blk w5 (w3.heap.size) 34 (ucells l) := (q_l.alloc _).calls hb
    have q_t : Blk w5 (w4.heap.size) 34 (ucells t) := (Blk.newAt w4 _ (ucells t) rfl).calls hb
    replace bb := bt (ba bb _) hb
    replace l_p := q_p.lt
    replace l_h := q_h.lt
    replace l_l := q_l.lt
    replace l_t := q_t.lt
    clear hb
    cases s
    · have hx := HX.out.1 (by trivial)
      subst hx
      have p0 := blk_get q_p 0 _ rfl
      go_wp2
      go_ret
      exact ⟨rfl, bb⟩
    · have p1 := blk_get q_p 1 _ rfl
      have p66 := blk_get q_h 66 _ H66.out
      have hi := HX.out.2.1 (by trivial)
      by_cases hh : ht ≤ 0
      · have hh' : decide (ht ≤ 0) = true := decide_eq_true hh
        have hx := HX.out.2.2.1 (by trivial) (.inl hh)
        subst hx
        go_wp2
        go_ret
        exact ⟨rfl, bb⟩
      · have hh' : decide (ht ≤ 0) = false := decide_eq_false hh
        obtain ⟨m, hm⟩ : ∃ m, Int.tmod ht iv = m := ⟨_, rfl⟩
        by_cases hm0 : m = 0
        · have hx := HX.out.2.2.2 (by trivial) (by omega) (by rw [hm]; exact hm0)
          subst hm0
          obtain ⟨rfl, rfl, hc⟩ := hx
          have hc' : decide (cc ≤ 0) = true := decide_eq_true hc
          have c_t := cl4 q_t
          have c_l := cl4 q_l
          go_wp2_with fail
          refine (Cmp_any t l cc _ HS.out.2.2.2.2.2.2).mono ?_
          rintro e w6 ⟨rfl, hb⟩
          clear c_t c_l
          replace q_p : Blk w6 (w.heap.size) 25 (pcells lim iv sp fu ix op a n c) := q_p.calls hb
          replace q_h : Blk w6 (w.heap.size + 1) 29 (hs) := q_h.calls hb
          replace q_l : Blk w6 (w3.heap.size) 34 (ucells l) := q_l.calls hb
          replace q_t : Blk w6 (w4.heap.size) 34 (ucells t) := q_t.calls hb
          replace bb := bt bb hb
          replace l_p := q_p.lt
          replace l_h := q_h.lt
          replace l_l := q_l.lt
          replace l_t := q_t.lt
          clear hb
          go_wp2
          go_ret
          exact ⟨rfl, bb⟩
        · have hm0' : (m != 0) = true := by simpa using hm0
          have hx := HX.out.2.2.1 (by trivial) (.inr (by rw [hm]; exact hm0))
          subst hx
          go_wp2
          go_ret
          exact ⟨rfl, bb⟩
theorem scale_fact (bi k d lim : Nat) (hl : lim < 4294967296) (he : (expR lim).2 = 0) : ∃ y, expR (scaleR bi k d lim) = (y, 0) ∧ y ≤ (expR lim).1 ∧ scaleR bi k d lim < 4294967296 := by
  have hlim : expR lim = ((expR lim).1, 0) := by rw [← he]
  obtain ⟨g1, g2⟩ := expR_good lim _ hlim
  unfold scaleR
  by_cases h : (expR bi).2 ≠ 0 ∨ k = 0 ∨ d = 0 ∨ (expR lim).2 ≠ 0
  · rw [if_pos h]
    exact ⟨_, hlim, Nat.le_refl _, hl⟩
  · rw [if_neg h]
    have hm : scaleT bi k d lim ≠ 0 ∧ scaleT bi k d lim ≤ (expR lim).1 := by
      unfold scaleT
      generalize (expR bi).1 * k / d = o
      generalize (expR lim).1 = l at *
      split <;> omega
    obtain ⟨y, h1, h2, _, _, _, h6⟩ := back_any (scaleT bi k d lim) hm.1 (by omega)
    exact ⟨y, h1, by omega, h6⟩
theorem next_lt (lim : Nat) (iv sp fu ix op : Int) (n : Nat) (h : Int) (ti bi fi : Nat) (hl : lim < 4294967296) (hb : bi < 4294967296) : nextR lim iv sp fu ix op n h ti bi fi < 4294967296 := by
  unfold nextR
  by_cases hs : saneR lim iv sp fu ix op n = false
  · rw [if_pos hs]; exact hl
  · rw [if_neg hs]
    by_cases hh : h ≤ 0 ∨ Int.tmod h iv ≠ 0
    · rw [if_pos hh]; exact hb
    · rw [if_neg hh]
      obtain ⟨_, _, _, h3⟩ := scale_fact bi (clampR ((ti : Int) - (fi : Int)) sp).toNat sp.toNat lim hl (sane_facts lim iv sp fu ix op n (by simpa using hs)).2.2.1
      exact h3
theorem RHolds_walk (lim : Nat) (iv sp fu ix op : Int) (a : Option Addr) (n c : Nat) (hl : lim < 4294967296) (hiv : (Lit.int .i64 iv).wf = true) (ht : Int) (hht : (Lit.int .i64 ht).wf = true) (hs : Array Value) (ti bi : Nat) (h65 : hs[65]? = some (.int .u32 ti)) (h66 : hs[66]? = some (.int .u32 bi)) (hti : ti < 4294967296) (hbi : bi < 4294967296) (hsz : hs.size = 68) (fi : Int) (hfi : (Lit.int .u32 fi).wf = true) (w : World) :
    Calls Try.prog 3 #[.agg (pcells lim iv sp fu ix op a n c), .int .i64 ht, .agg hs, .int .u32 fi] w fun e w' => e = .returned (.bool true) ∧ Below w.heap.size w w' := by
  obtain ⟨fi, rfl, kf⟩ := u32_natW hfi
  obtain ⟨b, hb⟩ : ∃ b, nextR lim iv sp fu ix op n ht ti bi fi = b := ⟨_, rfl⟩
  obtain ⟨s, hsn⟩ : ∃ s, saneR lim iv sp fu ix op n = s := ⟨_, rfl⟩
  have hblt : b < 4294967296 := by rw [← hb]; exact next_lt lim iv sp fu ix op n ht ti bi fi hl hbi
  have c1 := fun w => Next_any lim bi ti fi iv sp fu ix op ht a n c hs h65 h66 hl hbi hti kf b hb w
  have c2 := fun w => Sane_any lim iv sp fu ix op a n c hl s hsn w
  obtain ⟨cc, hcc⟩ := cmp_ex (expR b).1 (expR lim).1 (expR_lt b) (expR_lt lim)
  refine RHolds_core lim (expR lim).1 b (expR b).1 ti bi fi (expR lim).2 (expR b).2 cc s iv sp fu ix op ht a n c hs (by rw [hsz]; kernel_rfl) (Lib.hid h66) ⟨c1, c2, hl, rfl, hblt, rfl, hcc⟩ ⟨?_, ?_, ?_, ?_⟩ w
  · intro h; subst h; rw [← hb]; unfold nextR; rw [if_pos hsn]
  · intro h; subst h; have := (sane_facts lim iv sp fu ix op n hsn).1; omega
  · intro h hh; subst h; rw [← hb]; unfold nextR; rw [if_neg (by rw [hsn]; decide), if_pos hh]
  · intro h hh hm
    subst h
    have h3 := (sane_facts lim iv sp fu ix op n hsn).2.2.1
    have hbs : b = scaleR bi (clampR ((ti : Int) - (fi : Int)) sp).toNat sp.toNat lim := by
      rw [← hb]; unfold nextR; rw [if_neg (by rw [hsn]; decide), if_neg (by intro k; rcases k with k | k; exact hh k; exact k hm)]
    obtain ⟨y, e1, e2, _⟩ := scale_fact bi (clampR ((ti : Int) - (fi : Int)) sp).toNat sp.toNat lim hl h3
    rw [← hbs] at e1
    refine ⟨h3, by rw [e1], ?_⟩
    have f := cmp_facts hcc
    rw [e1] at f
    dsimp only at f
    omega
end Go.Proofs.Ytndockjflnicjaa
