/- florinref05: the document's Scale. -/
import Derived.Test.YtndockjflnicjaaIsC
import Derived.Test.YtndockjflnicjaaRefM
import Derived.Test.YtndockjflnicjaaRefDiv
import Derived.Test.YtndockjflnicjaaScale
namespace Go.Proofs.Ytndockjflnicjaa
open Go.RowKit
set_option linter.unusedVariables false
set_option maxRecDepth 100000 in
set_option maxHeartbeats 8000000 in
theorem RScale_core (b k d l t u x y a b1 c c2 q r : Nat) (e g cc : Int) (lost l2 ov z : Bool)
    (HE : Hid (b < 4294967296 ∧ expR b = (t, e) ∧ l < 4294967296 ∧ expR l = (u, g))) (HD : Hid (d < W64)) (HC : Hid (¬ d = 0 → DivIs t d x y true ∧ ProdIs x k a lost ∧ ProdIs y k b1 l2 ∧ DivIs b1 d c c2 true ∧ SumIs a c q ov))
    (HZ : Hid (CmpIs q u cc ∧ (∀ w, (Op.equalIn 10000 63 (.agg #[.int .u64 (lim q 0), .int .u64 (lim q 1), .int .u64 (lim q 2), .int .u64 (lim q 3)]) (.agg #[.int .u64 0, .int .u64 0, .int .u64 0, .int .u64 0])).run Try.prog w = .ok z w)))
    (HX : Hid ((e ≠ 0 ∨ g ≠ 0 ∨ k = 0 ∨ d = 0 → r = l) ∧ (e = 0 → g = 0 → ¬ k = 0 → ¬ d = 0 → ((lost = true ∨ ov = true ∨ z = true ∨ 0 < cc) → ∀ w, Calls Try.prog 44 #[uval u] w fun q w' => q = .returned (.int .u32 r) ∧ Below w.heap.size w w') ∧ (lost = false → ov = false → z = false → cc ≤ 0 → ∀ w, Calls Try.prog 44 #[uval q] w fun q w' => q = .returned (.int .u32 r) ∧ Below w.heap.size w w')))) (w : World) :
    Calls Try.prog 34 #[.int .u32 b, .int .u64 k, .int .u64 d, .int .u32 l] w fun e w' => e = .returned (.int .u32 r) ∧ Below w.heap.size w w' := by
  go_enter Try.func34, Try.ntmps34
  go_wp2_with fail
  refine (RExpand_any b t e HE.out.1 HE.out.2.1 _).mono ?_
  rintro e w1 ⟨rfl, hb⟩
  simp only [uval]
  have bb := bt (Below.refl w.heap.size w) hb
  clear hb
  go_wp2_with fail
  refine (RExpand_any l u g HE.out.2.2.1 HE.out.2.2.2 _).mono ?_
  rintro e w2 ⟨rfl, hb⟩
  simp only [uval]
  have q_t : Blk w2 (w1.heap.size) 63 (ucells t) := (Blk.newAt w1 _ (ucells t) rfl).calls hb
  replace bb := bt (ba bb _) hb
  replace l_t := q_t.lt
  clear hb
  by_cases he : e = 0
  · subst he
    by_cases hg : g = 0
    · subst hg
      by_cases hk : k = 0
      · subst hk
        have hx := HX.out.1 (by simp)
        subst hx
        go_wp2
        go_ret
        exact ⟨rfl, (ba bb _)⟩
      · have hk' : ((k : Int) == 0) = false := by simp; omega
        by_cases hd : d = 0
        · subst hd
          have hx := HX.out.1 (by simp)
          subst hx
          go_wp2
          go_ret
          exact ⟨rfl, (ba bb _)⟩
        · have hd' : ((d : Int) == 0) = false := by simp; omega
          obtain ⟨f1, f2, f3, f4, f5⟩ := HC.out hd
          have HF := Lib.hid (And.intro f1 (And.intro f2 (And.intro f3 (And.intro f4 f5)))); clear f1 f2 f3 f4 f5
          go_wp2_with fail
          refine (ROf_any d _ HD.out).mono ?_
          rintro e w3 ⟨rfl, hb⟩
          simp only [uval]
          replace q_t : Blk w3 (w1.heap.size) 63 (ucells t) := (q_t.alloc _).calls hb
          have q_u : Blk w3 (w2.heap.size) 63 (ucells u) := (Blk.newAt w2 _ (ucells u) rfl).calls hb
          replace bb := bt (ba bb _) hb
          replace l_t := q_t.lt
          replace l_u := q_u.lt
          clear hb
          clear hk' hd'
          have c_t := cl4 q_t
          go_wp2_with fail
          refine (RDiv_is t d x y true _ HF.out.1).mono ?_
          rintro e w4 ⟨rfl, hb⟩
          simp only [uval]
          clear c_t
          replace q_t : Blk w4 (w1.heap.size) 63 (ucells t) := (q_t.alloc _).calls hb
          replace q_u : Blk w4 (w2.heap.size) 63 (ucells u) := (q_u.alloc _).calls hb
          have q_d : Blk w4 (w3.heap.size) 63 (ucells d) := (Blk.newAt w3 _ (ucells d) rfl).calls hb
          replace bb := bt (ba bb _) hb
          replace l_t := q_t.lt
          replace l_u := q_u.lt
          replace l_d := q_d.lt
          clear hb
          go_wp2_with fail
          refine (RMul_any x k a lost _ HF.out.2.1).mono ?_
          rintro e w5 ⟨rfl, hb⟩
          simp only [uval]
          replace q_t : Blk w5 (w1.heap.size) 63 (ucells t) := ((q_t.alloc _).alloc _).calls hb
          replace q_u : Blk w5 (w2.heap.size) 63 (ucells u) := ((q_u.alloc _).alloc _).calls hb
          replace q_d : Blk w5 (w3.heap.size) 63 (ucells d) := ((q_d.alloc _).alloc _).calls hb
          have q_x : Blk w5 (w4.heap.size) 63 (ucells x) := ((Blk.newAt w4 _ (ucells x) rfl).alloc _).calls hb
          have q_y : Blk w5 (w4.heap.size + 1) 63 (ucells y) := (Blk.newAt (w4.alloc (Obj.cells (ucells x) 63)) _ (ucells y) (by simp)).calls hb
          replace bb := bt (ba (ba bb _) _) hb
          replace l_t := q_t.lt
          replace l_u := q_u.lt
          replace l_d := q_d.lt
          replace l_x := q_x.lt
          replace l_y := q_y.lt
          clear hb
          have c_y := cl4 q_y
          go_wp2_with fail
          refine (RMul_any y k b1 l2 _ HF.out.2.2.1).mono ?_
          rintro e w6 ⟨rfl, hb⟩
          simp only [uval]
          clear c_y
          replace q_t : Blk w6 (w1.heap.size) 63 (ucells t) := (q_t.alloc _).calls hb
          replace q_u : Blk w6 (w2.heap.size) 63 (ucells u) := (q_u.alloc _).calls hb
          replace q_d : Blk w6 (w3.heap.size) 63 (ucells d) := (q_d.alloc _).calls hb
          replace q_x : Blk w6 (w4.heap.size) 63 (ucells x) := (q_x.alloc _).calls hb
          replace q_y : Blk w6 (w4.heap.size + 1) 63 (ucells y) := (q_y.alloc _).calls hb
          have q_a : Blk w6 (w5.heap.size) 63 (ucells a) := (Blk.newAt w5 _ (ucells a) rfl).calls hb
          replace bb := bt (ba bb _) hb
          replace l_t := q_t.lt
          replace l_u := q_u.lt
          replace l_d := q_d.lt
          replace l_x := q_x.lt
          replace l_y := q_y.lt
          replace l_a := q_a.lt
          clear hb
          have c_d := cl4 q_d
          go_wp2_with fail
          refine (RDiv_is b1 d c c2 true _ HF.out.2.2.2.1).mono ?_
          rintro e w7 ⟨rfl, hb⟩
          simp only [uval]
          clear c_d
          replace q_t : Blk w7 (w1.heap.size) 63 (ucells t) := (q_t.alloc _).calls hb
          replace q_u : Blk w7 (w2.heap.size) 63 (ucells u) := (q_u.alloc _).calls hb
          replace q_d : Blk w7 (w3.heap.size) 63 (ucells d) := (q_d.alloc _).calls hb
          replace q_x : Blk w7 (w4.heap.size) 63 (ucells x) := (q_x.alloc _).calls hb
          replace q_y : Blk w7 (w4.heap.size + 1) 63 (ucells y) := (q_y.alloc _).calls hb
          replace q_a : Blk w7 (w5.heap.size) 63 (ucells a) := (q_a.alloc _).calls hb
          have q_b1 : Blk w7 (w6.heap.size) 63 (ucells b1) := (Blk.newAt w6 _ (ucells b1) rfl).calls hb
          replace bb := bt (ba bb _) hb
          replace l_t := q_t.lt
          replace l_u := q_u.lt
          replace l_d := q_d.lt
          replace l_x := q_x.lt
          replace l_y := q_y.lt
          replace l_a := q_a.lt
          replace l_b1 := q_b1.lt
          clear hb
          have c_a := cl4 q_a
          go_wp2_with fail
          refine (RAdd_any a c q ov _ HF.out.2.2.2.2).mono ?_
          rintro e w8 ⟨rfl, hb⟩
          simp only [uval]
          clear c_a
          replace q_t : Blk w8 (w1.heap.size) 63 (ucells t) := ((q_t.alloc _).alloc _).calls hb
          replace q_u : Blk w8 (w2.heap.size) 63 (ucells u) := ((q_u.alloc _).alloc _).calls hb
          replace q_d : Blk w8 (w3.heap.size) 63 (ucells d) := ((q_d.alloc _).alloc _).calls hb
          replace q_x : Blk w8 (w4.heap.size) 63 (ucells x) := ((q_x.alloc _).alloc _).calls hb
          replace q_y : Blk w8 (w4.heap.size + 1) 63 (ucells y) := ((q_y.alloc _).alloc _).calls hb
          replace q_a : Blk w8 (w5.heap.size) 63 (ucells a) := ((q_a.alloc _).alloc _).calls hb
          replace q_b1 : Blk w8 (w6.heap.size) 63 (ucells b1) := ((q_b1.alloc _).alloc _).calls hb
          have q_c : Blk w8 (w7.heap.size) 63 (ucells c) := ((Blk.newAt w7 _ (ucells c) rfl).alloc _).calls hb
          have q_z2 : Blk w8 (w7.heap.size + 1) 63 (ucells c2) := (Blk.newAt (w7.alloc (Obj.cells (ucells c) 63)) _ (ucells c2) (by simp)).calls hb
          replace bb := bt (ba (ba bb _) _) hb
          replace l_t := q_t.lt
          replace l_u := q_u.lt
          replace l_d := q_d.lt
          replace l_x := q_x.lt
          replace l_y := q_y.lt
          replace l_a := q_a.lt
          replace l_b1 := q_b1.lt
          replace l_c := q_c.lt
          replace l_z2 := q_z2.lt
          clear hb
          go_upto_region 11 with fail
          have gg0 : w.heap.size ≤ w8.heap.size := bb.size
          change Code.wp _ _ _ _ (w8.alloc (Obj.cells (ucells q) 63))
          replace q_t : Blk (w8.alloc (Obj.cells (ucells q) 63)) (w1.heap.size) 63 (ucells t) := (q_t.alloc _)
          replace q_u : Blk (w8.alloc (Obj.cells (ucells q) 63)) (w2.heap.size) 63 (ucells u) := (q_u.alloc _)
          replace q_d : Blk (w8.alloc (Obj.cells (ucells q) 63)) (w3.heap.size) 63 (ucells d) := (q_d.alloc _)
          replace q_x : Blk (w8.alloc (Obj.cells (ucells q) 63)) (w4.heap.size) 63 (ucells x) := (q_x.alloc _)
          replace q_y : Blk (w8.alloc (Obj.cells (ucells q) 63)) (w4.heap.size + 1) 63 (ucells y) := (q_y.alloc _)
          replace q_a : Blk (w8.alloc (Obj.cells (ucells q) 63)) (w5.heap.size) 63 (ucells a) := (q_a.alloc _)
          replace q_b1 : Blk (w8.alloc (Obj.cells (ucells q) 63)) (w6.heap.size) 63 (ucells b1) := (q_b1.alloc _)
          replace q_c : Blk (w8.alloc (Obj.cells (ucells q) 63)) (w7.heap.size) 63 (ucells c) := (q_c.alloc _)
          replace q_z2 : Blk (w8.alloc (Obj.cells (ucells q) 63)) (w7.heap.size + 1) 63 (ucells c2) := (q_z2.alloc _)
          have q_q : Blk (w8.alloc (Obj.cells (ucells q) 63)) (w8.heap.size) 63 (ucells q) := (Blk.newAt w8 _ (ucells q) rfl)
          replace bb : Below w.heap.size w (w8.alloc (Obj.cells (ucells q) 63)) := (ba bb _)
          generalize (w8.alloc (Obj.cells (ucells q) 63)) = w9 at *
          replace l_t := q_t.lt
          replace l_u := q_u.lt
          replace l_d := q_d.lt
          replace l_x := q_x.lt
          replace l_y := q_y.lt
          replace l_a := q_a.lt
          replace l_b1 := q_b1.lt
          replace l_c := q_c.lt
          replace l_z2 := q_z2.lt
          replace l_q := q_q.lt
          have gg : w.heap.size ≤ w8.heap.size := gg0
          have q0 := fun w => HZ.out.2 w
          have HE := HX.out.2 (by trivial) (by trivial) hk hd
          cases lost
          · cases ov
            · cases z
              · skip
                have c_q := cl4 q_q
                have c_u := cl4 q_u
                go_wp2_with fail
                refine (RCmp_any q u cc _ HZ.out.1).mono ?_
                rintro e w10 ⟨rfl, hb⟩
                clear c_q c_u
                replace q_t : Blk w10 (w1.heap.size) 63 (ucells t) := q_t.calls hb
                replace q_u : Blk w10 (w2.heap.size) 63 (ucells u) := q_u.calls hb
                replace q_d : Blk w10 (w3.heap.size) 63 (ucells d) := q_d.calls hb
                replace q_x : Blk w10 (w4.heap.size) 63 (ucells x) := q_x.calls hb
                replace q_y : Blk w10 (w4.heap.size + 1) 63 (ucells y) := q_y.calls hb
                replace q_a : Blk w10 (w5.heap.size) 63 (ucells a) := q_a.calls hb
                replace q_b1 : Blk w10 (w6.heap.size) 63 (ucells b1) := q_b1.calls hb
                replace q_c : Blk w10 (w7.heap.size) 63 (ucells c) := q_c.calls hb
                replace q_z2 : Blk w10 (w7.heap.size + 1) 63 (ucells c2) := q_z2.calls hb
                replace q_q : Blk w10 (w8.heap.size) 63 (ucells q) := q_q.calls hb
                replace bb := bt bb hb
                replace l_t := q_t.lt
                replace l_u := q_u.lt
                replace l_d := q_d.lt
                replace l_x := q_x.lt
                replace l_y := q_y.lt
                replace l_a := q_a.lt
                replace l_b1 := q_b1.lt
                replace l_c := q_c.lt
                replace l_z2 := q_z2.lt
                replace l_q := q_q.lt
                clear hb
                clear q0
                by_cases hc : 0 < cc
                · have hc' : decide ((0 : Int) < cc) = true := decide_eq_true hc
                  have HE2 := HE.1 (.inr (.inr (.inr hc)))
                  have c_u := cl4 q_u
                  have c_q := cl4 q_q
                  have k0 := q_q.frozen 0; have k1 := q_q.frozen 1; have k2 := q_q.frozen 2; have k3 := q_q.frozen 3
                  go_wp2_with fail
                  refine (HE2 _).mono ?_
                  rintro e wz ⟨rfl, hb⟩
                  have bz := bt (belowFill (n := u) bb gg) hb
                  clear hb c_u c_q k0 k1 k2 k3
                  go_wp2
                  go_ret
                  exact ⟨rfl, bz⟩
                · have hc' : decide ((0 : Int) < cc) = false := decide_eq_false hc
                  have HE2 := HE.2 (by trivial) (by trivial) (by trivial) (by omega)
                  have c_q := cl4 q_q
                  go_wp2_with fail
                  refine (HE2 _).mono ?_
                  rintro e wz ⟨rfl, hb⟩
                  have bz := bt bb hb
                  clear hb c_q
                  go_wp2
                  go_ret
                  exact ⟨rfl, bz⟩
              · have HE2 := HE.1 (.inr (.inr (.inl rfl)))
                have c_u := cl4 q_u
                have c_q := cl4 q_q
                have k0 := q_q.frozen 0; have k1 := q_q.frozen 1; have k2 := q_q.frozen 2; have k3 := q_q.frozen 3
                go_wp2_with fail
                refine (HE2 _).mono ?_
                rintro e wz ⟨rfl, hb⟩
                have bz := bt (belowFill (n := u) bb gg) hb
                clear hb c_u c_q k0 k1 k2 k3
                go_wp2
                go_ret
                exact ⟨rfl, bz⟩
            · have HE2 := HE.1 (.inr (.inl rfl))
              have c_u := cl4 q_u
              have c_q := cl4 q_q
              have k0 := q_q.frozen 0; have k1 := q_q.frozen 1; have k2 := q_q.frozen 2; have k3 := q_q.frozen 3
              go_wp2_with fail
              refine (HE2 _).mono ?_
              rintro e wz ⟨rfl, hb⟩
              have bz := bt (belowFill (n := u) bb gg) hb
              clear hb c_u c_q k0 k1 k2 k3
              go_wp2
              go_ret
              exact ⟨rfl, bz⟩
          · have HE2 := HE.1 (.inl rfl)
            have c_u := cl4 q_u
            have c_q := cl4 q_q
            have k0 := q_q.frozen 0; have k1 := q_q.frozen 1; have k2 := q_q.frozen 2; have k3 := q_q.frozen 3
            go_wp2_with fail
            refine (HE2 _).mono ?_
            rintro e wz ⟨rfl, hb⟩
            have bz := bt (belowFill (n := u) bb gg) hb
            clear hb c_u c_q k0 k1 k2 k3
            go_wp2
            go_ret
            exact ⟨rfl, bz⟩
    · have hg' : (g != 0) = true := by simpa using hg
      have hx := HX.out.1 (.inr (.inl hg))
      subst hx
      go_wp2
      go_ret
      exact ⟨rfl, (ba bb _)⟩
  · have he' : (e != 0) = true := by simpa using he
    have hx := HX.out.1 (.inl he)
    subst hx
    go_wp2
    go_ret
    exact ⟨rfl, (ba bb _)⟩
end Go.Proofs.Ytndockjflnicjaa
