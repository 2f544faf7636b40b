/- target.Scale. -/
import Derived.Test.YtndockjflnicjaaShare
import Derived.Test.YtndockjflnicjaaTargB
import Derived.Deep.DeepCutAuto
namespace Go.Proofs.Ytndockjflnicjaa
open Go.RowKit
set_option linter.unusedVariables false
/-- The bits of a target b that is k times as hard to miss in d, within l. -/
def scaleT (b k d l : Nat) : Nat := if T ≤ (expR b).1 * k / d ∨ (expR b).1 * k / d = 0 ∨ (expR l).1 < (expR b).1 * k / d then (expR l).1 else (expR b).1 * k / d
def scaleR (b k d l : Nat) : Nat := if (expR b).2 ≠ 0 ∨ k = 0 ∨ d = 0 ∨ (expR l).2 ≠ 0 then l else shrR (scaleT b k d l)
set_option maxRecDepth 100000 in
set_option maxHeartbeats 4000000 in
theorem Scale_core (b k d l t u o x : Nat) (e g c : Int) (fits z : Bool)
    (HS : Hid (b < 4294967296 ∧ expR b = (t, e) ∧ l < 4294967296 ∧ expR l = (u, g) ∧ (¬ k = 0 → ¬ d = 0 → ∀ w, Calls Try.prog 35 #[uval t, .int .u64 k, .int .u64 d] w fun e w' => e = .returned (.tuple #[uval o, .bool fits]) ∧ Below w.heap.size w w') ∧ (fits = true → o < T) ∧ decide (o = 0) = z ∧ (fits = true → CmpIs o u c)))
    (HX : Hid ((e ≠ 0 → x = l) ∧ (k = 0 → x = l) ∧ (d = 0 → x = l) ∧ (e = 0 → ¬ k = 0 → ¬ d = 0 → g ≠ 0 → x = l) ∧ (e = 0 → ¬ k = 0 → ¬ d = 0 → g = 0 →
      ((fits = false ∨ z = true ∨ 0 < c) → ∀ w, Calls Try.prog 36 #[uval u] w fun q w' => q = .returned (.int .u32 x) ∧ Below w.heap.size w w') ∧ (fits = true → z = false → ¬ 0 < c → ∀ w, Calls Try.prog 36 #[uval o] w fun q w' => q = .returned (.int .u32 x) ∧ Below w.heap.size w w')))) (w : World) :
    Calls Try.prog 23 #[.int .u32 b, .int .u64 k, .int .u64 d, .int .u32 l] w fun e w' => e = .returned (.int .u32 x) ∧ Below w.heap.size w w' := by
  go_enter Try.func23, Try.ntmps23
  go_wp2_with fail
  refine (Expand_any b t e HS.out.1 HS.out.2.1 _).mono ?_
  rintro e w1 ⟨rfl, hb⟩
  simp only [uval]
  have bb := bt (Below.refl w.heap.size w) hb
  clear hb
  by_cases he : e = 0
  · subst he
    by_cases hk : k = 0
    · subst hk
      have hx := HX.out.2.1 (by trivial)
      subst hx
      go_wp2
      go_ret
      exact ⟨rfl, (ba bb _)⟩
    · have hk' : ((k : Int) == 0) = false := by simp; omega
      by_cases hd : d = 0
      · subst hd
        have hx := HX.out.2.2.1 (by trivial)
        subst hx
        go_wp2
        go_ret
        exact ⟨rfl, (ba bb _)⟩
      · have hd' : ((d : Int) == 0) = false := by simp; omega
        go_wp2_with fail
        refine (Expand_any l u g HS.out.2.2.1 HS.out.2.2.2.1 _).mono ?_
        rintro e w2 ⟨rfl, hb⟩
        simp only [uval]
        have q_t : Blk w2 (w1.heap.size) 34 (ucells t) := (Blk.newAt w1 _ (ucells t) rfl).calls hb
        replace bb := bt (ba bb _) hb
        replace l_t := q_t.lt
        clear hb
        clear hk' hd'
        by_cases hg : g = 0
        · subst hg
          have c_t := cl4 q_t
          go_wp2_with fail
          refine (HS.out.2.2.2.2.1 hk hd _).mono ?_
          rintro e w3 ⟨rfl, hb⟩
          simp only [uval]
          clear c_t
          replace q_t : Blk w3 (w1.heap.size) 34 (ucells t) := (q_t.alloc _).calls hb
          have q_u : Blk w3 (w2.heap.size) 34 (ucells u) := (Blk.newAt w2 _ (ucells u) rfl).calls hb
          replace bb := bt (ba bb _) hb
          replace l_t := q_t.lt
          replace l_u := q_u.lt
          clear hb
          have HE := HX.out.2.2.2.2 (by trivial) hk hd (by trivial)
          go_upto_region 8 with fail
          have gg0 : w.heap.size ≤ w3.heap.size := bb.size
          change Code.wp _ _ _ _ (w3.alloc (Obj.cells (ucells o) 34))
          replace q_t : Blk (w3.alloc (Obj.cells (ucells o) 34)) (w1.heap.size) 34 (ucells t) := (q_t.alloc _)
          replace q_u : Blk (w3.alloc (Obj.cells (ucells o) 34)) (w2.heap.size) 34 (ucells u) := (q_u.alloc _)
          have q_o : Blk (w3.alloc (Obj.cells (ucells o) 34)) (w3.heap.size) 34 (ucells o) := (Blk.newAt w3 _ (ucells o) rfl)
          replace bb : Below w.heap.size w (w3.alloc (Obj.cells (ucells o) 34)) := (ba bb _)
          generalize (w3.alloc (Obj.cells (ucells o) 34)) = w4 at *
          replace l_t := q_t.lt
          replace l_u := q_u.lt
          replace l_o := q_o.lt
          have gg : w.heap.size ≤ w3.heap.size := gg0
          cases fits
          · have HF := HE.1 (.inl rfl)
            have c_u := cl4 q_u
            have b_o := bb
            have g_o := gg
            have c_o := cl4 q_o
            have k0 := q_o.frozen 0; have k1 := q_o.frozen 1; have k2 := q_o.frozen 2; have k3 := q_o.frozen 3
            go_wp2_with fail
            refine (HF _).mono ?_
            rintro e wz ⟨rfl, hb⟩
            have bz := bt (belowFill (n := u) b_o g_o) hb
            clear hb c_u c_o k0 k1 k2 k3
            go_wp2
            go_ret
            exact ⟨rfl, bz⟩
          · have q0 := fun w => eqU0 o z (HS.out.2.2.2.2.2.1 (by trivial)) HS.out.2.2.2.2.2.2.1 w
            cases z
            · skip
              have c_o := cl4 q_o
              have c_u := cl4 q_u
              go_wp2_with fail
              refine (Cmp_any o u c _ (HS.out.2.2.2.2.2.2.2 (by trivial))).mono ?_
              rintro e w5 ⟨rfl, hb⟩
              clear c_o c_u
              replace q_t : Blk w5 (w1.heap.size) 34 (ucells t) := q_t.calls hb
              replace q_u : Blk w5 (w2.heap.size) 34 (ucells u) := q_u.calls hb
              replace q_o : Blk w5 (w3.heap.size) 34 (ucells o) := q_o.calls hb
              replace bb := bt bb hb
              replace l_t := q_t.lt
              replace l_u := q_u.lt
              replace l_o := q_o.lt
              clear hb
              clear q0
              by_cases hc : 0 < c
              · have hc' : decide ((0 : Int) < c) = true := decide_eq_true hc
                have HF := HE.1 (.inr (.inr hc))
                have c_u := cl4 q_u
                have b_o := bb
                have g_o := gg
                have c_o := cl4 q_o
                have k0 := q_o.frozen 0; have k1 := q_o.frozen 1; have k2 := q_o.frozen 2; have k3 := q_o.frozen 3
                go_wp2_with fail
                refine (HF _).mono ?_
                rintro e wz ⟨rfl, hb⟩
                have bz := bt (belowFill (n := u) b_o g_o) hb
                clear hb c_u c_o k0 k1 k2 k3
                go_wp2
                go_ret
                exact ⟨rfl, bz⟩
              · have hc' : decide ((0 : Int) < c) = false := decide_eq_false hc
                have HF := HE.2 (by trivial) (by trivial) (by omega)
                have c_o := cl4 q_o
                go_wp2_with fail
                refine (HF _).mono ?_
                rintro e wz ⟨rfl, hb⟩
                have bz := bt bb hb
                clear hb c_o
                go_wp2
                go_ret
                exact ⟨rfl, bz⟩
            · have HF := HE.1 (.inr (.inl rfl))
              have c_u := cl4 q_u
              have b_o := bb
              have g_o := gg
              have c_o := cl4 q_o
              have k0 := q_o.frozen 0; have k1 := q_o.frozen 1; have k2 := q_o.frozen 2; have k3 := q_o.frozen 3
              go_wp2_with fail
              refine (HF _).mono ?_
              rintro e wz ⟨rfl, hb⟩
              have bz := bt (belowFill (n := u) b_o g_o) hb
              clear hb c_u c_o k0 k1 k2 k3
              go_wp2
              go_ret
              exact ⟨rfl, bz⟩
        · have hg' : (g != 0) = true := by simpa using hg
          have hx := HX.out.2.2.2.1 (by trivial) hk hd hg
          subst hx
          go_wp2
          go_ret
          exact ⟨rfl, (ba bb _)⟩
  · have he' : (e != 0) = true := by simpa using he
    have hx := HX.out.1 he
    subst hx
    go_wp2
    go_ret
    exact ⟨rfl, (ba bb _)⟩
theorem Scale_any (b k d l x : Nat) (hb : b < 4294967296) (hk : k < W64) (hd : d < W64) (hl : l < 4294967296) (hx : scaleR b k d l = x) (w : World) :
    Calls Try.prog 23 #[.int .u32 b, .int .u64 k, .int .u64 d, .int .u32 l] w fun e w' => e = .returned (.int .u32 x) ∧ Below w.heap.size w w' := by
  obtain ⟨t, e, h⟩ : ∃ t e, expR b = (t, e) := ⟨_, _, rfl⟩
  obtain ⟨u, g, h'⟩ : ∃ u g, expR l = (u, g) := ⟨_, _, rfl⟩
  have ht : t < T := by have := expR_lt b; rw [h] at this; exact this
  have hu : u < T := by have := expR_lt l; rw [h'] at this; exact this
  unfold scaleR scaleT at hx
  rw [h, h'] at hx
  dsimp only at hx
  obtain ⟨o, ho⟩ : ∃ o, o = t * k / d := ⟨_, rfl⟩
  rw [← ho] at hx
  have hc : ∃ c, decide (o < T) = true → CmpIs o u c := by
    by_cases h : o < T
    · obtain ⟨c, hc⟩ := cmp_ex o u h hu
      exact ⟨c, fun _ => hc⟩
    · exact ⟨0, fun k => absurd (of_decide_eq_true k) h⟩
  obtain ⟨c, hc⟩ := hc
  refine Scale_core b k d l t u o x e g c (decide (o < T)) _ ⟨hb, h, hl, h', ?_, of_decide_eq_true, rfl, hc⟩ ⟨?_, ?_, ?_, ?_, ?_⟩ w
  · intro h1 h2 w
    rw [ho]
    exact Share_any t k d ht hk (by omega) hd w
  · intro he; rw [if_pos (.inl he)] at hx; exact hx.symm
  · intro he; rw [if_pos (.inr (.inl he))] at hx; exact hx.symm
  · intro he; rw [if_pos (.inr (.inr (.inl he)))] at hx; exact hx.symm
  · intro he h1 h2 hg; rw [if_pos (.inr (.inr (.inr hg)))] at hx; exact hx.symm
  · intro he h1 h2 hg
    rw [if_neg (by intro hh; rcases hh with hh | hh | hh | hh; exact hh he; exact h1 hh; exact h2 hh; exact hh hg)] at hx
    constructor
    · intro hh
      have : T ≤ o ∨ o = 0 ∨ u < o := by
        by_cases h3 : o < T
        · have f := cmp_facts (hc (decide_eq_true h3))
          rcases hh with hh | hh | hh
          · exact absurd h3 (of_decide_eq_false hh)
          · exact .inr (.inl (of_decide_eq_true hh))
          · exact .inr (.inr (f.2.1.1 hh))
        · exact .inl (Nat.le_of_not_lt h3)
      rw [if_pos this] at hx
      exact fun w => Shrink_any u x hu hx w
    · intro h3 h4 h5
      have h3 := of_decide_eq_true h3
      have f := cmp_facts (hc (decide_eq_true h3))
      rw [if_neg (by intro hh; rcases hh with hh | hh | hh; omega; exact of_decide_eq_false h4 hh; exact h5 (f.2.1.2 hh))] at hx
      exact fun w => Shrink_any o x h3 hx w
end Go.Proofs.Ytndockjflnicjaa
