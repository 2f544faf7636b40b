/- target.Meets. -/
import Derived.Test.YtlkjcijbmfgjiaaTargI
import Derived.Test.YtlkjcijbmfgjiaaHashB
namespace Go.Proofs.Ytlkjcijbmfgjiaa
open Go.RowKit
set_option linter.unusedVariables false
/-- What target.Meets answers for a hash of the number h. -/
def meetsR (h a l : Nat) : Int := if (expR a).2 ≠ 0 then 7 else if (expR l).2 ≠ 0 ∨ (expR l).1 < (expR a).1 then 7 else if (expR a).1 < h then 6 else 0
set_option maxRecDepth 100000 in
set_option maxHeartbeats 2000000 in
theorem Meets_core (k : List UInt8) (HK : Hid (k.length = 32)) (iH : (Try.prog.info? 48).map (·.size) = some (u8cells k).size) (a l t u : Nat) (e g c1 c2 x : Int)
    (HS : Hid (a < 4294967296 ∧ expR a = (t, e) ∧ l < 4294967296 ∧ expR l = (u, g) ∧ CmpIs t u c1 ∧ CmpIs (leN k 32) t c2))
    (HX : Hid ((e ≠ 0 → x = 7) ∧ (e = 0 → g ≠ 0 → x = 7) ∧ (e = 0 → g = 0 → 0 < c1 → x = 7) ∧ (e = 0 → g = 0 → ¬ 0 < c1 → 0 < c2 → x = 6) ∧ (e = 0 → g = 0 → ¬ 0 < c1 → ¬ 0 < c2 → x = 0))) (w : World) :
    Calls Try.prog 25 #[.agg (u8cells k), .int .u32 a, .int .u32 l] w fun e w' => e = .returned (.int .i64 x) ∧ Below w.heap.size w w' := by
  go_enter Try.func25, Try.ntmps25
  go_wp2_with fail
  refine (Expand_any a t e HS.out.1 HS.out.2.1 _).mono ?_
  rintro e w1 ⟨rfl, hb⟩
  simp only [uval]
  have q_h : Blk w1 (w.heap.size) 48 (u8cells k) := (Blk.newAt _ _ (u8cells k) rfl).calls hb
  have bb := bt (ba (Below.refl w.heap.size w) _) hb
  replace l_h := q_h.lt
  clear hb
  by_cases he : e = 0
  · subst he
    go_wp2_with fail
    refine (Expand_any l u g HS.out.2.2.1 HS.out.2.2.2.1 _).mono ?_
    rintro e w2 ⟨rfl, hb⟩
    simp only [uval]
    replace q_h : Blk w2 (w.heap.size) 48 (u8cells k) := (q_h.alloc _).calls hb
    have q_t : Blk w2 (w1.heap.size) 26 (ucells t) := (Blk.newAt w1 _ (ucells t) rfl).calls hb
    replace bb := bt (ba bb _) hb
    replace l_h := q_h.lt
    replace l_t := q_t.lt
    clear hb
    by_cases hg : g = 0
    · subst hg
      have c_t := cl4 q_t
      go_wp2_with fail
      refine (Cmp_any t u c1 _ HS.out.2.2.2.2.1).mono ?_
      rintro e w3 ⟨rfl, hb⟩
      simp only [uval]
      clear c_t
      replace q_h : Blk w3 (w.heap.size) 48 (u8cells k) := (q_h.alloc _).calls hb
      replace q_t : Blk w3 (w1.heap.size) 26 (ucells t) := (q_t.alloc _).calls hb
      have q_u : Blk w3 (w2.heap.size) 26 (ucells u) := (Blk.newAt w2 _ (ucells u) rfl).calls hb
      replace bb := bt (ba bb _) hb
      replace l_h := q_h.lt
      replace l_t := q_t.lt
      replace l_u := q_u.lt
      clear hb
      by_cases hc : 0 < c1
      · have hc' : decide ((0 : Int) < c1) = true := decide_eq_true hc
        have hx := HX.out.2.2.1 (by trivial) (by trivial) hc
        subst hx
        go_wp2
        go_ret
        exact ⟨rfl, bb⟩
      · have hc' : decide ((0 : Int) < c1) = false := decide_eq_false hc
        go_wp2_with fail
        clear hc'
        try simp only [List.append_eq, List.cons_append, List.nil_append]
        by_cases hd : 0 < c2
        · have hd' : decide ((0 : Int) < c2) = true := decide_eq_true hd
          have hx := HX.out.2.2.2.1 (by trivial) (by trivial) (by omega) (by omega)
          subst hx
          refine wp_region_g [some 30, some 31, some 32, some 33, some 34] (FL [
              EqV (.agg (u8cells k)),
              EqV (.agg (ucells (leN k 32))),
              EqV (.agg (ucells t)),
              EqV (.int .i64 c2),
              EqV (.bool true)
            ]) (FL_keeps ⟨keeps_eq _, keeps_eq _, keeps_eq _, keeps_eq _, keeps_eq _, trivial⟩) (by kernel_rfl) rfl rfl rfl rfl ⟨
            .inr ⟨gk0 rfl, fun A w' γ hb hF hs => g_eq (op_load 48 (.tmp 3) rfl ((hs.2 3 rfl).trans rfl) (q_h.below hb l_h) Try.underlying48 (iH))⟩,
            .inr ⟨gk0 rfl, fun A w' γ hb hF hs => g_eq (op_call 27 #[.agg (u8cells k)] (exec_call _ 27 #[.agg (u8cells k)] rfl rfl (args1 ((hs.1 0 rfl 30 rfl).trans (hF 0 rfl))) Try.func27 rfl rfl) (Number_any k HK.out _))⟩,
            .inr ⟨gk0 rfl, fun A w' γ hb hF hs => g_eq (op_load 26 (.tmp 7) rfl ((hs.2 7 rfl).trans rfl) (q_t.below hb l_t) Try.underlying26 (i26 _))⟩,
            .inr ⟨gk0 rfl, fun A w' γ hb hF hs => g_eq (op_call 17 #[.agg (ucells (leN k 32)), .agg (ucells t)] (exec_call _ 17 #[.agg (ucells (leN k 32)), .agg (ucells t)] rfl rfl (args2 ((hs.1 1 rfl 31 rfl).trans (hF 1 rfl)) ((hs.1 2 rfl 32 rfl).trans (hF 2 rfl))) Try.func17 rfl rfl) (Cmp_any (leN k 32) t c2 _ HS.out.2.2.2.2.2))⟩,
            .inr ⟨gk0 rfl, fun A w' γ hb hF hs => g_eq (op_gtr 3 _ (.tmp 33) (.const (.int .i64 0)) .i64 (c2) (0) true rfl ((hs.1 3 rfl 33 rfl).trans (hF 3 rfl)) rfl (hd'))⟩,
            trivial⟩ ?_
          intro γ w' hb hF
          have bz := bt bb hb
          have ez : γ 4 = .bool true := hF 4 (by decide)
          simp only [Fr, if_true, Act.put, List.setIfInBounds_toArray, List.set_cons_zero, List.set_cons_succ]
          rw [ez]
          clear ez hF
          go_wp2
          go_ret
          exact ⟨rfl, bz⟩
        · have hd' : decide ((0 : Int) < c2) = false := decide_eq_false hd
          have hx := HX.out.2.2.2.2 (by trivial) (by trivial) (by omega) (by omega)
          subst hx
          refine wp_region_g [some 30, some 31, some 32, some 33, some 34] (FL [
              EqV (.agg (u8cells k)),
              EqV (.agg (ucells (leN k 32))),
              EqV (.agg (ucells t)),
              EqV (.int .i64 c2),
              EqV (.bool false)
            ]) (FL_keeps ⟨keeps_eq _, keeps_eq _, keeps_eq _, keeps_eq _, keeps_eq _, trivial⟩) (by kernel_rfl) rfl rfl rfl rfl ⟨
            .inr ⟨gk0 rfl, fun A w' γ hb hF hs => g_eq (op_load 48 (.tmp 3) rfl ((hs.2 3 rfl).trans rfl) (q_h.below hb l_h) Try.underlying48 (iH))⟩,
            .inr ⟨gk0 rfl, fun A w' γ hb hF hs => g_eq (op_call 27 #[.agg (u8cells k)] (exec_call _ 27 #[.agg (u8cells k)] rfl rfl (args1 ((hs.1 0 rfl 30 rfl).trans (hF 0 rfl))) Try.func27 rfl rfl) (Number_any k HK.out _))⟩,
            .inr ⟨gk0 rfl, fun A w' γ hb hF hs => g_eq (op_load 26 (.tmp 7) rfl ((hs.2 7 rfl).trans rfl) (q_t.below hb l_t) Try.underlying26 (i26 _))⟩,
            .inr ⟨gk0 rfl, fun A w' γ hb hF hs => g_eq (op_call 17 #[.agg (ucells (leN k 32)), .agg (ucells t)] (exec_call _ 17 #[.agg (ucells (leN k 32)), .agg (ucells t)] rfl rfl (args2 ((hs.1 1 rfl 31 rfl).trans (hF 1 rfl)) ((hs.1 2 rfl 32 rfl).trans (hF 2 rfl))) Try.func17 rfl rfl) (Cmp_any (leN k 32) t c2 _ HS.out.2.2.2.2.2))⟩,
            .inr ⟨gk0 rfl, fun A w' γ hb hF hs => g_eq (op_gtr 3 _ (.tmp 33) (.const (.int .i64 0)) .i64 (c2) (0) false rfl ((hs.1 3 rfl 33 rfl).trans (hF 3 rfl)) rfl (hd'))⟩,
            trivial⟩ ?_
          intro γ w' hb hF
          have bz := bt bb hb
          have ez : γ 4 = .bool false := hF 4 (by decide)
          simp only [Fr, if_true, Act.put, List.setIfInBounds_toArray, List.set_cons_zero, List.set_cons_succ]
          rw [ez]
          clear ez hF
          go_wp2
          go_ret
          exact ⟨rfl, bz⟩
    · have hg' : (g != 0) = true := by simpa using hg
      have hx := HX.out.2.1 (by trivial) hg
      subst hx
      go_wp2
      go_ret
      exact ⟨rfl, (ba bb _)⟩
  · have he' : (e != 0) = true := by simpa using he
    have hx := HX.out.1 he
    subst hx
    go_wp2
    go_ret
    exact ⟨rfl, (ba bb _)⟩
theorem Meets_any (k : List UInt8) (hk : k.length = 32) (a l : Nat) (ha : a < 4294967296) (hl : l < 4294967296) (x : Int) (hx : meetsR (leN k 32) a l = x) (w : World) :
    Calls Try.prog 25 #[.agg (u8cells k), .int .u32 a, .int .u32 l] w fun e w' => e = .returned (.int .i64 x) ∧ Below w.heap.size w w' := by
  obtain ⟨t, e, h⟩ : ∃ t e, expR a = (t, e) := ⟨_, _, rfl⟩
  obtain ⟨u, g, h'⟩ : ∃ u g, expR l = (u, g) := ⟨_, _, rfl⟩
  have ht : t < T := by have := expR_lt a; rw [h] at this; exact this
  have hu : u < T := by have := expR_lt l; rw [h'] at this; exact this
  obtain ⟨c1, hc1⟩ := cmp_ex t u ht hu
  obtain ⟨c2, hc2⟩ := cmp_ex (leN k 32) t (leN_T k 32 (Nat.le_refl _)) ht
  have f1 := cmp_facts hc1
  have f2 := cmp_facts hc2
  unfold meetsR at hx
  rw [h, h'] at hx
  dsimp only at hx
  refine Meets_core k (Lib.hid hk) (isH k hk) a l t u e g c1 c2 x ⟨ha, h, hl, h', hc1, hc2⟩ ⟨?_, ?_, ?_, ?_, ?_⟩ w
  · intro he; rw [if_pos he] at hx; exact hx.symm
  · intro he hg; rw [if_neg (by simp [he]), if_pos (.inl hg)] at hx; exact hx.symm
  · intro he hg hc; rw [if_neg (by simp [he]), if_pos (.inr (f1.2.1.1 hc))] at hx; exact hx.symm
  · intro he hg hc hd; rw [if_neg (by simp [he]), if_neg (by intro h; rcases h with h | h; exact h hg; exact hc (f1.2.1.2 h)), if_pos (f2.2.1.1 hd)] at hx; exact hx.symm
  · intro he hg hc hd; rw [if_neg (by simp [he]), if_neg (by intro h; rcases h with h | h; exact h hg; exact hc (f1.2.1.2 h)), if_neg (fun h => hd (f2.2.1.2 h))] at hx; exact hx.symm
end Go.Proofs.Ytlkjcijbmfgjiaa
