/- RetargetChain: its walk, for all arguments. -/
import Derived.Test.YtndockjflnicjaaChB
namespace Go.Proofs.Ytndockjflnicjaa
open Go.RowKit
set_option linter.unusedVariables false
theorem cv_i64 (n : Nat) (h : n < 18446744073709551616) (w : World) : (convert 3 32 (.int .i64 n)).run Try.prog w = .ok (.int .u64 n) w := by
  rw [run_convert_int w 3 32 .i64 n (by kernel_rfl) Try.underlying32]
  have e : IntKind.u64.wrap (n : Int) = n := by rw [IntKind.wrap_u64]; omega
  have hk : Try.prog.intKind 32 = .u64 := by kernel_rfl
  rw [hk, e]
theorem cv_u32 (n : Nat) (h : n < 4294967296) (w : World) : (convert 22 3 (.int .u32 n)).run Try.prog w = .ok (.int .i64 n) w := by
  rw [run_convert_int w 22 3 .u32 n (by kernel_rfl) Try.underlying3]
  have e : IntKind.i64.wrap (n : Int) = n := by simp [IntKind.wrap, IntKind.signed, IntKind.bits]; omega
  have hk : Try.prog.intKind 3 = .i64 := by kernel_rfl
  rw [hk, e]
set_option maxRecDepth 100000 in
set_option maxHeartbeats 1000000 in
theorem Chain_zero (lim c : Nat) (iv sp fu ix op : Int) (av ca : Option Addr) (cn cc : Nat) (w : World) :
    Calls Try.prog 19 #[.agg (pcells lim iv sp fu ix op ca cn cc), .slice av 0 c] w fun e w' => e = .returned (.int .u32 lim) ∧ Below w.heap.size w w' := by
  go_enter Try.func19, Try.ntmps19
  go_wp2
  go_ret
  exact ⟨rfl, ba (Below.refl _ _) _⟩
set_option maxRecDepth 100000 in
set_option maxHeartbeats 1000000 in
theorem RChain_big (lim n c : Nat) (iv sp fu ix op : Int) (av ca : Option Addr) (cn cc : Nat) (hbig : 100 < n) (w : World) :
    Calls Try.prog 7 #[.agg (pcells lim iv sp fu ix op ca cn cc), .slice av n c] w fun e w' => e = .returned (.bool true) ∧ Below w.heap.size w w' := by
  have hn' : decide ((100 : Int) < (n : Int)) = true := decide_eq_true (by omega)
  go_enter Try.func7, Try.ntmps7
  go_wp2_with fail
  refine (Awake13 _).mono ?_
  rintro e w1 ⟨rfl, hb⟩
  go_wp2
  go_ret
  exact ⟨rfl, bt (ba (Below.refl _ _) _) hb⟩
theorem first_lt (n : Nat) (iv : Int) (h : 0 < n) : 0 ≤ firstR n iv ∧ firstR n iv < n := by
  obtain ⟨h1, h2⟩ := betw_le iv 1 1048576 (by decide)
  unfold firstR
  split <;> omega
theorem RChain_walk (lim : Nat) (iv sp fu ix op : Int) (ca : Option Addr) (cn cc : Nat) (hl : lim < 4294967296) (hiv : (Lit.int .i64 iv).wf = true) (av : Option Addr) (n c : Nat) (l : List (List Value)) (hn : l.length = n) (hok : ∀ (i : Nat) (r : List Value), l[i]? = some r → HdOk r) (w : World) (hr : RdH w av l) :
    Calls Try.prog 7 #[.agg (pcells lim iv sp fu ix op ca cn cc), .slice av n c] w fun e w' => e = .returned (.bool true) ∧ Below w.heap.size w w' := by
  have iP : (Try.prog.info? 25).map (·.size) = some (pcells lim iv sp fu ix op ca cn cc).size := by kernel_rfl
  obtain ⟨s, hsn⟩ : ∃ s, saneR lim iv sp fu ix op cn = s := ⟨_, rfl⟩
  have c2 := fun w => Sane_any lim iv sp fu ix op ca cn cc hl s hsn w
  by_cases h0 : n = 0
  · subst h0
    refine RChain_core lim lim 0 0 0 0 0 0 0 0 0 0 c 0 0 iv sp fu ix op 0 0 av ca cn cc s w iP ⟨c2, fun _ _ w' _ => Chain_zero lim c iv sp fu ix op av ca cn cc w'⟩ ⟨fun _ _ => rfl, fun _ h => absurd rfl h⟩ (Lib.hid fun _ h => absurd rfl h)
  · by_cases hbig : 100 < n
    · exact RChain_big lim n c iv sp fu ix op av ca cn cc hbig w
    · rcases hr with h | ⟨b, o, rfl, hb, hrr⟩
      · rw [h] at hn; exact absurd hn.symm h0
      · obtain ⟨f1, f2⟩ := first_lt n iv (by omega)
        obtain ⟨f, hf⟩ : ∃ f : Nat, firstR n iv = (f : Int) := ⟨(firstR n iv).toNat, by omega⟩
        have hfl : f < l.length := by omega
        have hkl : n - 1 < l.length := by omega
        have grf := List.getElem?_eq_getElem hfl
        have grl := List.getElem?_eq_getElem hkl
        generalize l[f] = rf at grf
        generalize l[n - 1] = rl at grl
        have rgf := hrr f rf grf
        have rgl := hrr (n - 1) rl grl
        obtain ⟨lf, onef, tf, bf, htf, hbf, g65, g66⟩ := hok f rf grf
        obtain ⟨ll, onel, tl, bi, htl, hbi, q65, q66⟩ := hok (n - 1) rl grl
        obtain ⟨x, hx⟩ : ∃ x, nextR lim iv sp fu ix op cn n tl bi tf = x := ⟨_, rfl⟩
        have hwr : IntKind.i64.wrap ((n : Int) - 1) = ((n - 1 : Nat) : Int) := by simp [IntKind.wrap, IntKind.signed, IntKind.bits]; omega
        have hCh : s = true → n ≤ 100 → ∀ w', Below w.heap.size w w' → Calls Try.prog 19 #[.agg (pcells lim iv sp fu ix op ca cn cc), .slice (some ⟨b, o, none⟩) n c] w' fun e w'' => e = .returned (.int .u32 x) ∧ Below w'.heap.size w' w'' := by
          intro _ _ w' hbw
          refine Chain_core lim 0 x tf (n - 1) f b o (o + f * 68) (o + (n - 1) * 68) n c iv sp fu ix op ca cn cc rf rl (by simp; omega) w' iP (by rw [List.size_toArray, lf]; kernel_rfl) (by rw [ll]; kernel_rfl) (by rw [lf]; kernel_rfl)
            ⟨rangeAt_below rgf hbw hb, rangeAt_below rgl hbw hb, Nat.lt_of_lt_of_le hb hbw.size⟩ ⟨by rw [List.getElem?_toArray]; exact g65, ?_, by have h : rf.toArray.size = 68 := (by simpa using lf); rw [h]; rfl⟩ (Lib.hid fun w => idx_hdr b o n c f (by omega) w) ⟨hwr, fun w => idx_hdr b o n c (n - 1) (by omega) w⟩ (Lib.hid fun w => ?_) (Lib.hid fun w => ?_)
          · rw [List.all_toArray, List.all_eq_true]
            intro v hv
            exact onef v hv
          · have h := First_any n iv (by simp [Lit.wf, IntKind.min, IntKind.max, IntKind.signed, IntKind.bits]; omega) w
            rw [hf] at h
            exact h
          · exact Next_any lim bi tl tf iv sp fu ix op n ca cn cc rl.toArray (by rw [List.getElem?_toArray]; exact q65) (by rw [List.getElem?_toArray]; exact q66) hl hbi htl htf x hx w
        have ltl := rgl 65 _ q65
        have lbi := rgl 66 _ q66
        have ltf := rgf 65 _ g65
        obtain ⟨K, hK⟩ : ∃ K, K = clampR ((tl : Int) - (tf : Int)) sp := ⟨_, rfl⟩
        refine RChain_core lim x bi tl tf (n - 1) f b o (o + (n - 1) * 68) (o + f * 68) n c K.toNat sp.toNat iv sp fu ix op (Int.tmod n iv) ((tl : Int) - (tf : Int)) (some ⟨b, o, none⟩) ca cn cc s w iP ⟨c2, hCh⟩ ⟨fun _ h => absurd h h0, fun hs _ => ?_⟩ (Lib.hid fun hs _ hm => ⟨rfl, ?_⟩)
        · subst hs
          obtain ⟨s1, s2, s3, s4⟩ := sane_facts lim iv sp fu ix op cn hsn
          refine ⟨by omega, rfl, hb, hwr, fun w => idx_hdr b o n c (n - 1) (by omega) w, ltl, lbi, fun hm => ?_⟩
          have hbv : betw iv 1 1048576 = iv := by unfold betw; split <;> split <;> omega
          have hfi : (f : Int) = (n : Int) - iv := by
            have hdv : ∃ q : Nat, ∃ v : Nat, iv = v ∧ n = v * q := by
              obtain ⟨v, rfl⟩ : ∃ v : Nat, iv = v := ⟨iv.toNat, by omega⟩
              have : n % v = 0 := by
                have h2 : Int.tmod (n : Int) (v : Int) = ((n % v : Nat) : Int) := rfl
                rw [h2] at hm
                omega
              exact ⟨n / v, v, rfl, (Nat.mul_div_cancel' (Nat.dvd_of_mod_eq_zero this)).symm⟩
            obtain ⟨q, v, rfl, hq⟩ := hdv
            rw [← hf]
            unfold firstR
            rw [hbv]
            by_cases hle : (n : Int) ≤ (v : Int)
            · rw [if_pos hle]
              have hq1 : q ≠ 0 := fun h => by subst h; simp at hq; omega
              have : v * 1 ≤ v * q := Nat.mul_le_mul_left v (by omega)
              omega
            · rw [if_neg hle]
          obtain ⟨_, q1, q2⟩ := clamp_facts ((tl : Int) - (tf : Int)) sp s2
          rw [← hK] at q1 q2
          have kk : ((K.toNat : Nat) : Int) = K := by omega
          have ss : ((sp.toNat : Nat) : Int) = sp := by omega
          refine ⟨hm, fun w => cv_u32 tl htl w, ?_, fun w => idx_hdr b o n c f (by omega) w, ltf, fun w => cv_u32 tf htf w, ?_, fun w => ?_, fun w => cv_i64 _ (by omega) w, fun w => ?_, fun w => ?_, trivial⟩
          · simp [IntKind.wrap, IntKind.signed, IntKind.bits]; omega
          · simp [IntKind.wrap, IntKind.signed, IntKind.bits]; omega
          · have h := Clamp_any ((tl : Int) - (tf : Int)) sp w
            rw [← hK, ← kk] at h
            exact h
          · have h := cv_i64 sp.toNat (by omega) w
            rw [ss] at h
            have e : (.int .i64 sp : Value) = .int .i64 ((sp.toNat : Nat) : Int) := by rw [ss]
            rw [e]
            exact cv_i64 sp.toNat (by omega) w
          · refine Scale_any bi K.toNat sp.toNat lim x hbi (by unfold W64; omega) (by unfold W64; omega) hl ?_ w
            rw [← hx]
            unfold nextR
            rw [if_neg (by rw [hsn]; decide), if_neg (by intro h; rcases h with h | h; omega; exact h hm), ← hK]
        · subst hs
          rw [← hx]
          unfold nextR
          rw [if_neg (by rw [hsn]; decide), if_pos (.inr hm)]
end Go.Proofs.Ytndockjflnicjaa
