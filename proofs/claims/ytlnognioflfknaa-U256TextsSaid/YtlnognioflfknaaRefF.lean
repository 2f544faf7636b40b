/- The document's digit, FromHex. -/
import Derived.Test.YtlnognioflfknaaRefE
import Derived.Test.YtlnognioflfknaaU256j
import Derived.Test.YtlnognioflfknaaRefM
import Derived.Test.YtlnognioflfknaaCellSt
namespace Go.Proofs.Ytlnognioflfknaa
open Go.RowKit
set_option linter.unusedVariables false
def rdg (c : Nat) : Int := match dg c with | some d => (d : Int) | none => -1
theorem rdg_some {c d : Nat} (h : dg c = some d) : rdg c = d := by unfold rdg; rw [h]
theorem rdg_none {c : Nat} (h : dg c = none) : rdg c = -1 := by unfold rdg; rw [h]
theorem RDigit_any (c : Nat) (hc : c < 256) (w : World) : Calls Try.prog 48 #[.int .u8 c] w fun e w' => e = .returned (.int .i64 (rdg c)) ∧ w' = w := by
  go_enter Try.func48, Try.ntmps48
  rcases (show c < 48 ∨ (48 ≤ c ∧ c ≤ 57) ∨ (57 < c ∧ c < 65) ∨ (65 ≤ c ∧ c ≤ 70) ∨ (70 < c ∧ c < 97) ∨ (97 ≤ c ∧ c ≤ 102) ∨ 102 < c from by omega) with h1 | h1 | h1 | h1 | h1 | h1 | h1
  · have e : rdg c = -1 := by unfold rdg dg; rw [if_neg (by omega), if_neg (by omega), if_neg (by omega)]
    have E := Lib.hid e; clear e
    go_wp2
    go_ret
    exact ⟨by rw [E.out]; first | rfl | exact ret_int (by omega), rfl⟩
  · have e : rdg c = ((c - 48 : Nat) : Int) := by unfold rdg dg; rw [if_pos (by omega)]
    have E := Lib.hid e; clear e
    go_wp2
    go_ret
    exact ⟨by rw [E.out]; first | rfl | exact ret_int (by omega), rfl⟩
  · have e : rdg c = -1 := by unfold rdg dg; rw [if_neg (by omega), if_neg (by omega), if_neg (by omega)]
    have E := Lib.hid e; clear e
    go_wp2
    go_ret
    exact ⟨by rw [E.out]; first | rfl | exact ret_int (by omega), rfl⟩
  · have e : rdg c = ((c - 55 : Nat) : Int) := by unfold rdg dg; rw [if_neg (by omega), if_neg (by omega), if_pos (by omega)]
    have E := Lib.hid e; clear e
    go_wp2
    go_ret
    exact ⟨by rw [E.out]; first | rfl | exact ret_int (by omega), rfl⟩
  · have e : rdg c = -1 := by unfold rdg dg; rw [if_neg (by omega), if_neg (by omega), if_neg (by omega)]
    have E := Lib.hid e; clear e
    go_wp2
    go_ret
    exact ⟨by rw [E.out]; first | rfl | exact ret_int (by omega), rfl⟩
  · have e : rdg c = ((c - 87 : Nat) : Int) := by unfold rdg dg; rw [if_neg (by omega), if_pos (by omega)]
    have E := Lib.hid e; clear e
    go_wp2
    go_ret
    exact ⟨by rw [E.out]; first | rfl | exact ret_int (by omega), rfl⟩
  · have e : rdg c = -1 := by unfold rdg dg; rw [if_neg (by omega), if_neg (by omega), if_neg (by omega)]
    have E := Lib.hid e; clear e
    go_wp2
    go_ret
    exact ⟨by rw [E.out]; first | rfl | exact ret_int (by omega), rfl⟩
set_option maxRecDepth 100000 in
theorem cvu64 (n : Nat) (h : n < 18446744073709551616) {w : World} : (convert 3 22 (.int .i64 n)).run Try.prog w = .ok (.int .u64 n) w := by
  rw [run_convert_int w 3 22 .i64 n (by kernel_rfl) Try.underlying22]
  have e : IntKind.u64.wrap (n : Int) = n := by rw [IntKind.wrap_u64]; omega
  have hk : Try.prog.intKind 22 = .u64 := by kernel_rfl
  rw [hk, e]
theorem margv1 {A : Act} {x : Operand} {u : Value} (h1 : A.eval x = u) : #[x].map A.eval = #[u] := by simp [h1]
theorem run_index_string_at {S : ByteArray} {j : Nat} (h : j < S.size) (w : World) : (Instr.index 9 (.string S) (.int .i64 j)).run Try.prog w = .ok (.int .u8 (S[j]'h).toNat) w := by
  have b : (0 : Int) ≤ (j : Int) ∧ (j : Int) < (S.size : Int) := by omega
  simp [Instr.index, run_underlying Try.underlying9, asIntOf, b, go_sem, h]
theorem hexV_app (a b : List UInt8) : hexV a ≤ hexV (a ++ b) := by
  have key : ∀ (b : List UInt8) (v : Nat), v ≤ b.foldl (fun a c => a * 16 + (dg c.toNat).getD 0) v := by
    intro b
    induction b with
    | nil => intro v; exact Nat.le_refl _
    | cons c b ih =>
      intro v
      refine Nat.le_trans ?_ (ih (v * 16 + (dg c.toNat).getD 0))
      omega
  unfold hexV
  rw [List.foldl_append]
  exact key b _
theorem hexV_take (l : List UInt8) (k : Nat) : hexV (l.take k) ≤ hexV l := by
  have := hexV_app (l.take k) (l.drop k)
  rwa [List.take_append_drop] at this
theorem bsize (l : List UInt8) : (bstr l).size = l.length := by simp [bstr, ByteArray.size]
theorem bat (l : List UInt8) (i : Nat) (h : i < (bstr l).size) : (bstr l)[i]'h = l.getD i 0 := by
  have h' : i < l.length := by rw [bsize] at h; exact h
  show (bstr l).data[i] = _
  simp [bstr, List.getD, h']
set_option maxRecDepth 100000 in
theorem RFromHex_empty (w : World) : Calls Try.prog 30 #[.string (bstr [])] w fun e w' => e = .returned (.tuple #[uval 0, .int .i64 2]) ∧ Below w.heap.size w w' := by
  have e0 := uval_zero0
  rw [e0]
  clear e0
  obtain ⟨S, hS⟩ : ∃ S, S = bstr [] := ⟨_, rfl⟩
  have hsz : S.size = 0 := by rw [hS]; rfl
  rw [← hS]
  clear hS
  go_enter Try.func30, Try.ntmps30
  go_wp2
  refine bodyPost_ret (v := .tuple #[.agg #[.int .u64 0, .int .u64 0, .int .u64 0, .int .u64 0], .int .i64 2]) (by simp [results, Try.results30, go_sem]) rfl ⟨rfl, ba (Below.refl _ _) _⟩
set_option maxRecDepth 100000 in
set_option maxHeartbeats 4000000 in
theorem RFromHex_some (l : List UInt8) (n : Nat) (hn : l.length = n) (h0 : 0 < n) (hn3 : n ≤ 300) (w : World) :
    Calls Try.prog 30 #[.string (bstr l)] w fun e w' => e = .returned (.tuple #[uval (hexR l).1, .int .i64 (hexR l).2]) ∧ Below w.heap.size w w' := by
  obtain ⟨S, hS⟩ : ∃ S, S = bstr l := ⟨_, rfl⟩
  have hsz : S.size = n := by rw [hS, bsize, hn]
  have hat : ∀ i (h : i < S.size), S[i]'h = l.getD i 0 := by subst hS; exact fun i h => bat l i h
  rw [← hS]
  have hne : l ≠ [] := by intro h; rw [h] at hn; simp at hn; omega
  have HH := Lib.hid (And.intro hn (And.intro hat hne)); clear hn hat hne hS
  have n0 : ((n : Int) == 0) = false := by simp; omega
  go_enter Try.func30, Try.ntmps30
  go_wp2
  go_loopw [4] (fun i wr => ∃ k : Nat, k ≤ n ∧ i = .int .i64 k ∧ (∀ j, j < k → (dg (l.getD j 0).toNat).isSome = true) ∧ Blk wr w.heap.size 24 (ucells 0) ∧ Below w.heap.size w wr) (fun i _ => n - (intOf i).toNat)
  case atStart => exact ⟨0, Nat.zero_le _, rfl, fun j hj => by omega, Blk.newAt _ _ _ rfl, ba (Below.refl _ _) _⟩
  case round =>
    obtain ⟨k, hk, rfl, hall, hz, hb⟩ := hrel
    by_cases hlt : k < n
    · have k2 : (k : Int) < (n : Int) := by omega
      obtain ⟨c, hc⟩ : ∃ c, c = (l.getD k 0).toNat := ⟨_, rfl⟩
      have hc8 : c < 256 := by rw [hc]; exact (l.getD k 0).toNat_lt
      have hix : ∀ h, ((S[k]'h).toNat) = c := fun h => by rw [HH.out.2.1 k h, hc]
      cases hd : dg c with
      | none =>
        have hres : hexR l = (0, 2) := by
          unfold hexR
          refine if_pos (.inr ?_)
          cases ha : allD l with
          | false => rfl
          | true =>
            have := (allD_at l).1 ha k (by rw [HH.out.1]; exact hlt)
            rw [← hc, hd] at this; cases this
        have c0 := clf hz
        have er := rdg_none hd
        have H := Lib.hid (And.intro hres (And.intro hall (And.intro hb hc))); clear hres hall hb hc hd hz
        go_wp2_with fail
        refine (RDigit_any c hc8 _).mono ?_
        rintro e w' ⟨rfl, rfl⟩
        rw [er]
        clear er
        go_wp2
        refine bodyPost_ret (v := .tuple #[uval 0, .int .i64 2]) ?_ rfl ⟨by rw [H.out.1], ?_⟩
        · simp [results, Try.results30, go_sem, uval_zero0, c0]
        · exact fill_below (n := 0) H.out.2.2.1 (Nat.le_refl _)
      | some d =>
        have er := rdg_some hd
        have H := Lib.hid (And.intro hall (And.intro hz (And.intro hb (And.intro hc hd)))); clear hall hz hb hc hd
        go_wp2_with fail
        refine (RDigit_any c hc8 _).mono ?_
        rintro e w' ⟨rfl, rfl⟩
        rw [er]
        clear er
        have dn : ¬ ((d : Int) < 0) := by omega
        go_wp2
        go_roundw
        case rel =>
          refine ⟨k + 1, by omega, by go_num, fun j hj => ?_, H.out.2.1, H.out.2.2.1⟩
          by_cases e : j = k
          · rw [e, ← H.out.2.2.2.1, H.out.2.2.2.2]; rfl
          · exact H.out.1 j (by omega)
        case measure => simp [intOf]; omega
    · obtain rfl : k = n := by omega
      have k2 : ¬ (k : Int) < (k : Int) := by omega
      have hallD : allD l = true := (allD_at l).2 fun i hi => hall i (by rw [← HH.out.1]; exact hi)
      have H := Lib.hid (And.intro hz (And.intro hb hallD)); clear hz hb hallD hall
      go_wp2
      obtain ⟨wo, rfl⟩ : ∃ wo : World, wo = wr := ⟨_, rfl⟩
      go_loopw [6] (fun i wr => ∃ j : Nat, j ≤ k ∧ i = .int .i64 j ∧ hexV (l.take j) < T ∧ Blk wr w.heap.size 24 (ucells 0) ∧ Blk wr wo.heap.size 24 (ucells (hexV (l.take j))) ∧ Below w.heap.size w wr) (fun i _ => k - (intOf i).toNat)
      case atStart =>
        refine ⟨0, Nat.zero_le _, rfl, (show (0 : Nat) < T by decide), H.out.1.alloc _, ?_, ba H.out.2.1 _⟩
        rw [show l.take 0 = [] from rfl, show hexV [] = 0 from rfl]
        exact Blk.new _ _ _
      case round =>
        obtain ⟨j, hj, rfl, hvT, h0', h1, hb⟩ := hrel
        have lw : w.heap.size < wo.heap.size := H.out.1.lt
        by_cases hlt2 : j < k
        · have j2 : (j : Int) < (k : Int) := by omega
          obtain ⟨c, hc⟩ : ∃ c, c = (l.getD j 0).toNat := ⟨_, rfl⟩
          have hc8 : c < 256 := by rw [hc]; exact (l.getD j 0).toNat_lt
          have hix : ∀ h, ((S[j]'h).toNat) = c := fun h => by rw [HH.out.2.1 j h, hc]
          have hsome := (allD_at l).1 H.out.2.2 j (by rw [HH.out.1]; exact hlt2)
          rw [← hc] at hsome
          obtain ⟨d, hd⟩ := Option.isSome_iff_exists.1 hsome
          have hd16 : d < 16 := dg_lt hd
          have hvs := hexV_step l j d (by rw [HH.out.1]; exact hlt2) (by rw [← hc]; exact hd)
          have hle := hexV_take l (j + 1)
          obtain ⟨V, hV⟩ : ∃ V, V = hexV (l.take j) := ⟨_, rfl⟩
          rw [← hV] at hvs h1 hvT
          have cSh := fun w => RShl_any V 4 w hvT (by omega)
          rw [shlN_eq V 4 hvT, shlB_eq V 4 hvT, show (4 : Int).toNat = 4 from rfl, over_iff V 4 hvT (by omega), show V * 2 ^ 4 = V * 16 from rfl] at cSh
          have l1 := h1.lt
          by_cases hov : T ≤ V * 16
          · rw [decide_eq_true hov] at cSh
            have hres : hexR l = (0, 3) := by
              unfold hexR
              rw [if_neg (by rintro (h | h); exact HH.out.2.2 h; rw [H.out.2.2] at h; cases h), if_pos (by omega)]
            obtain ⟨r, hr⟩ : ∃ r, r = V * 16 % T := ⟨_, rfl⟩
            rw [← hr] at cSh
            have c4 := cl4 h1
            have K := Lib.hid (And.intro h0' (And.intro h1 (And.intro hb (And.intro hres cSh)))); clear h0' h1 hb hres cSh hc hsome hd hvs hle hV hr hix
            go_wp2_with fail
            refine (K.out.2.2.2.2 _).mono ?_
            rintro e w3 ⟨rfl, hb3⟩
            simp only [uval]
            clear c4
            have T0 := K.out.1.calls hb3
            have lz := T0.lt
            have c0 := clf T0
            have D := Lib.hid (bt K.out.2.2.1 hb3); clear hb3 T0
            go_wp2
            refine bodyPost_ret (v := .tuple #[uval 0, .int .i64 3]) ?_ rfl ⟨by rw [K.out.2.2.2.1], ?_⟩
            · simp [results, Try.results30, go_sem, uval_zero0, c0, lz]
            · exact ba (fill_below (n := 0) D.out (Nat.le_refl _)) _
          · rw [decide_eq_false hov] at cSh
            obtain ⟨r, hr⟩ : ∃ r, r = V * 16 := ⟨_, rfl⟩
            rw [← hr, Nat.mod_eq_of_lt (by omega)] at cSh
            rw [← hr] at hvs
            have hr16 : r % 16 = 0 := by omega
            have vo : bits .or .u64 (lim r 0 : Int) (d : Int) = (lim (r + d) 0 : Nat) := by
              rw [or_lows _ _ (by have : lim r 0 = r % W64 := by unfold lim; rw [Nat.pow_zero, Nat.div_one]
                                  rw [this]; unfold W64; omega) hd16 (lim_lt _ _), (lim_lows r d hr16 hd16).1]
            have hset := ucells_put r (r + d) 0 (by decide) (fun j hj h0 => (lim_lows r d hr16 hd16).2 j (by omega))
            have hrT : r + d < T := by unfold T at hov ⊢; omega
            have er := rdg_some hd
            have c4 := cl4 h1
            have K := Lib.hid (And.intro h0' (And.intro h1 (And.intro hb (And.intro cSh (And.intro hvs (And.intro hrT hset)))))); clear h0' h1 hb cSh hvs hrT hset hc hsome hd hle hV hr hr16 hov hvT
            go_wp2_with fail
            refine (K.out.2.2.2.1 _).mono ?_
            rintro e w3 ⟨rfl, hb3⟩
            simp only [uval]
            clear c4
            have T0 := K.out.1.calls hb3; have T1 := K.out.2.1.calls hb3; have TB := bt K.out.2.2.1 hb3
            have ls := T1.lt
            have Bs : Blk (w3.alloc (.cells (ucells r) 24)) w3.heap.size 24 (ucells r) := Blk.new w3 _ _
            have G := Lib.hid (And.intro (T0.alloc (.cells (ucells r) 24)) (And.intro (T1.alloc (.cells (ucells r) 24)) (ba TB (.cells (ucells r) 24)))); clear T0 T1 TB hb3
            go_wp2_with fail
            change Code.wp _ _ _ _ (w3.alloc (.cells (ucells r) 24))
            generalize World.alloc _ _ = w4 at *
            generalize w3.heap.size = gs at *
            have rdi := RDigit_any c hc8
            rw [er] at rdi
            have hixr : ∀ w : World, (Instr.index 9 (.string S) (.int .i64 j)).run Try.prog w = .ok (.int .u8 c) w := fun w => by
              have hj' : j < S.size := by omega
              rw [run_index_string_at hj' w, hix]
            have M := Lib.hid (And.intro Bs (And.intro hixr rdi)); clear Bs hixr rdi hix er
            refine wp_region_tail [some 39, some 40, some 41, some 42, some 43, some 44, some 45, some 46, some 47, none] (fun i => ([.pointer (some ⟨gs, 0, none⟩), .int .u64 (lim r 0 : Nat), .string S, .int .i64 (j : Nat), .int .u8 (c : Nat), .int .i64 (d : Nat), .int .u64 (d : Nat), .int .u64 (lim (r + d) 0 : Nat), .pointer (some ⟨gs, 0, none⟩), undef] : List Value).getD i undef) 9 (fun w' => ∃ wq, Below w4.heap.size w4 wq ∧ w' = wq.setCell ⟨gs, 0, none⟩ (.int .u64 (lim (r + d) 0 : Nat))) (by kernel_rfl) rfl rfl rfl rfl rfl rfl ⟨
              .inr ⟨rfl, fun A w' hb hs => op_idxa 24 (.tmp 7) (.const (.int .i64 0)) rfl ((hs.2 7 rfl).trans rfl) rfl (by kernel_rfl)⟩,
              .inr ⟨rfl, fun A w' hb hs => op_cellv 22 (.tmp 39) rfl ⟨gs, 0, none⟩ (hs.1 0 rfl 39 rfl) _ ((M.out.1.below hb M.out.1.lt).cell 0) _ Try.underlying22 rfl⟩,
              .inr ⟨rfl, fun A w' hb hs => op_move (.tmp 0) (.inl rfl) ((hs.2 0 rfl).trans rfl)⟩,
              .inr ⟨rfl, fun A w' hb hs => op_move (.tmp 6) (.inl rfl) ((hs.2 6 rfl).trans rfl)⟩,
              .inr ⟨rfl, fun A w' hb hs => op_idx_str (.tmp 41) (.tmp 42) 9 S (j : Nat) _ rfl (hs.1 2 rfl 41 rfl) (hs.1 3 rfl 42 rfl) (M.out.2.1 w')⟩,
              .inr ⟨rfl, fun A w' hb hs => op_call 48 _ (exec_call _ 48 _ rfl rfl (margv1 (hs.1 4 rfl 43 rfl)) Try.func48 rfl rfl) ((M.out.2.2 w').mono fun _ _ hh => ⟨hh.1, hh.2 ▸ Below.refl _ _⟩)⟩,
              .inr ⟨rfl, fun A w' hb hs => op_cvt 3 22 (.tmp 44) rfl (hs.1 5 rfl 44 rfl) (cvu64 d (by omega))⟩,
              .inr ⟨rfl, fun A w' hb hs => op_or 22 _ (.tmp 40) (.tmp 45) .u64 (lim r 0 : Nat) (d : Nat) (lim (r + d) 0 : Nat) rfl (hs.1 1 rfl 40 rfl) (hs.1 6 rfl 45 rfl) vo⟩,
              .inr ⟨rfl, fun A w' hb hs => op_idxa 24 (.tmp 7) (.const (.int .i64 0)) rfl ((hs.2 7 rfl).trans rfl) rfl (by kernel_rfl)⟩,
              .inl ⟨rfl, rfl, fun A w' hb hs => wp_store_int 22 (.tmp 47) (.tmp 46) rfl gs 0 (hs.1 8 rfl 47 rfl) .u64 .u64 (lim (r + d) 0 : Nat) (hs.1 7 rfl 46 rfl) _ ((M.out.1.below hb M.out.1.lt).cell 0) ((M.out.1.below hb M.out.1.lt).frozen 0) Try.underlying22 (fun w => by kernel_rfl) ⟨rfl, w', hb, rfl⟩⟩, trivial⟩ ?_
            rintro _ ⟨wq, hbq, rfl⟩
            simp only [Fr, if_true, Act.put, List.setIfInBounds_toArray, List.set_cons_zero, List.set_cons_succ, List.getD_cons_zero, List.getD_cons_succ]
            have lt0 := G.out.1.lt
            have lt1 := G.out.2.1.lt
            have T0 := (G.out.1.below hbq lt0).far (b := gs) (i := 0) (by omega) (.int .u64 (lim (r + d) 0 : Nat))
            have T1 := (G.out.2.1.below hbq lt1).far (b := gs) (i := 0) (by omega) (.int .u64 (lim (r + d) 0 : Nat))
            have TB := (bt G.out.2.2 hbq).setCell (p := ⟨gs, 0, none⟩) (by simp; omega) (.int .u64 (lim (r + d) 0 : Nat))
            have Bs2 := ((M.out.1.below hbq M.out.1.lt).set_ 0 (.int .u64 (lim (r + d) 0 : Nat))).to K.out.2.2.2.2.2.2
            clear G M lt0 lt1 hbq
            generalize World.setCell _ _ _ = w5 at *
            have cs := clf Bs2
            have cr := clf T1
            have lr := T1.lt
            have G := Lib.hid (And.intro T0 (And.intro T1 TB)); clear T0 T1 TB Bs2
            go_wp2
            go_roundw
            case rel =>
              have D0 : Blk (fillW w5 wo.heap.size (r + d)) w.heap.size 24 (ucells 0) := G.out.1.fillFar (by omega)
              have D1 : Blk (fillW w5 wo.heap.size (r + d)) wo.heap.size 24 (ucells (r + d)) := G.out.2.1.fillAt
              have DB : Below w.heap.size w (fillW w5 wo.heap.size (r + d)) := fill_below G.out.2.2 (by omega)
              exact ⟨j + 1, by omega, by go_num, by rw [K.out.2.2.2.2.1]; exact K.out.2.2.2.2.2.1, D0, by rw [K.out.2.2.2.2.1]; exact D1, DB⟩
            case measure => simp [intOf]; omega
        · obtain rfl : j = k := by omega
          have j2 : ¬ (j : Int) < (j : Int) := by omega
          rw [List.take_of_length_le (by have := HH.out.1; omega)] at h1 hvT
          have hres : hexR l = (hexV l, 0) := by
            unfold hexR
            rw [if_neg (by rintro (h | h); exact HH.out.2.2 h; rw [H.out.2.2] at h; cases h), if_neg (by omega)]
          obtain ⟨U, hU⟩ : ∃ U, U = ucells (hexV l) := ⟨_, rfl⟩
          have uU : uval (hexV l) = .agg U := by rw [hU]; rfl
          have sU : U.size = 4 := by rw [hU]; rfl
          have aU : U.all (·.oneCell') = true := by rw [hU]; exact u_one _
          have iU := isR4 U sU
          have zU : (ucells 0).size = U.size := by rw [sU]; rfl
          rw [← hU] at h1
          have D := Lib.hid (And.intro h0' (And.intro h1 (And.intro hb (And.intro hres uU)))); clear h0' h1 hb hres uU hU sU hvT
          go_wp2_with (first | with_reducible refine wl_row D.out.2.1 _ _ rfl rfl rfl _ _ Try.underlying24 iU ?_ | with_reducible refine ws_row D.out.1 _ _ _ _ rfl rfl rfl rfl iU zU aU ?_)
          refine bodyPost_ret (v := .tuple #[.agg U, .int .i64 0]) ?_ rfl ⟨by rw [D.out.2.2.2.1, ← D.out.2.2.2.2], setRow_below D.out.2.2.1 (Nat.le_refl _) _⟩
          exact results_cs (p := 2) (s := 3) rfl _ _ _ _ _ rfl (D.out.1.row _) Try.underlying24 iU
end Go.Proofs.Ytlnognioflfknaa
