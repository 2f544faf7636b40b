/- Sha2Blocks: its walk. -/
import Derived.Test.YtfebknplkbeblaaDoorSame
import Derived.Test.YtfebknplkbeblaaDoorOps
namespace Go.Proofs.YtfebknplkbeblaaDoor
open Go.RowKit
set_option linter.unusedVariables false
set_option maxRecDepth 100000 in
theorem conv_u64 (n : Nat) (h : n < 18446744073709551616) {w : World} : (convert 3 27 (.int .i64 n)).run Tryd.prog w = .ok (.int .u64 n) w := by
  rw [run_convert_int w 3 27 .i64 n (by kernel_rfl) Tryd.underlying27]
  have e : IntKind.u64.wrap (n : Int) = n := by rw [IntKind.wrap_u64]; omega
  have hk : Tryd.prog.intKind 27 = .u64 := by kernel_rfl
  rw [hk, e]
/-- 's[k:k+64]'. -/
theorem slice_mid (g o : Nat) (l : List UInt8) (n c k : Nat) (hn : l.length = n) (hk : k + 64 ≤ n) (hc : n ≤ c) :
    ∃ o', (∀ w, (Instr.slice 26 (.slice (some ⟨g, o, none⟩) n c) (some (.int .i64 k)) (some (.int .i64 (k + 64 : Nat))) none).run Tryd.prog w = .ok (.slice (some ⟨g, o', none⟩) 64 (c - k : Nat)) w) ∧ (∀ w, Rd w g o l → Rd w g o' ((l.drop k).take 64)) := by
  refine ⟨o + k, fun w => ?_, fun w hr => hr.drop.take⟩
  have hs : (sizeOf (Tryd.prog.elem 26)).run Tryd.prog w = .ok 1 w := by kernel_rfl
  rw [run_slice_lh w 26 (some ⟨g, o, none⟩) n c (by kernel_rfl) .i64 .i64 k (k + 64 : Nat) (by omega) (by omega) (by omega), hs]
  have e : ((k : Int) + 64).toNat = k + 64 := by omega
  simp [sliced, Addr.add_mid, show ¬ c = k by omega, e]
theorem HI_st : stC HI (.slice none 0 0) 0 = #[.int .u32 1779033703, .int .u32 3144134277, .int .u32 1013904242, .int .u32 2773480762, .int .u32 1359893119, .int .u32 2600822924, .int .u32 528734635, .int .u32 1541459225, .slice none 0 0, .int .u64 0] := by kernel_rfl
theorem HI_lit : u32c HI = #[.int .u32 1779033703, .int .u32 3144134277, .int .u32 1013904242, .int .u32 2773480762, .int .u32 1359893119, .int .u32 2600822924, .int .u32 528734635, .int .u32 1541459225] := by kernel_rfl
set_option maxRecDepth 100000 in
set_option maxHeartbeats 8000000 in
theorem Blocks_walk (w : World) (hL : Laid w) (a0 : Option Addr) (l0 : List UInt8) (n0 c0 : Nat) (hn0 : l0.length = n0) (hc0 : n0 ≤ c0) (hm0 : c0 ≤ 140737488355328) (ho0 : a0 = none → n0 = 0 ∧ c0 = 0) (hr0 : RdS w a0 l0)
    (a1 : Option Addr) (l1 : List UInt8) (n1 c1 : Nat) (hn1 : l1.length = n1) (hc1 : n1 ≤ c1) (hm1 : c1 ≤ 140737488355328) (ho1 : a1 = none → n1 = 0 ∧ c1 = 0) (hr1 : RdS w a1 l1) :
    Calls Tryd.prog 6 #[.slice a0 n0 c0, .slice a1 n1 c1] w fun e w' => e = .returned (.bool true) ∧ Below w.heap.size w w' := by
  have H := Lib.hid (And.intro hr0 (And.intro hr1 (And.intro hL (And.intro hn0 hn1)))); clear hr0 hr1 hL hn0 hn1
  by_cases b0 : 300 < n0
  · have b0' : (300 : Int) < (n0 : Int) := by omega
    go_enter Tryd.func6, Tryd.ntmps6
    go_wp2_with fail
    refine (Awake02 w H.out.2.2.1).mono ?_
    rintro e w1 ⟨rfl, hb1⟩
    go_wp2
    go_ret
    exact ⟨rfl, hb1⟩
  have b0' : ¬ (300 : Int) < (n0 : Int) := by omega
  by_cases b1 : 300 < n1
  · have b1' : (300 : Int) < (n1 : Int) := by omega
    go_enter Tryd.func6, Tryd.ntmps6
    go_wp2_with fail
    refine (Awake02 w H.out.2.2.1).mono ?_
    rintro e w1 ⟨rfl, hb1⟩
    go_wp2
    go_ret
    exact ⟨rfl, hb1⟩
  have b1' : ¬ (300 : Int) < (n1 : Int) := by omega
  go_enter Tryd.func6, Tryd.ntmps6
  go_wp2_with fail
  refine (Awake02 w H.out.2.2.1).mono ?_
  rintro e w1 ⟨rfl, hb1⟩
  have B1 := Lib.hid hb1; clear hb1
  go_wp2_with fail
  obtain ⟨S, hS⟩ : ∃ S, S = stC HI (.slice none 0 0) 0 := ⟨_, rfl⟩
  obtain ⟨V, hV⟩ : ∃ V, V = u32c HI := ⟨_, rfl⟩
  have cS := Start_any w1 (H.out.2.2.1.below B1.out (Nat.le_refl _))
  have hfld : ∀ w : World, (Instr.field 31 (.agg S) 0).run Tryd.prog w = .ok (.agg V) w := fun w => by rw [hS, hV]; kernel_rfl
  have sV : V.size = 8 := by rw [hV]; rfl
  have iV := is8 V sV
  have aV : V.all (·.oneCell') = true := by rw [hV]; exact u32c_one _
  have zV : (#[.int .u32 0, .int .u32 0, .int .u32 0, .int .u32 0, .int .u32 0, .int .u32 0, .int .u32 0, .int .u32 0] : Array Value).size = V.size := by rw [sV]; rfl
  rw [← hS] at cS
  have HV := Lib.hid hV; clear hV hS sV
  refine cS.mono ?_
  clear cS
  rintro e w2 ⟨rfl, hb1⟩
  have B2 := Lib.hid (bt B1.out hb1); clear hb1 B1
  have N6 : Blk _ w2.heap.size 25 #[.int .u32 0, .int .u32 0, .int .u32 0, .int .u32 0, .int .u32 0, .int .u32 0, .int .u32 0, .int .u32 0] := Blk.new w2 25 #[.int .u32 0, .int .u32 0, .int .u32 0, .int .u32 0, .int .u32 0, .int .u32 0, .int .u32 0, .int .u32 0]
  go_wp2_with (with_reducible refine ws_row N6 _ _ _ _ rfl rfl rfl rfl iV zV aV ?_)
  have X6 := N6.row V
  rw [HV.out] at X6
  have BB := setRow_below (g := w2.heap.size) (ba B2.out (.cells #[.int .u32 0, .int .u32 0, .int .u32 0, .int .u32 0, .int .u32 0, .int .u32 0, .int .u32 0, .int .u32 0] 25)) B2.out.size V
  have zz : w.heap.size ≤ w2.heap.size := B2.out.size
  rw [HV.out] at BB
  have I := Lib.hid (And.intro X6 BB); clear X6 BB N6 B2
  rw [← HV.out] at I
  generalize World.setRow _ _ _ = w3 at *
  rw [HV.out] at I
  clear iV zV aV hfld
  generalize w2.heap.size = g6 at *
  go_loopw [7] (fun i wr => ∃ j : Nat, 64 * j ≤ n0 ∧ i = .int .i64 (64 * j : Nat) ∧ Blk wr g6 25 (u32c (blks l0 j HI)) ∧ Below w.heap.size w wr) (fun i _ => n0 - (intOf i).toNat)
  case atStart => exact ⟨0, by omega, rfl, I.out.1, I.out.2⟩
  case round =>
    obtain ⟨j, hj, rfl, h6, hb⟩ := hrel
    obtain ⟨K, hK⟩ : ∃ K, K = 64 * j := ⟨_, rfl⟩
    rw [← hK]
    have K300 : (K : Int) ≤ 300 := by omega
    by_cases hlt : K + 64 ≤ n0
    · have hlt' : (K : Int) + 64 ≤ (n0 : Int) := by omega
      obtain ⟨ad, g, o, rfl, hg, hrd⟩ : ∃ ad g o, a0 = some ⟨g, o, none⟩ ∧ g < w.heap.size ∧ Rd w g o l0 := by
        rcases H.out.1 with h | ⟨g, o, h1, h2, h3⟩
        · have := H.out.2.2.2.1; rw [h] at this; simp at this; omega
        · exact ⟨(), g, o, h1, h2, h3⟩
      obtain ⟨o', hs1, hs2⟩ := slice_mid g o l0 n0 c0 K H.out.2.2.2.1 hlt hc0
      obtain ⟨Hj, hHj⟩ : ∃ Hj, Hj = blks l0 j HI := ⟨_, rfl⟩
      have hHl : Hj.length = 8 := by rw [hHj]; exact blks_length _ _ _ HI_length
      obtain ⟨Hn, hHn⟩ : ∃ Hn, Hn = blk Hj ((l0.drop K).take 64) := ⟨_, rfl⟩
      have hnext : blks l0 (j + 1) HI = Hn := by rw [blks, ← hHj, hHn, hK]
      have htl : ((l0.drop K).take 64).length = 64 := by rw [List.length_take, List.length_drop, H.out.2.2.2.1]; omega
      have hHnl : Hn.length = 8 := by rw [hHn]; exact blk_length _ _ hHl
      have cB := fun (w' : World) (hb' : Below w.heap.size w w') => Block_any Hj hHl g o' (c0 - K) _ w' (fun i hi => (hs2 w hrd).at hb' hg i hi) (Nat.lt_of_lt_of_le hg hb'.size) htl (H.out.2.2.1.below hb' (Nat.le_refl _))
      rw [← hHn] at cB
      rw [← hHj] at h6
      have i8j := is8 (u32c Hj) (by rw [u32c_size, hHl])
      have s8n : (u32c Hn).size = 8 := by rw [u32c_size, hHnl]
      have i8n := is8 (u32c Hn) s8n
      have a8n := u32c_one Hn
      have s8j : (u32c Hj).size = (u32c Hn).size := by rw [s8n, u32c_size, hHl]
      have l6 := h6.lt
      have KB := Lib.hid cB; have KS := Lib.hid hs1; have KK := Lib.hid (And.intro h6 (And.intro hb hnext)); clear cB hs1 hs2 h6 hb hnext hHj hHn hrd htl hHl hHnl s8n
      go_wp2
      refine wp_region_tail [some 27, some 28, some 29, some 30, some 31, some 32, some 33, none] (fun i => ([.agg (u32c Hj), .slice (some ⟨g, o, none⟩) n0 c0, .int .i64 (K : Nat), .int .i64 (K : Nat), .int .i64 (K + 64 : Nat), .slice (some ⟨g, o', none⟩) 64 (c0 - K : Nat), .agg (u32c Hn), undef] : List Value).getD i undef) 7 (fun w' => ∃ wq, Below wr.heap.size wr wq ∧ w' = wq.setRow g6 (u32c Hn)) (by kernel_rfl) rfl rfl rfl rfl rfl rfl ⟨
        .inr ⟨rfl, fun A w' hb hs => op_load 25 (.tmp 6) rfl ((hs.2 6 rfl).trans rfl) (KK.out.1.below hb l6) Tryd.underlying25 i8j⟩,
        .inr ⟨rfl, fun A w' hb hs => op_move (.tmp 0) (.inl rfl) ((hs.2 0 rfl).trans rfl)⟩,
        .inr ⟨rfl, fun A w' hb hs => op_move (.tmp 7) (.inl rfl) ((hs.2 7 rfl).trans rfl)⟩,
        .inr ⟨rfl, fun A w' hb hs => op_move (.tmp 7) (.inl rfl) ((hs.2 7 rfl).trans rfl)⟩,
        .inr ⟨rfl, fun A w' hb hs => op_add 3 _ (.tmp 30) (.const (.int .i64 64)) .i64 (K : Nat) 64 (K + 64 : Nat) rfl (hs.1 3 rfl 30 rfl) rfl (by simp [IntKind.wrap, IntKind.signed, IntKind.bits]; omega)⟩,
        .inr ⟨rfl, fun A w' hb hs => op_slice_s 26 (.tmp 28) (some (.tmp 29)) (some (.tmp 31)) rfl (hs.1 1 rfl 28 rfl) (congrArg some (hs.1 2 rfl 29 rfl)) (congrArg some (hs.1 4 rfl 31 rfl)) (by kernel_rfl) (KS.out w')⟩,
        .inr ⟨rfl, fun A w' hb hs => op_call 27 _ (exec_call _ 27 _ rfl rfl (margs2 (hs.1 0 rfl 27 rfl) (hs.1 5 rfl 32 rfl)) Tryd.func27 rfl rfl) (KB.out w' (bt KK.out.2.1 hb))⟩,
        .inl ⟨rfl, rfl, fun A w' hb hs => wp_store_row 25 (.tmp 6) (.tmp 33) rfl g6 (u32c Hn) ((hs.2 6 rfl).trans rfl) (hs.1 6 rfl 33 rfl) 25 (u32c Hj) (KK.out.1.below hb l6) i8n s8j a8n ⟨rfl, w', hb, rfl⟩⟩, trivial⟩ ?_
      rintro _ ⟨wq, hbq, rfl⟩
      simp only [Fr, if_true, Act.put, List.setIfInBounds_toArray, List.set_cons_zero, List.set_cons_succ, List.getD_cons_zero, List.getD_cons_succ]
      have D6 := (KK.out.1.below hbq l6).row (u32c Hn)
      have DB := setRow_below (g := g6) (bt KK.out.2.1 hbq) zz (u32c Hn)
      have D := Lib.hid (And.intro D6 (And.intro DB KK.out.2.2)); clear D6 DB hbq
      generalize World.setRow _ _ _ = w6 at *
      go_wp2
      go_roundw
      case rel => exact ⟨j + 1, by omega, by congr 1, by rw [D.out.2.2]; exact D.out.1, D.out.2.1⟩
      case measure => simp [intOf]; omega
    · have hlt' : ¬ (K : Int) + 64 ≤ (n0 : Int) := by omega
      have hj64 : j = n0 / 64 := by omega
      have hab : blks l0 j HI = absH HI l0 := by unfold absH; rw [H.out.2.2.2.1, hj64]
      rw [hab] at h6
      have KK := Lib.hid (And.intro h6 (And.intro hb (And.intro hK hj64))); clear h6 hb hK hj64 hab I
      obtain ⟨Hs, hHs0⟩ : ∃ Hs, Hs = absH HI l0 := ⟨_, rfl⟩
      have hHs : Hs.length = 8 := by rw [hHs0]; exact absH_length _ _ HI_length
      obtain ⟨Ht, hHt0⟩ : ∃ Ht, Ht = absH HI (l0 ++ l1) := ⟨_, rfl⟩
      have hHt : Ht.length = 8 := by rw [hHt0]; exact absH_length _ _ HI_length
      obtain ⟨r, hr0⟩ : ∃ r, r = absR l0 := ⟨_, rfl⟩
      obtain ⟨N1, hN10⟩ : ∃ N1, N1 = l0.length % W64 := ⟨_, rfl⟩
      obtain ⟨N2, hN20⟩ : ∃ N2, N2 = (l0 ++ l1).length % W64 := ⟨_, rfl⟩
      have hN1n : N1 = n0 := by rw [hN10, H.out.2.2.2.1]; unfold W64; omega
      have hN2n : N2 = n0 + n1 := by rw [hN20, List.length_append, H.out.2.2.2.1, H.out.2.2.2.2]; unfold W64; omega
      have hrl : r.length = n0 % 64 := by rw [hr0, absR_length, H.out.2.2.2.1]
      have hrd : l0.drop K = r := by rw [hr0, KK.out.2.2.1, KK.out.2.2.2]; unfold absR; rw [H.out.2.2.2.1]
      obtain ⟨a3, hs3, hrd3, _⟩ := slice_from a0 l0 n0 c0 K H.out.2.2.2.1 (by have := KK.out.2.2.1; omega) hc0
      have hlr : r.length = n0 - K := by have := KK.out.2.2.1; have := KK.out.2.2.2; omega
      have rd3 := hrd3 w H.out.1
      rw [hrd] at rd3
      have KS := Lib.hid hs3; clear hs3 hrd3
      have i8 := is8 (u32c Hs) (by rw [u32c_size, hHs])
      have M := Lib.hid (And.intro hHs0 (And.intro hHt0 (And.intro hr0 (And.intro hN10 (And.intro hN20 (And.intro hN1n (And.intro hN2n (And.intro hrl (And.intro hrd rd3))))))))); clear hHs0 hHt0 hr0 hN10 hN20 hN1n hN2n hrl hrd rd3
      have HH := Lib.hid (And.intro hHs hHt); clear hHs hHt
      have HLR := Lib.hid hlr; clear hlr
      go_wp2_with fail
      refine (Start_st wr (H.out.2.2.1.below KK.out.2.1 (Nat.le_refl _))).mono ?_
      rintro e w4 ⟨u1, rfl, hb5, hs5⟩
      have E5 := Lib.hid (And.intro hs5 (And.intro hb5 (bt KK.out.2.1 hb5))); clear hs5 hb5
      go_wp2_with fail
      refine (Write_ex u1 [] l0 a0 l0 n0 c0 rfl H.out.2.2.2.1 hc0 ⟨by omega, by omega⟩ ho0 w4 E5.out.1 (H.out.1.below E5.out.2.2 (Nat.le_refl _)) (H.out.2.2.1.below E5.out.2.2 (Nat.le_refl _))).mono ?_
      rintro e w5 ⟨u2, rfl, hb6, hs6⟩
      have hs6' := hs6
      obtain ⟨sa, sc, hu2, hrs, _, _⟩ := hs6'
      rw [← M.out.1, ← M.out.2.2.1, ← M.out.2.2.2.1] at hu2
      rw [← M.out.2.2.1] at hrs
      obtain ⟨S, hS⟩ : ∃ S, S = stC Hs (.slice sa r.length sc) N1 := ⟨_, rfl⟩
      rw [← hS] at hu2
      subst hu2
      have sS : S.size = 10 := by rw [hS]; exact stC_size _ _ _ HH.out.1
      have aS : S.all (·.oneCell') = true := by rw [hS]; exact stC_one _ _ _ _ _
      have iS := isSt10 S sS
      have z10 : (#[.int .u32 0, .int .u32 0, .int .u32 0, .int .u32 0, .int .u32 0, .int .u32 0, .int .u32 0, .int .u32 0, .slice none 0 0, .int .u64 0] : Array Value).size = S.size := by rw [sS]; rfl
      have E6 := Lib.hid (And.intro hs6 (And.intro hrs (And.intro (bt E5.out.2.1 hb6) (And.intro (bt E5.out.2.2 hb6) hS)))); clear hs6 hrs hb6 hS E5
      have N8 : Blk _ w5.heap.size 31 #[.int .u32 0, .int .u32 0, .int .u32 0, .int .u32 0, .int .u32 0, .int .u32 0, .int .u32 0, .int .u32 0, .slice none 0 0, .int .u64 0] := Blk.new w5 31 #[.int .u32 0, .int .u32 0, .int .u32 0, .int .u32 0, .int .u32 0, .int .u32 0, .int .u32 0, .int .u32 0, .slice none 0 0, .int .u64 0]
      have X8 := N8.row S
      have bw := setRow_below (g := w5.heap.size) ((Below.refl w5.heap.size w5).alloc (Nat.le_refl _) (.cells #[.int .u32 0, .int .u32 0, .int .u32 0, .int .u32 0, .int .u32 0, .int .u32 0, .int .u32 0, .int .u32 0, .slice none 0 0, .int .u64 0] 31)) (Nat.le_refl _) S
      have bwr := setRow_below (g := w5.heap.size) (ba E6.out.2.2.1 (.cells #[.int .u32 0, .int .u32 0, .int .u32 0, .int .u32 0, .int .u32 0, .int .u32 0, .int .u32 0, .int .u32 0, .slice none 0 0, .int .u64 0] 31)) E6.out.2.2.1.size S
      have bww := setRow_below (g := w5.heap.size) (ba E6.out.2.2.2.1 (.cells #[.int .u32 0, .int .u32 0, .int .u32 0, .int .u32 0, .int .u32 0, .int .u32 0, .int .u32 0, .int .u32 0, .slice none 0 0, .int .u64 0] 31)) E6.out.2.2.2.1.size S
      have G8 := Lib.hid (And.intro X8 (And.intro (E6.out.1.below bw) (And.intro (E6.out.2.1.below bw (Nat.le_refl _)) (And.intro bwr bww)))); clear X8 bw bwr bww
      go_wp2_with (first | with_reducible refine ws_row N8 _ _ _ _ rfl rfl rfl rfl iS z10 aS ?_ | with_reducible refine wl_st G8.out.1 _ _ rfl rfl rfl _ Tryd.underlying31 iS ?_)
      refine (Write_ex (.agg S) l0 (l0 ++ l1) a1 l1 n1 c1 rfl H.out.2.2.2.2 hc1 ⟨by omega, by omega⟩ ho1 _ G8.out.2.1 (H.out.2.1.below G8.out.2.2.2.2 (Nat.le_refl _)) (H.out.2.2.1.below G8.out.2.2.2.2 (Nat.le_refl _))).mono ?_
      rintro e w7 ⟨u3, rfl, hb7, hs7⟩
      obtain ⟨ta, tc, hu3, _, _, _⟩ := hs7
      rw [← M.out.2.1, ← M.out.2.2.2.2.1] at hu3
      obtain ⟨tl, htl⟩ : ∃ tl, tl = (absR (l0 ++ l1)).length := ⟨_, rfl⟩
      rw [← htl] at hu3
      obtain ⟨U, hU⟩ : ∃ U, U = stC Ht (.slice ta tl tc) N2 := ⟨_, rfl⟩
      rw [← hU] at hu3
      subst hu3
      have sU : U.size = 10 := by rw [hU]; exact stC_size _ _ _ HH.out.2
      have aU : U.all (·.oneCell') = true := by rw [hU]; exact stC_one _ _ _ _ _
      have iU := isSt10 U sU
      have zU : (#[.int .u32 0, .int .u32 0, .int .u32 0, .int .u32 0, .int .u32 0, .int .u32 0, .int .u32 0, .int .u32 0, .slice none 0 0, .int .u64 0] : Array Value).size = U.size := by rw [sU]; rfl
      have N9 : Blk _ w7.heap.size 31 #[.int .u32 0, .int .u32 0, .int .u32 0, .int .u32 0, .int .u32 0, .int .u32 0, .int .u32 0, .int .u32 0, .slice none 0 0, .int .u64 0] := Blk.new w7 31 #[.int .u32 0, .int .u32 0, .int .u32 0, .int .u32 0, .int .u32 0, .int .u32 0, .int .u32 0, .int .u32 0, .slice none 0 0, .int .u64 0]
      have X9 := N9.row U
      have bx := setRow_below (g := w7.heap.size) ((Below.refl w7.heap.size w7).alloc (Nat.le_refl _) (.cells #[.int .u32 0, .int .u32 0, .int .u32 0, .int .u32 0, .int .u32 0, .int .u32 0, .int .u32 0, .int .u32 0, .slice none 0 0, .int .u64 0] 31)) (Nat.le_refl _) U
      have G := Lib.hid (And.intro ((KK.out.1.below (bt G8.out.2.2.2.1 hb7) KK.out.1.lt).below bx (Nat.lt_of_lt_of_le KK.out.1.lt (bt G8.out.2.2.2.1 hb7).size)) (And.intro ((G8.out.1.calls hb7).calls bx) (And.intro X9 (And.intro ((G8.out.2.2.1.below hb7 (Nat.le_refl _)).below bx (Nat.le_refl _)) (And.intro (bt (bt G8.out.2.2.2.2 hb7) bx) (And.intro hU htl)))))); clear X9 bx hb7 hU htl sU sS
      go_wp2_with (with_reducible refine ws_row N9 _ _ _ _ rfl rfl rfl rfl iU zU aU ?_)
      clear N8 N9 zU z10 aS aU iS iU G8
      generalize w5.heap.size = g8 at *
      generalize w7.heap.size = g9 at *
      obtain ⟨b6, b8, b9, hrs, bb, hU, _⟩ := G.out
      generalize World.setRow _ _ _ = w8 at *
      rw [← M.out.1] at b6
      rw [E6.out.2.2.2.2] at b8
      rw [hU] at b9
      have KK := Lib.hid (And.intro b6 (And.intro b8 (And.intro b9 (And.intro (H.out.2.2.1.below bb (Nat.le_refl _)) (And.intro (M.out.2.2.2.2.2.2.2.2.2.below bb (Nat.le_refl _)) (And.intro hrs bb)))))); clear b6 b8 b9 hrs bb hU G E6
      have hN1 : ((N1 : Int) == (n0 : Int)) = true := by rw [M.out.2.2.2.2.2.1]; simp
      have hN2 : ((N2 : Int) == ((n0 + n1 : Nat) : Int)) = true := by rw [M.out.2.2.2.2.2.2.1]; simp
      have hr64 : decide (((r.length : Nat) : Int) < 64) = true := by have := M.out.2.2.2.2.2.2.2.1; simp; omega
      have hsum : IntKind.i64.wrap ((n0 : Int) + (n1 : Int)) = ((n0 + n1 : Nat) : Int) := by simp [IntKind.wrap, IntKind.signed, IntKind.bits]; omega
      have hHs := HH.out.1
      have hHt := HH.out.2
      have hlr := HLR.out
      try simp only [List.append_eq, List.cons_append, List.nil_append]
      refine wp_region_g [some 42, some 43, some 44, some 45, some 46, some 47, some 48, some 49, some 50, some 51, some 52, some 53, some 54, some 55, some 56, some 57, some 58, some 59, some 60, some 61, some 62, some 63, some 64, some 65, some 66, some 67, some 68, some 69, some 70, some 71, some 72, some 73, some 74, some 75, some 76, some 77, some 78, some 79, some 80, some 81, some 82, some 83, some 84, some 85, some 86, some 87, some 88, some 89, some 90, some 91, some 4] (FL [
          EqV (.bool true),
          EqV (.bool true),
          EqV (.pointer (some ⟨g8, 0, none⟩)),
          EqV (.agg (u32c Hs)),
          EqV (.agg (u32c Hs)),
          EqV (.bool true),
          EqV (.bool true),
          EqV (.bool true),
          EqV (.pointer (some ⟨g8, 8, none⟩)),
          EqV (.slice sa r.length sc),
          EqV (.string (bstr r)),
          EqV (.slice a0 n0 c0),
          EqV (.int .i64 (K : Nat)),
          EqV (.slice a3 (n0 - K : Nat) (c0 - K : Nat)),
          EqV (.string (bstr r)),
          EqV (.bool true),
          EqV (.bool true),
          EqV (.bool true),
          EqV (.pointer (some ⟨g8, 9, none⟩)),
          EqV (.int .u64 (N1 : Nat)),
          EqV (.slice a0 n0 c0),
          EqV (.int .i64 n0),
          EqV (.int .u64 (n0 : Nat)),
          EqV (.bool true),
          EqV (.bool true),
          EqV (.bool true),
          EqV (.pointer (some ⟨g8, 8, none⟩)),
          EqV (.slice sa r.length sc),
          EqV (.int .i64 r.length),
          EqV (.bool true),
          EqV (.bool true),
          EqV (.bool true),
          EqV (.pointer (some ⟨g9, 9, none⟩)),
          EqV (.int .u64 (N2 : Nat)),
          EqV (.slice a0 n0 c0),
          EqV (.int .i64 n0),
          EqV (.slice a1 n1 c1),
          EqV (.int .i64 n1),
          EqV (.int .i64 ((n0 + n1 : Nat))),
          EqV (.int .u64 (n0 + n1 : Nat)),
          EqV (.bool true),
          EqV (.bool true),
          EqV (.bool true),
          (fun u w => StAt w u []),
          (fun u w => StAt w u []),
          (fun u w => StAt w u []),
          (fun u w => StAt w u []),
          (fun u w => StAt w u []),
          EqV (.bool true),
          EqV (.bool true),
          EqV (.bool true)
        ]) (FL_keeps ⟨keeps_eq _, keeps_eq _, keeps_eq _, keeps_eq _, keeps_eq _, keeps_eq _, keeps_eq _, keeps_eq _, keeps_eq _, keeps_eq _, keeps_eq _, keeps_eq _, keeps_eq _, keeps_eq _, keeps_eq _, keeps_eq _, keeps_eq _, keeps_eq _, keeps_eq _, keeps_eq _, keeps_eq _, keeps_eq _, keeps_eq _, keeps_eq _, keeps_eq _, keeps_eq _, keeps_eq _, keeps_eq _, keeps_eq _, keeps_eq _, keeps_eq _, keeps_eq _, keeps_eq _, keeps_eq _, keeps_eq _, keeps_eq _, keeps_eq _, keeps_eq _, keeps_eq _, keeps_eq _, keeps_eq _, keeps_eq _, keeps_eq _, keeps_st [], keeps_st [], keeps_st [], keeps_st [], keeps_st [], keeps_eq _, keeps_eq _, keeps_eq _, trivial⟩) (by kernel_rfl) rfl rfl rfl rfl ⟨
        .inr ⟨gk0 rfl, fun A w' γ hb hF hs => g_eq (op_move (.tmp 5) (.inl rfl) ((hs.2 5 rfl).trans rfl))⟩,
        .inr ⟨gk0 rfl, fun A w' γ hb hF hs => g_eq (op_move (.tmp 42) (.inl rfl) ((hs.1 0 rfl 42 rfl).trans (hF 0 rfl)))⟩,
        .inr ⟨gkT 1 true rfl rfl 43 rfl (fun _ _ h => h), fun A w' γ hb hF hs => g_eq (op_fieldK 31 (.tmp 8) 0 0 rfl g8 ((hs.2 8 rfl).trans rfl) fun _ _ => by kernel_rfl)⟩,
        .inr ⟨gkT 1 true rfl rfl 43 rfl (fun _ _ h => h), fun A w' γ hb hF hs => g_eq (op_load_mid 25 (.tmp 44) rfl g8 0 ((hs.1 2 rfl 44 rfl).trans (hF 2 rfl)) (u32c Hs).toList _ (words_range (KK.out.2.1.below hb KK.out.2.1.lt) hHs) Tryd.underlying25 rfl (by simpa using i8))⟩,
        .inr ⟨gkT 1 true rfl rfl 43 rfl (fun _ _ h => h), fun A w' γ hb hF hs => g_eq (op_load 25 (.tmp 6) rfl ((hs.2 6 rfl).trans rfl) (KK.out.1.below hb KK.out.1.lt) Tryd.underlying25 (i8))⟩,
        .inr ⟨gkT 1 true rfl rfl 43 rfl (fun _ _ h => h), fun A w' γ hb hF hs => g_eq (op_eq_agg 25 _ (.tmp 45) (.tmp 46) ((u32c Hs)) ((u32c Hs)) true rfl ((hs.1 3 rfl 45 rfl).trans (hF 3 rfl)) ((hs.1 4 rfl 46 rfl).trans (hF 4 rfl)) (by kernel_rfl) (eqW Hs hHs _))⟩,
        .inr ⟨gk0 rfl, fun A w' γ hb hF hs => g_eq (op_pick (.tmp 43) (.tmp 47) (.const (.bool false)) true rfl ((hs.1 1 rfl 43 rfl).trans (hF 1 rfl)) ((hs.1 5 rfl 47 rfl).trans (hF 5 rfl)))⟩,
        .inr ⟨gk0 rfl, fun A w' γ hb hF hs => g_eq (op_move (.tmp 48) (.inl rfl) ((hs.1 6 rfl 48 rfl).trans (hF 6 rfl)))⟩,
        .inr ⟨gkT 7 true rfl rfl 49 rfl (fun _ _ h => h), fun A w' γ hb hF hs => g_eq (op_fieldK 31 (.tmp 8) 1 8 rfl g8 ((hs.2 8 rfl).trans rfl) fun _ _ => by kernel_rfl)⟩,
        .inr ⟨gkT 7 true rfl rfl 49 rfl (fun _ _ h => h), fun A w' γ hb hF hs => g_eq (op_cell 26 (.tmp 50) rfl ⟨g8, 8, none⟩ ((hs.1 8 rfl 50 rfl).trans (hF 8 rfl)) (.slice sa r.length sc) (((KK.out.2.1.below hb KK.out.2.1.lt).cell 8).trans (stC_rest Hs _ N1 hHs)) _ Tryd.underlying26 rfl)⟩,
        .inr ⟨gkT 7 true rfl rfl 49 rfl (fun _ _ h => h), fun A w' γ hb hF hs => g_eq (op_conv 26 9 (.tmp 51) rfl ((hs.1 9 rfl 51 rfl).trans (hF 9 rfl)) (str_of (KK.out.2.2.2.2.2.1.below hb (Nat.le_refl _)) rfl))⟩,
        .inr ⟨gkT 7 true rfl rfl 49 rfl (fun _ _ h => h), fun A w' γ hb hF hs => g_eq (op_move (.tmp 0) (.inl rfl) ((hs.2 0 rfl).trans rfl))⟩,
        .inr ⟨gkT 7 true rfl rfl 49 rfl (fun _ _ h => h), fun A w' γ hb hF hs => g_eq (op_move (.tmp 7) (.inl rfl) ((hs.2 7 rfl).trans rfl))⟩,
        .inr ⟨gkT 7 true rfl rfl 49 rfl (fun _ _ h => h), fun A w' γ hb hF hs => g_eq (op_slice_s 26 (.tmp 53) (some (.tmp 54)) none rfl ((hs.1 11 rfl 53 rfl).trans (hF 11 rfl)) (congrArg some ((hs.1 12 rfl 54 rfl).trans (hF 12 rfl))) rfl (by kernel_rfl) (KS.out w'))⟩,
        .inr ⟨gkT 7 true rfl rfl 49 rfl (fun _ _ h => h), fun A w' γ hb hF hs => g_eq (op_conv 26 9 (.tmp 55) rfl ((hs.1 13 rfl 55 rfl).trans (hF 13 rfl)) (str_of (KK.out.2.2.2.2.1.below hb (Nat.le_refl _)) hlr))⟩,
        .inr ⟨gkT 7 true rfl rfl 49 rfl (fun _ _ h => h), fun A w' γ hb hF hs => g_eq (op_eq_str 9 _ (.tmp 52) (.tmp 56) ((bstr r)) ((bstr r)) true rfl ((hs.1 10 rfl 52 rfl).trans (hF 10 rfl)) ((hs.1 14 rfl 56 rfl).trans (hF 14 rfl)) (by simp))⟩,
        .inr ⟨gk0 rfl, fun A w' γ hb hF hs => g_eq (op_pick (.tmp 49) (.tmp 57) (.const (.bool false)) true rfl ((hs.1 7 rfl 49 rfl).trans (hF 7 rfl)) ((hs.1 15 rfl 57 rfl).trans (hF 15 rfl)))⟩,
        .inr ⟨gk0 rfl, fun A w' γ hb hF hs => g_eq (op_move (.tmp 58) (.inl rfl) ((hs.1 16 rfl 58 rfl).trans (hF 16 rfl)))⟩,
        .inr ⟨gkT 17 true rfl rfl 59 rfl (fun _ _ h => h), fun A w' γ hb hF hs => g_eq (op_fieldK 31 (.tmp 8) 2 9 rfl g8 ((hs.2 8 rfl).trans rfl) fun _ _ => by kernel_rfl)⟩,
        .inr ⟨gkT 17 true rfl rfl 59 rfl (fun _ _ h => h), fun A w' γ hb hF hs => g_eq (op_cell 27 (.tmp 60) rfl ⟨g8, 9, none⟩ ((hs.1 18 rfl 60 rfl).trans (hF 18 rfl)) (.int .u64 (N1 : Nat)) (((KK.out.2.1.below hb KK.out.2.1.lt).cell 9).trans (stC_num Hs _ N1 hHs)) _ Tryd.underlying27 rfl)⟩,
        .inr ⟨gkT 17 true rfl rfl 59 rfl (fun _ _ h => h), fun A w' γ hb hF hs => g_eq (op_move (.tmp 0) (.inl rfl) ((hs.2 0 rfl).trans rfl))⟩,
        .inr ⟨gkT 17 true rfl rfl 59 rfl (fun _ _ h => h), fun A w' γ hb hF hs => g_eq (op_len (.tmp 62) 26 _ a0 n0 c0 rfl ((hs.1 20 rfl 62 rfl).trans (hF 20 rfl)) Tryd.underlying26)⟩,
        .inr ⟨gkT 17 true rfl rfl 59 rfl (fun _ _ h => h), fun A w' γ hb hF hs => g_eq (op_conv 3 27 (.tmp 63) rfl ((hs.1 21 rfl 63 rfl).trans (hF 21 rfl)) (conv_u64 n0 (by omega)))⟩,
        .inr ⟨gkT 17 true rfl rfl 59 rfl (fun _ _ h => h), fun A w' γ hb hF hs => g_eq (op_eq_int 27 _ (.tmp 61) (.tmp 64) .u64 ((N1 : Nat)) ((n0 : Nat)) true rfl ((hs.1 19 rfl 61 rfl).trans (hF 19 rfl)) ((hs.1 22 rfl 64 rfl).trans (hF 22 rfl)) (hN1))⟩,
        .inr ⟨gk0 rfl, fun A w' γ hb hF hs => g_eq (op_pick (.tmp 59) (.tmp 65) (.const (.bool false)) true rfl ((hs.1 17 rfl 59 rfl).trans (hF 17 rfl)) ((hs.1 23 rfl 65 rfl).trans (hF 23 rfl)))⟩,
        .inr ⟨gk0 rfl, fun A w' γ hb hF hs => g_eq (op_move (.tmp 66) (.inl rfl) ((hs.1 24 rfl 66 rfl).trans (hF 24 rfl)))⟩,
        .inr ⟨gkT 25 true rfl rfl 67 rfl (fun _ _ h => h), fun A w' γ hb hF hs => g_eq (op_fieldK 31 (.tmp 8) 1 8 rfl g8 ((hs.2 8 rfl).trans rfl) fun _ _ => by kernel_rfl)⟩,
        .inr ⟨gkT 25 true rfl rfl 67 rfl (fun _ _ h => h), fun A w' γ hb hF hs => g_eq (op_cell 26 (.tmp 68) rfl ⟨g8, 8, none⟩ ((hs.1 26 rfl 68 rfl).trans (hF 26 rfl)) (.slice sa r.length sc) (((KK.out.2.1.below hb KK.out.2.1.lt).cell 8).trans (stC_rest Hs _ N1 hHs)) _ Tryd.underlying26 rfl)⟩,
        .inr ⟨gkT 25 true rfl rfl 67 rfl (fun _ _ h => h), fun A w' γ hb hF hs => g_eq (op_len (.tmp 69) 26 _ sa r.length sc rfl ((hs.1 27 rfl 69 rfl).trans (hF 27 rfl)) Tryd.underlying26)⟩,
        .inr ⟨gkT 25 true rfl rfl 67 rfl (fun _ _ h => h), fun A w' γ hb hF hs => g_eq (op_lss 3 _ (.tmp 70) (.const (.int .i64 64)) .i64 (r.length) (64) true rfl ((hs.1 28 rfl 70 rfl).trans (hF 28 rfl)) rfl (hr64))⟩,
        .inr ⟨gk0 rfl, fun A w' γ hb hF hs => g_eq (op_pick (.tmp 67) (.tmp 71) (.const (.bool false)) true rfl ((hs.1 25 rfl 67 rfl).trans (hF 25 rfl)) ((hs.1 29 rfl 71 rfl).trans (hF 29 rfl)))⟩,
        .inr ⟨gk0 rfl, fun A w' γ hb hF hs => g_eq (op_move (.tmp 72) (.inl rfl) ((hs.1 30 rfl 72 rfl).trans (hF 30 rfl)))⟩,
        .inr ⟨gkT 31 true rfl rfl 73 rfl (fun _ _ h => h), fun A w' γ hb hF hs => g_eq (op_fieldK 31 (.tmp 9) 2 9 rfl g9 ((hs.2 9 rfl).trans rfl) fun _ _ => by kernel_rfl)⟩,
        .inr ⟨gkT 31 true rfl rfl 73 rfl (fun _ _ h => h), fun A w' γ hb hF hs => g_eq (op_cell 27 (.tmp 74) rfl ⟨g9, 9, none⟩ ((hs.1 32 rfl 74 rfl).trans (hF 32 rfl)) (.int .u64 (N2 : Nat)) (((KK.out.2.2.1.below hb KK.out.2.2.1.lt).cell 9).trans (stC_num Ht _ N2 hHt)) _ Tryd.underlying27 rfl)⟩,
        .inr ⟨gkT 31 true rfl rfl 73 rfl (fun _ _ h => h), fun A w' γ hb hF hs => g_eq (op_move (.tmp 0) (.inl rfl) ((hs.2 0 rfl).trans rfl))⟩,
        .inr ⟨gkT 31 true rfl rfl 73 rfl (fun _ _ h => h), fun A w' γ hb hF hs => g_eq (op_len (.tmp 76) 26 _ a0 n0 c0 rfl ((hs.1 34 rfl 76 rfl).trans (hF 34 rfl)) Tryd.underlying26)⟩,
        .inr ⟨gkT 31 true rfl rfl 73 rfl (fun _ _ h => h), fun A w' γ hb hF hs => g_eq (op_move (.tmp 1) (.inl rfl) ((hs.2 1 rfl).trans rfl))⟩,
        .inr ⟨gkT 31 true rfl rfl 73 rfl (fun _ _ h => h), fun A w' γ hb hF hs => g_eq (op_len (.tmp 78) 26 _ a1 n1 c1 rfl ((hs.1 36 rfl 78 rfl).trans (hF 36 rfl)) Tryd.underlying26)⟩,
        .inr ⟨gkT 31 true rfl rfl 73 rfl (fun _ _ h => h), fun A w' γ hb hF hs => g_eq (op_add 3 _ (.tmp 77) (.tmp 79) .i64 (n0) (n1) ((n0 + n1 : Nat)) rfl ((hs.1 35 rfl 77 rfl).trans (hF 35 rfl)) ((hs.1 37 rfl 79 rfl).trans (hF 37 rfl)) (hsum))⟩,
        .inr ⟨gkT 31 true rfl rfl 73 rfl (fun _ _ h => h), fun A w' γ hb hF hs => g_eq (op_conv 3 27 (.tmp 80) rfl ((hs.1 38 rfl 80 rfl).trans (hF 38 rfl)) (conv_u64 (n0 + n1) (by omega)))⟩,
        .inr ⟨gkT 31 true rfl rfl 73 rfl (fun _ _ h => h), fun A w' γ hb hF hs => g_eq (op_eq_int 27 _ (.tmp 75) (.tmp 81) .u64 ((N2 : Nat)) ((n0 + n1 : Nat)) true rfl ((hs.1 33 rfl 75 rfl).trans (hF 33 rfl)) ((hs.1 39 rfl 81 rfl).trans (hF 39 rfl)) (hN2))⟩,
        .inr ⟨gk0 rfl, fun A w' γ hb hF hs => g_eq (op_pick (.tmp 73) (.tmp 82) (.const (.bool false)) true rfl ((hs.1 31 rfl 73 rfl).trans (hF 31 rfl)) ((hs.1 40 rfl 82 rfl).trans (hF 40 rfl)))⟩,
        .inr ⟨gk0 rfl, fun A w' γ hb hF hs => g_eq (op_move (.tmp 83) (.inl rfl) ((hs.1 41 rfl 83 rfl).trans (hF 41 rfl)))⟩,
        .inr ⟨gkT 42 true rfl rfl 84 rfl (fun _ _ h => h), fun A w' γ hb hF hs => g_call 16 #[] (exec_call _ 16 #[] rfl rfl (by simp) Tryd.func16 rfl rfl) (Start_st w' (KK.out.2.2.2.1.below hb (Nat.le_refl _)))⟩,
        .inr ⟨gkT 42 true rfl rfl 84 rfl (fun _ _ h => h), fun A w' γ hb hF hs => g_call 22 #[γ 43, .slice none 0 0] (exec_call _ 22 #[γ 43, .slice none 0 0] rfl rfl (margs2 (hs.1 43 rfl 85 rfl) rfl) Tryd.func22 rfl rfl) (Write_ex (γ 43) [] [] none [] 0 0 rfl rfl (Nat.le_refl _) ⟨by omega, by omega⟩ (fun _ => ⟨rfl, rfl⟩) w' (hF 43 rfl) (.inl rfl) (KK.out.2.2.2.1.below hb (Nat.le_refl _)))⟩,
        .inr ⟨gkT 42 true rfl rfl 84 rfl (fun _ _ h => h), fun A w' γ hb hF hs => g_call 15 #[γ 44] (exec_call _ 15 #[γ 44] rfl rfl (margs1 (hs.1 44 rfl 86 rfl)) Tryd.func15 rfl rfl) (Theirs_ex (γ 44) [] w' (hF 44 rfl))⟩,
        .inr ⟨gkT 42 true rfl rfl 84 rfl (fun _ _ h => h), fun A w' γ hb hF hs => g_call 16 #[] (exec_call _ 16 #[] rfl rfl (by simp) Tryd.func16 rfl rfl) (Start_st w' (KK.out.2.2.2.1.below hb (Nat.le_refl _)))⟩,
        .inr ⟨gkT 42 true rfl rfl 84 rfl (fun _ _ h => h), fun A w' γ hb hF hs => g_call 15 #[γ 46] (exec_call _ 15 #[γ 46] rfl rfl (margs1 (hs.1 46 rfl 88 rfl)) Tryd.func15 rfl rfl) (Theirs_ex (γ 46) [] w' (hF 46 rfl))⟩,
        .inr ⟨gkT 42 true rfl rfl 84 rfl (fun _ _ h => h), fun A w' γ hb hF hs => g_eq (op_call 14 #[γ 45, γ 47] (exec_call _ 14 #[γ 45, γ 47] rfl rfl (margs2 (hs.1 45 rfl 87 rfl) (hs.1 47 rfl 89 rfl)) Tryd.func14 rfl rfl) (Same_at (γ 45) (γ 47) [] w' (hF 45 rfl) (hF 47 rfl)))⟩,
        .inr ⟨gk0 rfl, fun A w' γ hb hF hs => g_eq (op_pick (.tmp 84) (.tmp 90) (.const (.bool false)) true rfl ((hs.1 42 rfl 84 rfl).trans (hF 42 rfl)) ((hs.1 48 rfl 90 rfl).trans (hF 48 rfl)))⟩,
        .inr ⟨gk0 rfl, fun A w' γ hb hF hs => g_eq (op_move (.tmp 91) (.inr rfl) ((hs.1 49 rfl 91 rfl).trans (hF 49 rfl)))⟩,
        trivial⟩ ?_
      intro γ w' hb hF
      have bz := bt KK.out.2.2.2.2.2.2 hb
      have ez : γ 50 = .bool true := hF 50 (by decide)
      simp only [Fr, if_true, Act.put, List.setIfInBounds_toArray, List.set_cons_zero, List.set_cons_succ]
      rw [ez]
      clear ez hF hN1 hN2 hr64 hsum hHs hHt hlr
      go_wp2
      go_ret
      exact ⟨rfl, bz⟩
end Go.Proofs.YtfebknplkbeblaaDoor
