/- target.Total: works added. -/
import Derived.Test.YtlkjcijbmfgjiaaTargE
import Derived.Test.YtlkjcijbmfgjiaaOne
import Derived.Test.YtlkjcijbmfgjiaaCellSt
import Derived.Test.YtlkjcijbmfgjiaaOpsC
namespace Go.Proofs.Ytlkjcijbmfgjiaa
open Go.RowKit
set_option linter.unusedVariables false
/-- A row of numbers is read from a on. -/
def RdN (w : World) (a : Option Addr) (l : List Nat) : Prop := l = [] ∨ ∃ b o, a = some ⟨b, o, none⟩ ∧ b < w.heap.size ∧ ∀ i, i < l.length → w.cell? ⟨b, o + i, none⟩ = some (.int .u32 (l.getD i 0 : Nat))
theorem RdN.below {B : Nat} {w w' : World} {a : Option Addr} {l : List Nat} (h : RdN w a l) (hb : Below B w w') (hB : w.heap.size ≤ B) : RdN w' a l := by
  rcases h with h | ⟨b, o, h1, h2, h3⟩
  · exact .inl h
  · refine .inr ⟨b, o, h1, Nat.lt_of_lt_of_le h2 hb.size, fun i hi => ?_⟩
    rw [hb.cell (p := ⟨b, o + i, none⟩) (Nat.lt_of_lt_of_le h2 hB)]
    exact h3 i hi
/-- The works of the first k. -/
def totW (l : List Nat) : Nat → Nat
  | 0 => 0
  | k + 1 => totW l k + workR (l.getD k 0)
theorem workR_lt (b : Nat) : workR b < T := by
  unfold workR
  split
  · rename_i h
    obtain ⟨h1, h2⟩ := expR_good b (expR b).1 (by rw [← h])
    have h0 : (T - 1 - (expR b).1) / ((expR b).1 + 1) ≤ (T - 1 - (expR b).1) / 2 := Nat.div_le_div_left (by omega) (by omega)
    have h3 : (T - 1 - (expR b).1) / 2 ≤ (T - 1) / 2 := Nat.div_le_div_right (by omega)
    have h4 : (T - 1) / 2 + 1 < T := by decide +kernel
    omega
  · decide
theorem idx_u32 (b o n c k : Nat) (hk : k < n) (w : World) : (Instr.indexAt 44 (.slice (some ⟨b, o, none⟩) n c) (.int .i64 k)).run Try.prog w = .ok (.pointer (some ⟨b, o + k, none⟩)) w := by
  obtain ⟨i, hi⟩ := Option.isSome_iff_exists.1 (show (Try.prog.info? 28).isSome = true by kernel_rfl)
  have h1 : i.size = 1 := by
    have : (Try.prog.info? 28).map (·.size) = some 1 := by kernel_rfl
    rw [hi] at this
    simpa using this
  have e1 : (0 : Int) ≤ (k : Int) ∧ (k : Int) < (n : Int) := by omega
  simp [Instr.indexAt, go_sem, run_underlying Try.underlying44, asIntOf, sizeOf, typeInfo, hi, h1, e1, Addr.add]
  rw [if_pos hk]
  by_cases h : k = 0 <;> simp [h]
set_option maxRecDepth 100000 in
set_option maxHeartbeats 4000000 in
theorem Total_any (a : Option Addr) (l : List Nat) (n c : Nat) (hn : l.length = n) (hn2 : n ≤ 1000) (hl : ∀ k, l.getD k 0 < 4294967296) (w : World) (hr : RdN w a l) :
    Calls Try.prog 24 #[.slice a n c] w fun e w' => e = .returned (.tuple #[uval (totW l n % T), .bool (decide (T ≤ totW l n))]) ∧ Below w.heap.size w w' := by
  have HR := Lib.hid (And.intro hr (And.intro hn hl)); clear hr hn hl
  unfold uval
  go_enter Try.func24, Try.ntmps24
  go_wp2
  go_loopw [5, 10] (fun v5 v10 wr => ∃ k s : Nat, ∃ b : Bool, k ≤ n ∧ v10 = .int .i64 k ∧ s = totW l k % T ∧ b = decide (T ≤ totW l k) ∧ v5 = .bool b ∧ Blk wr (w.heap.size) 26 (outs 0 0) ∧ Blk wr (w.heap.size + 1) 26 (ucells s) ∧ Below w.heap.size w wr) (fun _ v10 _ => n - (intOf v10).toNat)
  case atStart =>
    refine ⟨0, 0, false, by omega, rfl, rfl, (decide_eq_false (show ¬ T ≤ 0 by decide)).symm, rfl, ?_, ?_, ?_⟩
    · exact (Blk.newAt _ _ _ rfl).alloc _
    · exact (Blk.newAt _ _ _ (by simp)).to (by simp [ucells, lim])
    · exact ((Below.refl _ _).alloc (Nat.le_refl _) _).alloc (by simp) _
  case round =>
    obtain ⟨k, s, b, hk, rfl, hs, hb, rfl, h1, h2, bb⟩ := hrel
    by_cases hlt : k < n
    · have hx1 : IntKind.i64.wrap ((k : Int) + 1) = ((k + 1 : Nat) : Int) := by simp [IntKind.wrap, IntKind.signed, IntKind.bits]; omega
      obtain ⟨x, hx⟩ : ∃ x, x = l.getD k 0 := ⟨_, rfl⟩
      obtain ⟨v, hv⟩ : ∃ v, v = workR x := ⟨_, rfl⟩
      have hsT : s < T := by rw [hs]; exact Nat.mod_lt _ (by decide)
      have hvT : v < T := by rw [hv]; exact workR_lt x
      obtain ⟨r, ov, hso⟩ := sum_ex s v hsT hvT
      have hnew : r = totW l (k + 1) % T ∧ (b || ov) = decide (T ≤ totW l (k + 1)) := by
        obtain ⟨_, _, s3, s4⟩ := hso
        have e : totW l (k + 1) = totW l k + v := by rw [hv, hx]; rfl
        rw [e]
        clear hx hv e hx1
        generalize totW l k = t at *
        have hT : 0 < T := by decide
        constructor
        · have e1 : (t + v) % T = (s + v) % T := by rw [hs, Nat.mod_add_mod]
          rw [e1, s4]
          cases ov
          · simp [Nat.mod_eq_of_lt s3]
          · simp [Nat.mod_eq_of_lt s3]
        · rw [hb]
          by_cases ht : T ≤ t
          · rw [decide_eq_true ht, decide_eq_true (by omega)]; rfl
          · have es : s = t := by rw [hs]; exact Nat.mod_eq_of_lt (by omega)
            rw [decide_eq_false ht, Bool.false_or]
            subst es
            cases ov
            · simp at s4; symm; apply decide_eq_false; omega
            · simp at s4; symm; apply decide_eq_true; omega
      rcases HR.out.1 with h0 | ⟨bk, off, ha, hbk, hcell⟩
      · exfalso
        have := HR.out.2.1
        rw [h0] at this
        simp at this
        omega
      subst ha
      have hc := hcell k (by rw [HR.out.2.1]; exact hlt)
      rw [← hx] at hc
      have hxl : x < 4294967296 := by rw [hx]; exact HR.out.2.2 k
      obtain ⟨k1, hk1⟩ : ∃ k1, k1 = k + 1 := ⟨_, rfl⟩
      rw [← hk1] at hx1 hnew
      have HK := Lib.hid (And.intro hk1 (And.intro hnew hcell)); clear hk1 hnew hcell hs hb
      have HS := Lib.hid (And.intro hso (And.intro hxl hv)); clear hso hxl hv hx hsT hvT
      have hwb := bb.size
      have cE : ∀ w', Below w.heap.size wr w' → w'.cell? ⟨bk, off + k, none⟩ = some (.int .u32 (x : Nat)) := fun w' hb' => ((bb.trans hb').cell (p := ⟨bk, off + k, none⟩) hbk).trans hc
      have cW := fun w => Work_any x HS.out.2.1 w
      rw [← HS.out.2.2] at cW
      have CW := Lib.hid cW; clear cW
      have CE := Lib.hid cE; clear cE hc
      go_wp2_with fail
      refine wp_region_one w.heap.size [some 14, some 15, some 16, some 17, some 18, some 19, some 20, some 13, some 21, some 22, none, some 7] (w.heap.size + 1) 26 (ucells s) (ucells r) 10 [(0, 6), (6, 7), (7, 8), (8, 10)] (fun i => ([uval s, .slice (some ⟨bk, off, none⟩) n c, .int .i64 k, .pointer (some ⟨bk, off + k, none⟩), .int .u32 x, uval v, .tuple #[uval r, .bool ov], .tuple #[uval r, .bool ov], uval r, .bool ov, undef, .bool ov] : List Value).getD i undef) hwb (by kernel_rfl) rfl rfl rfl rfl rfl rfl h2 ⟨
        ⟨rfl, .inl ⟨rfl, fun A w' hb hk hz hs => op_load 26 (.tmp 4) rfl ((hs.2 4 rfl).trans rfl) (hz rfl) Try.underlying26 (i26 _)⟩⟩,
        ⟨rfl, .inl ⟨rfl, fun A w' hb hk hz hs => op_move (.tmp 0) (.inl rfl) ((hs.2 0 rfl).trans rfl)⟩⟩,
        ⟨rfl, .inl ⟨rfl, fun A w' hb hk hz hs => op_move (.tmp 6) (.inl rfl) ((hs.2 6 rfl).trans rfl)⟩⟩,
        ⟨rfl, .inl ⟨rfl, fun A w' hb hk hz hs => op_idxa 44 (.tmp 15) (.tmp 16) rfl (hs.1 1 rfl 15 rfl) (hs.1 2 rfl 16 rfl) (idx_u32 bk off n c k hlt _)⟩⟩,
        ⟨rfl, .inl ⟨rfl, fun A w' hb hk hz hs => op_cel 28 (.tmp 17) rfl ⟨bk, off + k, none⟩ (hs.1 3 rfl 17 rfl) _ (CE.out w' hb) _ Try.underlying28 rfl⟩⟩,
        ⟨rfl, .inl ⟨rfl, fun A w' hb hk hz hs => op_call 19 _ (exec_call _ 19 _ rfl rfl (oargs1 (hs.1 4 rfl 18 rfl)) Try.func19 rfl rfl) (CW.out _)⟩⟩,
        ⟨rfl, .inl ⟨rfl, fun A w' hb hk hz hs => op_call 20 _ (exec_call _ 20 _ rfl rfl (oargs2 (hs.1 0 rfl 14 rfl) (hs.1 5 rfl 19 rfl)) Try.func20 rfl rfl) (Add_any s v r ov _ HS.out.1)⟩⟩,
        ⟨rfl, .inl ⟨rfl, fun A w' hb hk hz hs => op_move (.tmp 20) (.inl rfl) (hs.1 6 rfl 20 rfl)⟩⟩,
        ⟨rfl, .inl ⟨rfl, fun A w' hb hk hz hs => op_extract (.tmp 13) 0 _ rfl (hs.1 7 rfl 13 rfl) rfl⟩⟩,
        ⟨rfl, .inl ⟨rfl, fun A w' hb hk hz hs => op_extract (.tmp 13) 1 _ rfl (hs.1 7 rfl 13 rfl) rfl⟩⟩,
        ⟨rfl, .inr ⟨rfl, rfl, 26, .tmp 4, .tmp 21, rfl, fun A hs => ⟨(hs.2 4 rfl).trans rfl, hs.1 8 rfl 21 rfl⟩, i26 _, rfl, uc_one _, Nat.le_succ _⟩⟩,
        ⟨rfl, .inl ⟨rfl, fun A w' hb hk hz hs => op_move (.tmp 22) (.inr rfl) (hs.1 9 rfl 22 rfl)⟩⟩, trivial⟩ ?_
      intro w5 hbq hsz hkp Qk
      simp only [Fr, if_true, Act.put, List.setIfInBounds_toArray, List.set_cons_zero, List.set_cons_succ, List.getD_cons_zero, List.getD_cons_succ]
      have R := hkp.blk h1 (.inr (by intro s hs; obtain rfl := List.mem_singleton.1 hs; simp))
      have BB : Below w.heap.size w w5 := bb.trans hbq
      have K := Lib.hid (And.intro R (And.intro Qk BB)); clear R Qk BB hkp hbq hsz h1 h2 bb hwb
      cases b
      · go_wp2
        go_roundw
        case rel =>
          refine ⟨k1, r, ov, by have := HK.out.1; omega, rfl, HK.out.2.1.1, ?_, rfl, K.out.1, K.out.2.1, K.out.2.2⟩
          have := HK.out.2.1.2
          rw [Bool.false_or] at this
          exact this
        case measure => have := HK.out.1; simp [intOf]; omega
      · go_wp2
        go_roundw
        case rel =>
          refine ⟨k1, r, true, by have := HK.out.1; omega, rfl, HK.out.2.1.1, ?_, rfl, K.out.1, K.out.2.1, K.out.2.2⟩
          have := HK.out.2.1.2
          rw [Bool.true_or] at this
          exact this
        case measure => have := HK.out.1; simp [intOf]; omega
    · obtain rfl : k = n := by omega
      have HE := Lib.hid (And.intro hs hb)
      have HO := Lib.hid bb; clear bb hs hb
      have q1 := h1.cell
      have f1 := h1.frozen
      have q2 := h2.cell
      simp only [ucells] at q2
      simp only [outs] at q1
      clear h1 h2
      go_wp2
      refine bodyPost_ret (v := .tuple #[uval s, .bool b]) ?_ rfl ⟨by rw [← HE.out.1, ← HE.out.2], ?_⟩
      · simp [results, Try.results24, go_sem, uval, q1]
      · exact (((HO.out.setCell (by simp) _).setCell (by simp) _).setCell (by simp) _).setCell (by simp) _
end Go.Proofs.Ytlkjcijbmfgjiaa
