/- Any number as bytes and as a text, and any bytes and text as a number: the walk of U256Texts. -/
import Derived.Test.YtlnognioflfknaaRefG
import Derived.Test.YtlnognioflfknaaRefDiv
namespace Go.Proofs.Ytlnognioflfknaa
open Go.RowKit
set_option linter.unusedVariables false
theorem RdL.below1 {w w' : World} {a : Option Addr} {l : List UInt8} (h : RdL w a l) (hb : Below w.heap.size w w') : RdL w' a l := by
  rcases h with h | ⟨g, off, e, hg, hr⟩
  · exact .inl h
  · exact .inr ⟨g, off, e, Nat.lt_of_lt_of_le hg hb.size, hr.calls hg hb⟩
theorem RdL.calls1 {w w' : World} {a : Option Addr} {l : List UInt8} (h : RdL w a l) (hb : Below w.heap.size w w') : RdL w' a l := h.below1 hb
/-- What bytes come to as a number. -/
def fbR (l : List UInt8) : Nat × Int := if 32 < l.length then (0, 3) else (fbV l, 0)
theorem FB_is (n : Nat) (l : List UInt8) (a : Option Addr) (c x : Nat) (e : Int) (w : World) (hn : l.length = n) (hm : n ≤ 140737488355328) (hr : RdL w a l) (h : fbR l = (x, e)) :
    Calls Try.prog 27 #[.slice a n c] w fun r w' => r = .returned (.tuple #[uval x, .int .i64 e]) ∧ Below w.heap.size w w' := by
  subst hn
  unfold fbR at h
  split at h
  · injection h with h1 h2
    subst h1 h2
    exact FromBytes_big a l.length c w (by assumption) (by omega)
  · injection h with h1 h2
    subst h1 h2
    rcases hr with rfl | ⟨g, off, rfl, hg, hr⟩
    · exact FromBytes_nil a c w
    · exact FromBytes_any g off c l w hr hg (by omega)
theorem RFB_is (n : Nat) (l : List UInt8) (a : Option Addr) (c x : Nat) (e : Int) (w : World) (hn : l.length = n) (hm : n ≤ 140737488355328) (hr : RdL w a l) (h : fbR l = (x, e)) :
    Calls Try.prog 28 #[.slice a n c] w fun r w' => r = .returned (.tuple #[uval x, .int .i64 e]) ∧ Below w.heap.size w w' := by
  subst hn
  unfold fbR at h
  split at h
  · injection h with h1 h2
    subst h1 h2
    exact RFromBytes_big a l.length c w (by assumption) (by omega)
  · injection h with h1 h2
    subst h1 h2
    exact RFromBytes_any a l.length c l w rfl (by omega) hr
theorem FH_is (S : ByteArray) (ls : List UInt8) (z : Nat) (g : Int) (w : World) (hS : S = bstr ls) (h : hexR ls = (z, g)) :
    Calls Try.prog 29 #[.string S] w fun r w' => r = .returned (.tuple #[uval z, .int .i64 g]) ∧ Below w.heap.size w w' := by
  subst hS
  by_cases h0 : ls = []
  · subst h0
    have e : hexR [] = (0, 2) := rfl
    rw [e] at h
    injection h with h1 h2
    subst h1 h2
    exact FromHex_empty w
  · have := FromHex_some ls w h0
    rw [h] at this
    exact this
theorem RFH_is (S : ByteArray) (ls : List UInt8) (k z : Nat) (g : Int) (w : World) (hS : S = bstr ls) (hk : ls.length = k) (h3 : k ≤ 300) (h : hexR ls = (z, g)) :
    Calls Try.prog 30 #[.string S] w fun r w' => r = .returned (.tuple #[uval z, .int .i64 g]) ∧ Below w.heap.size w w' := by
  subst hS
  by_cases h0 : ls = []
  · subst h0
    have e : hexR [] = (0, 2) := rfl
    rw [e] at h
    injection h with h1 h2
    subst h1 h2
    exact RFromHex_empty w
  · have := RFromHex_some ls k hk (by rcases ls with _ | ⟨x, t⟩ <;> simp_all; omega) h3 w
    rw [h] at this
    exact this
theorem eqB32 (l : List UInt8) (hl : l.length = 32) (w : World) :
    (Op.equalIn 10000 53 (.agg (u8cells l)) (.agg (u8cells l))).run Try.prog w = .ok true w := by
  obtain ⟨i, hi⟩ := Option.isSome_iff_exists.1 (show (Try.prog.info? 5).isSome = true by kernel_rfl)
  refine run_eqInts (P := Try.prog) w .u8 .u8 (by kernel_rfl) Try.underlying5 Try.underlying53 hi (by kernel_rfl) (fun i => ((l.getD i 0).toNat : Int)) (fun i => ((l.getD i 0).toNat : Int)) _ _ (fun i h => ⟨u8cells_at' l i (by omega), u8cells_at' l i (by omega)⟩) true (by simp)
set_option maxRecDepth 100000 in
set_option maxHeartbeats 4000000 in
theorem Texts_core (m : Nat) (a : Option Addr) (l : List UInt8) (n c : Nat) (S : ByteArray) (ls : List UInt8) (k x z : Nat) (e g : Int) (B : Array Value) (X : ByteArray) (w : World) (hsz : S.size = k)
    (HS : Hid (m < T ∧ RdL w a l ∧ l.length = n ∧ n ≤ 140737488355328 ∧ S = bstr ls ∧ fbR l = (x, e) ∧ hexR ls = (z, g) ∧ x < T ∧ z < T ∧ u8cells (byB m 32) = B ∧ bstr (hexB m (hexLen m)) = X ∧ ls.length = k)) :
    Calls Try.prog 5 #[uval m, .slice a n c, .string S] w fun e w' => e = .returned (.bool true) ∧ Below w.heap.size w w' := by
  have ex := fun w => eqRR x x true HS.out.2.2.2.2.2.2.2.1 HS.out.2.2.2.2.2.2.2.1 (by simp) w
  have ez := fun w => eqRR z z true HS.out.2.2.2.2.2.2.2.2.1 HS.out.2.2.2.2.2.2.2.2.1 (by simp) w
  have eB := fun w => eqB32 (byB m 32) (by simp [byB]) w
  have cB1 := fun w => Bytes_any m w HS.out.1
  have cB2 := fun w => RBytes_any m w HS.out.1
  have cH1 := fun w => Hex_any m w HS.out.1
  have cH2 := fun w => RHex_any m w HS.out.1
  rw [HS.out.2.2.2.2.2.2.2.2.2.1] at eB cB1 cB2
  rw [HS.out.2.2.2.2.2.2.2.2.2.2.1] at cH1 cH2
  unfold uval at cB1 cB2 cH1 cH2
  unfold uval
  go_enter Try.func5, Try.ntmps5
  go_wp2_with fail
  refine (Awake01 _).mono ?_
  rintro e w1 ⟨rfl, hb⟩
  have q_a : Blk w1 (w.heap.size) 24 (ucells m) := (Blk.newAt _ _ (ucells m) rfl).calls hb
  have bb := bt (ba (Below.refl w.heap.size w) _) hb
  replace l_a := q_a.lt
  clear hb
  have hrd1 : RdL w1 a l := HS.out.2.1.calls1 bb
  by_cases h200 : ¬ (n ≤ 200 ∧ k ≤ 300)
  · rcases (show 200 < n ∨ (n ≤ 200 ∧ 300 < k) from by omega) with h1 | ⟨h1, h2⟩
    · have h1' : (200 : Int) < (n : Int) := by omega
      go_wp2
      go_ret
      exact ⟨rfl, bb⟩
    · have h1' : ¬ (200 : Int) < (n : Int) := by omega
      have h2' : (300 : Int) < (k : Int) := by omega
      go_wp2
      go_ret
      exact ⟨rfl, bb⟩
  have h200 := Classical.not_not.1 h200
  have h1' : ¬ (200 : Int) < (n : Int) := by omega
  have h2' : ¬ (300 : Int) < (k : Int) := by omega
  go_wp2_with fail
  refine (FB_is n l a c x e _ HS.out.2.2.1 HS.out.2.2.2.1 hrd1 HS.out.2.2.2.2.2.1).mono ?_
  rintro e w2 ⟨rfl, hb⟩
  simp only [uval]
  replace q_a : Blk w2 (w.heap.size) 24 (ucells m) := q_a.calls hb
  replace bb := bt bb hb
  replace l_a := q_a.lt
  have hb0 := hb
  clear hb
  replace hrd1 : RdL (w2.alloc (Obj.cells (ucells x) 26)) a l := hrd1.below1 (ba (bt (Below.refl _ _) hb0) _)
  clear hb0
  go_wp2_with fail
  refine (RFB_is n l a c x e _ HS.out.2.2.1 HS.out.2.2.2.1 hrd1 HS.out.2.2.2.2.2.1).mono ?_
  rintro e w3 ⟨rfl, hb⟩
  simp only [uval]
  replace q_a : Blk w3 (w.heap.size) 24 (ucells m) := (q_a.alloc _).calls hb
  have q_x : Blk w3 (w2.heap.size) 26 (ucells x) := (Blk.newAt w2 _ (ucells x) rfl).calls hb
  replace bb := bt (ba bb _) hb
  replace l_a := q_a.lt
  replace l_x := q_x.lt
  clear hb
  go_wp2_with fail
  refine (FH_is S ls z g _ HS.out.2.2.2.2.1 HS.out.2.2.2.2.2.2.1).mono ?_
  rintro e w4 ⟨rfl, hb⟩
  simp only [uval]
  replace q_a : Blk w4 (w.heap.size) 24 (ucells m) := (q_a.alloc _).calls hb
  replace q_x : Blk w4 (w2.heap.size) 26 (ucells x) := (q_x.alloc _).calls hb
  have q_y : Blk w4 (w3.heap.size) 24 (ucells x) := (Blk.newAt w3 _ (ucells x) rfl).calls hb
  replace bb := bt (ba bb _) hb
  replace l_a := q_a.lt
  replace l_x := q_x.lt
  replace l_y := q_y.lt
  clear hb
  go_wp2_with fail
  refine (RFH_is S ls k z g _ HS.out.2.2.2.2.1 HS.out.2.2.2.2.2.2.2.2.2.2.2 (by omega) HS.out.2.2.2.2.2.2.1).mono ?_
  rintro e w5 ⟨rfl, hb⟩
  simp only [uval]
  replace q_a : Blk w5 (w.heap.size) 24 (ucells m) := (q_a.alloc _).calls hb
  replace q_x : Blk w5 (w2.heap.size) 26 (ucells x) := (q_x.alloc _).calls hb
  replace q_y : Blk w5 (w3.heap.size) 24 (ucells x) := (q_y.alloc _).calls hb
  have q_z : Blk w5 (w4.heap.size) 26 (ucells z) := (Blk.newAt w4 _ (ucells z) rfl).calls hb
  replace bb := bt (ba bb _) hb
  replace l_a := q_a.lt
  replace l_x := q_x.lt
  replace l_y := q_y.lt
  replace l_z := q_z.lt
  clear hb
  go_wp2_with fail
  change Code.wp _ _ _ _ (w5.alloc (Obj.cells (ucells z) 24))
  replace q_a : Blk (w5.alloc (Obj.cells (ucells z) 24)) (w.heap.size) 24 (ucells m) := (q_a.alloc _)
  replace q_x : Blk (w5.alloc (Obj.cells (ucells z) 24)) (w2.heap.size) 26 (ucells x) := (q_x.alloc _)
  replace q_y : Blk (w5.alloc (Obj.cells (ucells z) 24)) (w3.heap.size) 24 (ucells x) := (q_y.alloc _)
  replace q_z : Blk (w5.alloc (Obj.cells (ucells z) 24)) (w4.heap.size) 26 (ucells z) := (q_z.alloc _)
  have q_u : Blk (w5.alloc (Obj.cells (ucells z) 24)) (w5.heap.size) 24 (ucells z) := (Blk.newAt w5 _ (ucells z) rfl)
  replace bb : Below w.heap.size w (w5.alloc (Obj.cells (ucells z) 24)) := (ba bb _)
  generalize (w5.alloc (Obj.cells (ucells z) 24)) = w6 at *
  replace l_a := q_a.lt
  replace l_x := q_x.lt
  replace l_y := q_y.lt
  replace l_z := q_z.lt
  replace l_u := q_u.lt
  go_wp2_with fail
  try simp only [List.append_eq, List.cons_append, List.nil_append]
  refine wp_region_class (fun w' => Below w6.heap.size w6 w') (by kernel_rfl) (by kernel_rfl) (Below.refl _ _).drew ?_
  intro Idx hI V hS hcl
  have f_a := fun n => cl4 (q_a.below (hS n) l_a)
  have f_x := fun n => cl4 (q_x.below (hS n) l_x)
  have f_y := fun n => cl4 (q_y.below (hS n) l_y)
  have f_z := fun n => cl4 (q_z.below (hS n) l_z)
  have f_u := fun n => cl4 (q_u.below (hS n) l_u)
  repeat go_big_quiet_step (first | (go_at_call 20; (with_reducible refine Calls.cls (RTheirs_any _ _) ?_); intro w' hb; exact hcl w' (bt (hS _) hb)) | (go_at_call 11; (with_reducible refine Calls.cls (Ours_any _ _) ?_); intro w' hb; exact hcl w' (bt (hS _) hb)) | (go_at_call 31; (with_reducible refine Calls.cls (cB1 _) ?_); intro w' hb; exact hcl w' (bt (hS _) hb)) | (go_at_call 32; (with_reducible refine Calls.cls (cB2 _) ?_); intro w' hb; exact hcl w' (bt (hS _) hb)) | (go_at_call 33; (with_reducible refine Calls.cls (cH1 _) ?_); intro w' hb; exact hcl w' (bt (hS _) hb)) | (go_at_call 34; (with_reducible refine Calls.cls (cH2 _) ?_); intro w' hb; exact hcl w' (bt (hS _) hb)))
  refine wpQuiet_nil ?_
  rintro _ ⟨nq, rfl⟩
  have hb := hS nq
  clear hcl hS f_a f_x f_y f_z f_u
  replace q_a : Blk (V nq) (w.heap.size) 24 (ucells m) := q_a.calls hb
  replace q_x : Blk (V nq) (w2.heap.size) 26 (ucells x) := q_x.calls hb
  replace q_y : Blk (V nq) (w3.heap.size) 24 (ucells x) := q_y.calls hb
  replace q_z : Blk (V nq) (w4.heap.size) 26 (ucells z) := q_z.calls hb
  replace q_u : Blk (V nq) (w5.heap.size) 24 (ucells z) := q_u.calls hb
  replace bb := bt bb hb
  clear hb
  generalize V nq = w7 at *
  replace l_a := q_a.lt
  replace l_x := q_x.lt
  replace l_y := q_y.lt
  replace l_z := q_z.lt
  replace l_u := q_u.lt
  go_wp2
  go_ret
  exact ⟨rfl, bb⟩
end Go.Proofs.Ytlnognioflfknaa
