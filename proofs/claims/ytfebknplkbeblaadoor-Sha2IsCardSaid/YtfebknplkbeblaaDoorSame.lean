/- florinlaw02's theirs; the document's Same, of states that are the same. -/
import Derived.Test.YtfebknplkbeblaaDoorShaO
import Derived.Test.YtfebknplkbeblaaDoorGuard
namespace Go.Proofs.YtfebknplkbeblaaDoor
open Go.RowKit
set_option linter.unusedVariables false

section
variable {P : Program} {Q : Exit → Act → World → Prop} {o : Oper} {A : Act} {w : World} {u : Value}
theorem op_fieldK (T : TypeId) (x : Operand) (k off : Nat) (ho : o.op = .fieldAddr T x k) (g : Nat) (hx : A.eval x = .pointer (some ⟨g, 0, none⟩)) (hf : ∀ (g : Nat) (w : World), (Instr.fieldAt T (.pointer (some ⟨g, 0, none⟩)) k).run P w = .ok (.pointer (some ⟨g, off, none⟩)) w) :
    o.wp P A w (fun a' w'' => a' = A.put o.dst (.pointer (some ⟨g, off, none⟩)) ∧ Below w.heap.size w w'') Q := by
  refine op_run ?_
  unfold execOp
  simp only [ho, hx, Sem.run_bind, hf]
  rfl
theorem op_conv (src dst : TypeId) (x : Operand) {v : Value} (ho : o.op = .convert src dst x) (hx : A.eval x = v) (hrun : (convert src dst v).run P w = .ok u w) : o.wp P A w (fun a' w'' => a' = A.put o.dst u ∧ Below w.heap.size w w'') Q := by
  refine op_run ?_
  unfold execOp
  simp only [ho, hx, Sem.run_bind, hrun]
  rfl
end
theorem str_of {w : World} {a : Option Addr} {r : List UInt8} {len c : Nat} (h : RdS w a r) (hl : r.length = len) : (convert 26 9 (.slice a len c)).run Tryd.prog w = .ok (.string (bstr r)) w := by
  rcases h with rfl | ⟨g, off, rfl, hg, hr⟩
  · subst hl
    cases a with
    | none => exact run_convert_bytes_nil w 26 5 Tryd.underlying26 Tryd.underlying5 0 c 9 Tryd.underlying9
    | some p =>
      have h0 : (loadCells p 0).run Tryd.prog w = .ok #[] w := run_loadCells_list (P := Tryd.prog) w p [] (fun j v hj => by simp at hj)
      have h1 := run_bytesToString (P := Tryd.prog) w p 0 c [] (by simpa using h0)
      rw [List.length_nil, run_convert_bytes_string w 26 9 5 _ 0 c Tryd.underlying26 Tryd.underlying5 Tryd.underlying9, h1]
      rfl
  · have e := run_convert_bytes_arg (P := Tryd.prog) w 26 5 Tryd.underlying26 Tryd.underlying5 g off len c (r.map fun c => (c.toNat : Int)) (by simpa using hl) (fun i hi => ?_) 9 Tryd.underlying9
    · rw [e, strOf_u8]
    · rw [hr i (by omega)]
      have : i < r.length := by omega
      simp [List.getD, List.getElem?_eq_getElem this]
theorem eqW (H : List Wd) (hH : H.length = 8) (w : World) : (Op.equalIn 10000 25 (.agg (u32c H)) (.agg (u32c H))).run Tryd.prog w = .ok true w := by
  obtain ⟨i, hi⟩ := Option.isSome_iff_exists.1 (show (Tryd.prog.info? 24).isSome = true by kernel_rfl)
  exact run_eqInts w .u32 .u32 (by kernel_rfl) Tryd.underlying24 Tryd.underlying25 hi (by kernel_rfl) (fun i => (wn (H.getD i 0) : Int)) (fun i => (wn (H.getD i 0) : Int)) _ _ (fun i hi => ⟨u32c_at H i (by omega), u32c_at H i (by omega)⟩) true (by simp)
theorem isRS (c : Array Value) (h : c.size = 10) : (Tryd.prog.info? 29).map (·.size) = some c.size := by rw [h]; kernel_rfl
set_option maxRecDepth 100000 in
theorem Theirs_any (H : List Wd) (hH : H.length = 8) (a : Option Addr) (len c n : Nat) (w : World) :
    Calls Tryd.prog 15 #[.agg (stC H (.slice a len c) n)] w fun e w' => e = .returned (.agg (stC H (.slice a len c) n)) ∧ Below w.heap.size w w' := by
  obtain ⟨x0, x1, x2, x3, x4, x5, x6, x7, rfl⟩ := eight H hH
  rw [stC_lit]
  go_enter Tryd.func15, Tryd.ntmps15
  go_wp2
  refine bodyPost_ret (v := .agg #[.int .u32 (wn x0), .int .u32 (wn x1), .int .u32 (wn x2), .int .u32 (wn x3), .int .u32 (wn x4), .int .u32 (wn x5), .int .u32 (wn x6), .int .u32 (wn x7), .slice a len c, .int .u64 n]) (by simp [results, Tryd.results15, go_sem]) rfl ⟨rfl, ?_⟩
  exact ba (ba (Below.refl _ _) _) _
theorem Theirs_at (v : Value) (txt : List UInt8) (w : World) (h : StAt w v txt) : Calls Tryd.prog 15 #[v] w fun e w' => e = .returned v ∧ Below w.heap.size w w' := by
  obtain ⟨a, c, rfl, hr, h1, h2⟩ := h
  exact Theirs_any _ (absH_length _ _ HI_length) _ _ _ _ w
set_option maxRecDepth 100000 in
set_option maxHeartbeats 1000000 in
theorem Same_true (H : List Wd) (hH : H.length = 8) (a b : Option Addr) (r : List UInt8) (c d n : Nat) (w : World) (ha : RdS w a r) (hb : RdS w b r) :
    Calls Tryd.prog 14 #[.agg (stC H (.slice a r.length c) n), .agg (stC H (.slice b r.length d) n)] w fun e w' => e = .returned (.bool true) ∧ Below w.heap.size w w' := by
  have i8 := is8 (u32c H) (by rw [u32c_size, hH])
  obtain ⟨S, hS⟩ : ∃ S, S = stC H (.slice a r.length c) n := ⟨_, rfl⟩
  obtain ⟨U, hU⟩ : ∃ U, U = stC H (.slice b r.length d) n := ⟨_, rfl⟩
  rw [← hS, ← hU]
  have bb : Below w.heap.size w ((w.alloc (.cells S 29)).alloc (.cells U 29)) := ba (ba (Below.refl _ _) _) _
  have B2 : Blk ((w.alloc (.cells S 29)).alloc (.cells U 29)) w.heap.size 29 S := (Blk.newAt w _ S rfl).alloc _
  have B3 : Blk ((w.alloc (.cells S 29)).alloc (.cells U 29)) (w.heap.size + 1) 29 U := Blk.second w _ _ _
  have s1 := str_of (c := c) (ha.below bb (Nat.le_refl _)) rfl
  have s2 := str_of (c := d) (hb.below bb (Nat.le_refl _)) rfl
  have c1 : S[8]? = some (.slice a r.length c) := by rw [hS]; exact stC_rest H _ n hH
  have c2 : U[8]? = some (.slice b r.length d) := by rw [hU]; exact stC_rest H _ n hH
  have c3 : S[9]? = some (.int .u64 n) := by rw [hS]; exact stC_num H _ n hH
  have c4 : U[9]? = some (.int .u64 n) := by rw [hU]; exact stC_num H _ n hH
  have q := fun w => eqW H hH w
  have r1 : ((w.alloc (.cells S 29)).alloc (.cells U 29)).rangeAt w.heap.size 0 (u32c H).toList := words_range (B2.to hS) hH
  have r2 : ((w.alloc (.cells S 29)).alloc (.cells U 29)).rangeAt (w.heap.size + 1) 0 (u32c H).toList := words_range (B3.to hU) hH
  have R := Lib.hid (And.intro r1 r2); clear r1 r2 hS hU B2 B3 ha hb
  go_enter Tryd.func14, Tryd.ntmps14
  go_wp2_with (first | with_reducible refine wpList_load_mid rfl _ _ rfl w.heap.size 0 rfl (u32c H).toList _ R.out.1 Tryd.underlying25 rfl (by simpa using i8) ?_ | with_reducible refine wpList_load_mid rfl _ _ rfl (w.heap.size + 1) 0 rfl (u32c H).toList _ R.out.2 Tryd.underlying25 rfl (by simpa using i8) ?_)
  go_ret
  exact ⟨rfl, bb⟩
theorem Same_at (v u : Value) (txt : List UInt8) (w : World) (hv : StAt w v txt) (hu : StAt w u txt) :
    Calls Tryd.prog 14 #[v, u] w fun e w' => e = .returned (.bool true) ∧ Below w.heap.size w w' := by
  obtain ⟨a, c, rfl, hr, _, _⟩ := hv
  obtain ⟨b, d, rfl, hs, _, _⟩ := hu
  exact Same_true _ (absH_length _ _ HI_length) a b _ c d _ w hr hs
theorem Theirs_ex (v : Value) (txt : List UInt8) (w : World) (h : StAt w v txt) : Calls Tryd.prog 15 #[v] w fun e w' => ∃ u, e = .returned u ∧ Below w.heap.size w w' ∧ StAt w' u txt :=
  (Theirs_at v txt w h).mono fun _ _ ⟨he, hb⟩ => ⟨v, he, hb, h.below hb⟩
theorem Sane_at (v : Value) (txt : List UInt8) (w : World) (h : StAt w v txt) : Calls Tryd.prog 25 #[v] w fun e w' => e = .returned (.bool true) ∧ Below w.heap.size w w' := by
  obtain ⟨a, c, rfl, hr, h1, h2⟩ := h
  exact Sane_any _ (absH_length _ _ HI_length) a _ c _ (Nat.mod_lt _ W64_pos) (by unfold maxLen at h2; omega) true (by rw [absR_length]; simp; unfold W64; omega) w
theorem StAt.cells {w : World} {v : Value} {txt : List UInt8} (h : StAt w v txt) : ∃ S : Array Value, v = .agg S ∧ S.size = 10 ∧ S.all (·.oneCell') = true := by
  obtain ⟨a, c, rfl, hr, h1, h2⟩ := h
  exact ⟨_, rfl, stC_size _ _ _ (absH_length _ _ HI_length), stC_one _ _ _ _ _⟩
theorem keeps_st (txt : List UInt8) : Keeps fun u w => StAt w u txt := fun _ _ _ h hb => h.below hb
theorem Write_ex (v : Value) (txt t2 : List UInt8) (a' : Option Addr) (t : List UInt8) (m c' : Nat) (he : txt ++ t = t2) (hm : t.length = m) (hc : m ≤ c') (hc2 : m ≤ 140737488355328 ∧ c' ≤ 9223372036854775807) (hno : a' = none → m = 0 ∧ c' = 0) (w : World) (hv : StAt w v txt) (hr : RdS w a' t) (hL : Laid w) :
    Calls Tryd.prog 22 #[v, .slice a' m c'] w fun e w' => ∃ v', e = .returned v' ∧ Below w.heap.size w w' ∧ StAt w' v' t2 := by
  subst he
  exact (Write_at v txt a' t m c' hm hc hc2 hno w hv hr hL).mono fun _ _ ⟨v', h1, h2, h3⟩ => ⟨v', h1, h3, h2⟩
theorem Start_st (w : World) (hL : Laid w) : Calls Tryd.prog 16 #[] w fun e w' => ∃ v', e = .returned v' ∧ Below w.heap.size w w' ∧ StAt w' v' [] :=
  (Start_any w hL).mono fun _ w' ⟨he, hb⟩ => ⟨_, he, hb, StAt.start w'⟩
theorem sumC (t : List UInt8) : ∃ C : Array Value, C = u8cells (sumOf t) ∧ C.size = 32 ∧ (∀ w : World, (Op.equalIn 10000 38 (.agg C) (.agg C)).run Tryd.prog w = .ok true w) :=
  ⟨_, rfl, by rw [u8cells_size]; exact sumOf_length t, fun w => eqH _ _ true (sumOf_length t) (sumOf_length t) (by simp) w⟩
end Go.Proofs.YtfebknplkbeblaaDoor
