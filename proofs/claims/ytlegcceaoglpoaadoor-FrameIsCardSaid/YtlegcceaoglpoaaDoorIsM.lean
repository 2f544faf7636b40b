/- A message's bytes. What is put is got: plain laws of the bytes of messages. However a stream is cut; what is kept: plain laws. The law's 'awake': a message, and a bad stream. What a stream keeps, behind a feeding: plain laws. Messages in a row: the plain law. Streams and messages as the document's; rows of messages laid anew. -/
import Derived.Lib.BufferWrite
import Derived.Test.YtlegcceaoglpoaaDoorIsJ
import Derived.Test.YtlegcceaoglpoaaDoorIsI
import Derived.Lib.SlBytesConst
import Derived.Test.YtlegcceaoglpoaaDoorIsL
import Derived.Laws.AppendOwn
import Derived.Test.YtlegcceaoglpoaaDoorIsK
namespace Go.Proofs.YtlegcceaoglpoaaDoor
open Go.RowKit
set_option linter.unusedVariables false
theorem cmd12_length {c : List UInt8} (h : c.length ≤ 12) : (cmd12 c).length = 12 := by
  unfold cmd12
  rw [List.length_append, List.length_replicate]
  omega
theorem copy_cmd (ty : TypeId) (g : Nat) (t : TypeId) (c : List UInt8) (hc : c.length ≤ 12) (w : World) (hb : Blk w g t (Array.replicate 12 (.int .u8 0))) :
    (Builtin.copy_ #[23, 9] ty #[.slice (some ⟨g, 0, none⟩) 12 12, .string (bstr c)]).run Tryd.prog w = .ok (goInt c.length) (w.setRow g (u8cells (cmd12 c))) := by
  have hsz : (bstr c).size = c.length := by simp [bstr, ByteArray.size]
  have h := Lib.run_copy_row_string (P := Tryd.prog) w 23 9 ty 5 g 0 12 12 (bstr c) _ t Tryd.underlying23 (by kernel_rfl) hb (by rw [hsz]; exact hc) (by rw [hsz]; simp; exact hc)
  rw [hsz] at h
  rw [h]
  refine congrArg (fun z => Result.ok (goInt c.length) (World.setRow w g z)) ?_
  apply Array.ext'
  simp only [u8cells, cmd12, Lib.byteCells, bstr]
  simp
  show List.drop c.length (List.replicate 12 (Value.int .u8 0)) = _
  rw [List.drop_replicate]
/-- The blocks while the bytes are put together. -/
def SP (s g : Nat) (w : World) (M C12 C : Array Value) (wx : World) : Prop := Blk wx s 32 M ∧ Blk wx (s + 1) 56 C12 ∧ Blk wx g 58 C ∧ Below s w wx
theorem SP.grow {s g : Nat} {w wx wy : World} {M C12 C : Array Value} {row : Option Nat} (h : SP s g w M C12 C wx) (hg : s + 1 < g) (hw : wx.grownBy wy row) (hr : ∀ k, row = some k → g < k) : SP s g w M C12 C wy :=
  ⟨(kp_grown hw).blk h.1 fun e => by have := hr _ e.symm; omega, (kp_grown hw).blk h.2.1 fun e => by have := hr _ e.symm; omega, (kp_grown hw).blk h.2.2.1 fun e => by have := hr _ e.symm; omega,
    (kp_grown hw).below h.2.2.2 (by have := h.1.lt; omega) fun k hk e => by have := hr _ e.symm; omega⟩
theorem u8_rd {w : World} {g : Nat} {t : TypeId} {l : List UInt8} {k : Nat} (h : Blk w g t (u8cells l)) (hk : k ≤ l.length) : RdS w (some ⟨g, 0, none⟩) (l.take k) := .inr ⟨g, 0, rfl, h.lt, fun i hi => (h.cell (0 + i)).trans (by
  have hik : i < k := by rw [List.length_take] at hi; omega
  rw [Nat.zero_add, u8cells_at l i (by omega)]
  simp [List.getD, List.getElem?_take_of_lt hik])⟩
set_option maxRecDepth 100000 in
set_option maxHeartbeats 1000000 in
theorem Put_any (magic : Nat) (hm : magic < 4294967296) (cm : List UInt8) (hc : cm.length ≤ 9223372036854775807) (a : Option Addr) (n c : Nat) (p : List UInt8) (hl : p.length = n) (hn : n ≤ c) (hc2 : n ≤ 1000000 ∧ c ≤ 9223372036854775807) (hno : a = none → n = 0 ∧ c = 0) (w : World) (hr : RdS w a p) (hL : Laid w) :
    Calls Tryd.prog 5 #[.int .u32 magic, .agg #[.string (bstr cm), .slice a n c]] w fun e w' => ∃ u, e = .returned (.tuple #[u, .int .i64 (putE cm p : Nat)]) ∧ Below w.heap.size w w' ∧ CloV (putL magic cm p) u w' := by
  have cC := fun w' => Command_any cm hc w'
  have cD := fun w' (h : Below w.heap.size w w') => Double_any a p n c hl hn ⟨by omega, by omega⟩ hno w' (hr.calls h) (hL.calls h)
  have n0 : ¬ (4000000 : Int) < (n : Int) := by omega
  have F := Lib.hid (And.intro cC (And.intro cD (And.intro hr (And.intro hL hl)))); clear cC cD hr hL hl
  go_enter Tryd.func5, Tryd.ntmps5
  go_wp2_with fail
  refine (F.out.1 _).mono ?_
  rintro e w' ⟨rfl, rfl⟩
  cases hok : cmdOk cm with
  | false =>
    have E : putE cm p = 2 ∧ putL magic cm p = [] := by
      have : putE cm p = 2 := by unfold putE; rw [hok]; rfl
      exact ⟨this, by unfold putL; rw [this]; rfl⟩
    have EE := Lib.hid E; clear E hok
    go_wp2_with fail
    rw [EE.out.1, EE.out.2]
    refine bodyPost_ret (v := .tuple #[.slice none 0 0, .int .i64 2]) (by simp [results, Tryd.results5, go_sem]) rfl ⟨.slice none 0 0, rfl, ba (Below.refl _ _) _, ⟨none, 0, rfl, .inl rfl, Nat.le_refl _, Nat.zero_le _, fun _ => ⟨rfl, rfl⟩⟩⟩
  | true =>
    have hlen : cm.length ≤ 12 := by
      unfold cmdOk at hok
      simp only [Bool.and_eq_true, decide_eq_true_eq] at hok
      exact hok.1.2
    have hl := F.out.2.2.2.2
    have E : putE cm p = 0 ∧ putL magic cm p = headOf magic cm p ++ p := by
      have : putE cm p = 0 := by unfold putE; rw [if_pos hok, if_pos (by omega)]
      exact ⟨this, by unfold putL; rw [if_pos this]⟩
    have cp := fun w' hb => copy_cmd 3 (w.heap.size + 1) 56 cm hlen w' hb
    obtain ⟨C12, hC12⟩ : ∃ C, C = u8cells (cmd12 cm) := ⟨_, rfl⟩
    rw [← hC12] at cp
    have EE := Lib.hid (And.intro E (And.intro hok (And.intro hlen (And.intro hl hC12)))); clear E hok hlen hl hC12
    have B1 : Blk ((w.alloc (.cells #[.string (bstr cm), .slice a n c] 32)).alloc (.cells #[.int .u8 0, .int .u8 0, .int .u8 0, .int .u8 0, .int .u8 0, .int .u8 0, .int .u8 0, .int .u8 0, .int .u8 0, .int .u8 0, .int .u8 0, .int .u8 0] 56)).drew w.heap.size 32 #[.string (bstr cm), .slice a n c] := ((Blk.new w _ _).alloc _).drew
    have B2 : Blk ((w.alloc (.cells #[.string (bstr cm), .slice a n c] 32)).alloc (.cells #[.int .u8 0, .int .u8 0, .int .u8 0, .int .u8 0, .int .u8 0, .int .u8 0, .int .u8 0, .int .u8 0, .int .u8 0, .int .u8 0, .int .u8 0, .int .u8 0] 56)).drew (w.heap.size + 1) 56 #[.int .u8 0, .int .u8 0, .int .u8 0, .int .u8 0, .int .u8 0, .int .u8 0, .int .u8 0, .int .u8 0, .int .u8 0, .int .u8 0, .int .u8 0, .int .u8 0] := (Blk.newAt _ _ _ (by simp)).drew
    have BB : Below w.heap.size w ((w.alloc (.cells #[.string (bstr cm), .slice a n c] 32)).alloc (.cells #[.int .u8 0, .int .u8 0, .int .u8 0, .int .u8 0, .int .u8 0, .int .u8 0, .int .u8 0, .int .u8 0, .int .u8 0, .int .u8 0, .int .u8 0, .int .u8 0] 56)).drew := (ba (ba (Below.refl _ _) _) _).drew
    have cpF := cp _ B2
    have D1 := B1.rowFar (b := w.heap.size + 1) (by omega) C12
    have D2 := B2.row C12
    have DB := setRow_below BB (g := w.heap.size + 1) (Nat.le_succ _) C12
    clear cp B1 B2 BB
    have HB := Lib.hid (And.intro D1 (And.intro D2 DB)); clear D1 D2 DB
    go_upto_region 6 with fail
    go_region
    obtain ⟨D1, D2, DB⟩ := HB.out
    clear cpF HB
    generalize World.setRow _ _ _ = W3 at *
    have m1 : W3.cell? ⟨w.heap.size, 1, none⟩ = some (.slice a n c) := D1.cell 1
    have HB := Lib.hid (And.intro D1 (And.intro D2 DB)); clear D1 D2 DB
    obtain ⟨D, hD⟩ : ∃ D, D = dbl p := ⟨_, rfl⟩
    have hDl : D.length = 32 := by rw [hD]; exact dbl_length _
    obtain ⟨C, hC⟩ : ∃ C, C = u8cells D := ⟨_, rfl⟩
    have cD := F.out.2.1
    have hcd : u8cells (sumOf (sumOf p)) = C := by rw [hC, hD, dbl]
    rw [hcd] at cD
    have sC : C.size = 32 := by rw [hC, u8cells_size]; exact hDl
    have iC : (Tryd.prog.info? 58).map (·.size) = some C.size := by rw [sC]; kernel_rfl
    have zC : (#[.int .u8 0, .int .u8 0, .int .u8 0, .int .u8 0, .int .u8 0, .int .u8 0, .int .u8 0, .int .u8 0, .int .u8 0, .int .u8 0, .int .u8 0, .int .u8 0, .int .u8 0, .int .u8 0, .int .u8 0, .int .u8 0, .int .u8 0, .int .u8 0, .int .u8 0, .int .u8 0, .int .u8 0, .int .u8 0, .int .u8 0, .int .u8 0, .int .u8 0, .int .u8 0, .int .u8 0, .int .u8 0, .int .u8 0, .int .u8 0, .int .u8 0, .int .u8 0] : Array Value).size = C.size := by rw [sC]; rfl
    have aC : C.all (·.oneCell') = true := by rw [hC]; exact u8cells_one _
    have P := Lib.hid (And.intro cD (And.intro hD (And.intro hDl hC))); clear cD hD hDl hC hcd sC
    go_wp2_with fail
    refine (P.out.1 _ HB.out.2.2).mono ?_
    rintro e w2 ⟨rfl, hb2⟩
    have Q1 := HB.out.1.calls hb2
    have Q2 := HB.out.2.1.calls hb2
    have QB := bt HB.out.2.2 hb2
    have z2 := Q2.lt
    have NN : Blk (w2.alloc (.cells #[.int .u8 0, .int .u8 0, .int .u8 0, .int .u8 0, .int .u8 0, .int .u8 0, .int .u8 0, .int .u8 0, .int .u8 0, .int .u8 0, .int .u8 0, .int .u8 0, .int .u8 0, .int .u8 0, .int .u8 0, .int .u8 0, .int .u8 0, .int .u8 0, .int .u8 0, .int .u8 0, .int .u8 0, .int .u8 0, .int .u8 0, .int .u8 0, .int .u8 0, .int .u8 0, .int .u8 0, .int .u8 0, .int .u8 0, .int .u8 0, .int .u8 0, .int .u8 0] 58)) w2.heap.size 58 #[.int .u8 0, .int .u8 0, .int .u8 0, .int .u8 0, .int .u8 0, .int .u8 0, .int .u8 0, .int .u8 0, .int .u8 0, .int .u8 0, .int .u8 0, .int .u8 0, .int .u8 0, .int .u8 0, .int .u8 0, .int .u8 0, .int .u8 0, .int .u8 0, .int .u8 0, .int .u8 0, .int .u8 0, .int .u8 0, .int .u8 0, .int .u8 0, .int .u8 0, .int .u8 0, .int .u8 0, .int .u8 0, .int .u8 0, .int .u8 0, .int .u8 0, .int .u8 0] := Blk.new _ _ _
    have S0 : SP w.heap.size w2.heap.size w #[.string (bstr cm), .slice a n c] C12 C ((w2.alloc (.cells #[.int .u8 0, .int .u8 0, .int .u8 0, .int .u8 0, .int .u8 0, .int .u8 0, .int .u8 0, .int .u8 0, .int .u8 0, .int .u8 0, .int .u8 0, .int .u8 0, .int .u8 0, .int .u8 0, .int .u8 0, .int .u8 0, .int .u8 0, .int .u8 0, .int .u8 0, .int .u8 0, .int .u8 0, .int .u8 0, .int .u8 0, .int .u8 0, .int .u8 0, .int .u8 0, .int .u8 0, .int .u8 0, .int .u8 0, .int .u8 0, .int .u8 0, .int .u8 0] 58)).setRow w2.heap.size C) := ⟨(Q1.alloc _).rowFar (by omega) C, (Q2.alloc _).rowFar (by omega) C, NN.row C, setRow_below (ba QB _) (g := w2.heap.size) (by omega) C⟩
    have NH := Lib.hid (And.intro NN S0); clear NN S0 Q1 Q2 QB hb2 HB
    clear m1
    go_upto_region 8 with (with_reducible refine ws_row NH.out.1 _ _ _ _ rfl rfl rfl rfl iC zC aC ?_)
    have S0 := NH.out.2
    clear NH zC iC
    generalize World.setRow _ _ _ = w3 at *
    obtain ⟨N, hN⟩ : ∃ N, N = 24 + n := ⟨_, rfl⟩
    have hNi : (24 : Int) + (n : Int) = (N : Int) := by omega
    have N30 : N ≤ 1000024 := by omega
    have hw32 : IntKind.u32.wrap (n : Int) = (n : Int) := by simp [IntKind.wrap, IntKind.signed, IntKind.bits]; omega
    have n32 : n < 4294967296 := by omega
    have HN := Lib.hid hN; clear hN
    obtain ⟨i0, hi, hz0, hz1, hz2⟩ := info_parts (show (Tryd.prog.info? 5).map (fun i => (i.zero, i.size, i.bytes)) = some (some (.int .u8 0), 1, 1) by kernel_rfl)
    have I := Lib.hid (And.intro hi (And.intro hz0 (And.intro hz1 hz2))); clear hi hz0 hz1 hz2
    have m1 : w3.cell? ⟨w.heap.size, 1, none⟩ = some (.slice a n c) := S0.1.cell 1
    have zs : w2.heap.size < w3.heap.size := S0.2.2.1.lt
    have h12 : (cmd12 cm).length = 12 := cmd12_length EE.out.2.2.1
    have SS := Lib.hid (And.intro S0 h12); clear S0 h12
    go_wp2_with (at_make; refine wpList_make_own _ rfl _ _ 23 rfl (w2.heap.size + 1) 5 i0 (.int .u8 0) 1 Tryd.underlying23 I.out.1 I.out.2.1 I.out.2.2.1 .i64 .i64 _ N rfl rfl rfl (by rw [I.out.2.2.2]; omega) (by unfold maxLen; omega) (by omega) ?_)
    intro w4 o4 g4
    have S4 := SS.out.1.grow z2 g4 (fun k e => by cases e)
    have b4 := g4.size
    have c4 := Four_any (w2.heap.size + 1) _ 0 [] magic hm w4 (by omega) (by omega) o4
    have Q := Lib.hid (And.intro S4 (And.intro o4 c4)); clear S4 o4 c4 g4
    go_wp2_with fail
    refine Q.out.2.2.mono ?_
    rintro e w5 ⟨u5, rfl, o5, g5⟩
    replace o5 : w5.ownsRow (w2.heap.size + 1) 5 1 u5 (4) ((le4 magic).map fun c => Value.int .u8 (c.toNat : Int)) := o5
    obtain ⟨a5, c5, rfl⟩ := own_slice o5
    have S5 := Q.out.1.grow z2 g5 (fun k e => by have := (Q.out.2.1.lt k e).1; omega)
    have b5 := g5.size
    have rd5 : RdS w5 (some ⟨w.heap.size + 1, 0, none⟩) (cmd12 cm) := by
      have := u8_rd (k := 12) (S5.2.1.to EE.out.2.2.2.2) (by rw [SS.out.2]; exact Nat.le_refl _)
      rwa [List.take_of_length_le (by rw [SS.out.2]; exact Nat.le_refl _)] at this
    have Q5 := Lib.hid (And.intro S5 (And.intro o5 rd5)); clear S5 o5 rd5 g5 Q
    go_wp2_with (at_builtin; refine wl_app Q5.out.2.1 rfl _ _ 23 rfl Tryd.underlying23 i0 I.out.1 I.out.2.1 I.out.2.2.1 I.out.2.2.2 rfl (some ⟨w.heap.size + 1, 0, none⟩) 12 12 (cmd12 cm) rfl Q5.out.2.2 SS.out.2 (fun h => by cases h) (by omega) (by omega) ?_)
    intro v6 w6 o6 g6 _
    replace o6 : w6.ownsRow (w2.heap.size + 1) 5 1 v6 (16) ((le4 magic ++ cmd12 cm).map fun c => Value.int .u8 (c.toNat : Int)) := o6
    obtain ⟨a6, c6, rfl⟩ := own_slice o6
    have S6 := Q5.out.1.grow z2 g6 (fun k e => by have := (Q5.out.2.1.lt k e).1; omega)
    have b6 := g6.size
    have m1' : w6.cell? ⟨w.heap.size, 1, none⟩ = some (.slice a n c) := S6.1.cell 1
    have c7 := Four_any (w2.heap.size + 1) _ 16 _ n n32 w6 (by omega) (by omega) o6
    have Q6 := Lib.hid (And.intro S6 (And.intro o6 c7)); clear S6 o6 c7 g6 Q5
    go_wp2_with fail
    refine Q6.out.2.2.mono ?_
    rintro e w7 ⟨u7, rfl, o7, g7⟩
    replace o7 : w7.ownsRow (w2.heap.size + 1) 5 1 u7 (20) ((le4 magic ++ cmd12 cm ++ le4 n).map fun c => Value.int .u8 (c.toNat : Int)) := o7
    obtain ⟨a7, c7, rfl⟩ := own_slice o7
    have S7 := Q6.out.1.grow z2 g7 (fun k e => by have := (Q6.out.2.1.lt k e).1; omega)
    have b7 := g7.size
    have rd7 := u8_rd (k := 4) (S7.2.2.1.to P.out.2.2.2) (by rw [P.out.2.2.1]; omega)
    have ln7 : (D.take 4).length = 4 := by rw [List.length_take, P.out.2.2.1]; rfl
    have Q7 := Lib.hid (And.intro S7 (And.intro o7 (And.intro rd7 ln7))); clear S7 o7 rd7 ln7 g7 Q6
    go_wp2_with (at_builtin; refine wl_app Q7.out.2.1 rfl _ _ 23 rfl Tryd.underlying23 i0 I.out.1 I.out.2.1 I.out.2.2.1 I.out.2.2.2 rfl (some ⟨w2.heap.size, 0, none⟩) 4 32 (D.take 4) rfl Q7.out.2.2.1 Q7.out.2.2.2 (fun h => by cases h) (by omega) (by omega) ?_)
    intro v8 w8 o8 g8 _
    replace o8 : w8.ownsRow (w2.heap.size + 1) 5 1 v8 (24) ((le4 magic ++ cmd12 cm ++ le4 n ++ D.take 4).map fun c => Value.int .u8 (c.toNat : Int)) := by simpa using o8
    obtain ⟨a8, c8, rfl⟩ := own_slice o8
    have S8 := Q7.out.1.grow z2 g8 (fun k e => by have := (Q7.out.2.1.lt k e).1; omega)
    have b8 := g8.size
    have m1'' : w8.cell? ⟨w.heap.size, 1, none⟩ = some (.slice a n c) := S8.1.cell 1
    have rd8 := F.out.2.2.1.calls S8.2.2.2
    have Q8 := Lib.hid (And.intro S8 (And.intro o8 rd8)); clear S8 o8 rd8 g8 Q7
    go_wp2_with (at_builtin; refine wl_app Q8.out.2.1 rfl _ _ 23 rfl Tryd.underlying23 i0 I.out.1 I.out.2.1 I.out.2.2.1 I.out.2.2.2 rfl a n c p rfl Q8.out.2.2 F.out.2.2.2.2 hno (by omega) (by omega) ?_)
    intro v9 w9 o9 g9 _
    replace o9 : w9.ownsRow (w2.heap.size + 1) 5 1 v9 (24 + n) ((le4 magic ++ cmd12 cm ++ le4 n ++ D.take 4 ++ p).map fun c => Value.int .u8 (c.toNat : Int)) := by simpa using o9
    have S9 := Q8.out.1.grow z2 g9 (fun k e => by have := (Q8.out.2.1.lt k e).1; omega)
    obtain ⟨a9, c9, rfl, e1, e2, e3, e4, e5⟩ := own_rds o9
    have Q9 := Lib.hid (And.intro S9 (And.intro e1 (And.intro e2 (And.intro e3 (And.intro e4 e5))))); clear S9 o9 g9 Q8 e1 e2 e3 e4 e5
    go_wp2_with fail
    rw [EE.out.1.1, EE.out.1.2]
    refine bodyPost_ret (v := .tuple #[.slice a9 (24 + n) c9, .int .i64 0]) (by simp [results, Tryd.results5, go_sem]) rfl ⟨.slice a9 (24 + n) c9, rfl, Q9.out.1.2.2.2, a9, c9, ?_, ?_, ?_, Q9.out.2.2.2.2.1, ?_⟩
    all_goals
      have hp : headOf magic cm p ++ p = le4 magic ++ cmd12 cm ++ le4 n ++ D.take 4 ++ p := by unfold headOf; rw [F.out.2.2.2.2, P.out.2.1]
      rw [hp]
    · rw [Q9.out.2.1]
    · exact Q9.out.2.2.1
    · rw [Q9.out.2.1]; exact Q9.out.2.2.2.1
    · rw [Q9.out.2.1]; exact Q9.out.2.2.2.2.2
end Go.Proofs.YtlegcceaoglpoaaDoor

namespace Go.Proofs.YtlegcceaoglpoaaDoor
open Go.RowKit
set_option linter.unusedVariables false
theorem trimR_zeros (n : Nat) : trimR (List.replicate n 0) = [] := by
  induction n with
  | zero => rfl
  | succ n ih => rw [List.replicate_succ, trimR, ih]; rfl
theorem trimR_good (c : List UInt8) (n : Nat) (h : ∀ x ∈ c, x ≠ 0) : trimR (c ++ List.replicate n 0) = c := by
  induction c with
  | nil => exact trimR_zeros n
  | cons x c ih =>
    have hx := h x (List.mem_cons_self ..)
    have ih' := ih fun y hy => h y (List.mem_cons_of_mem _ hy)
    rw [List.cons_append, trimR, ih']
    cases c with
    | nil => simp [hx]
    | cons y t => rfl
theorem okC_ne {x : UInt8} (h : okC x = true) : x ≠ 0 := by
  intro e
  subst e
  unfold okC at h
  simp at h
theorem cmdOk_trim {c : List UInt8} (h : cmdOk c = true) : trimR (cmd12 c) = c := by
  unfold cmdOk at h
  simp only [Bool.and_eq_true, decide_eq_true_eq] at h
  exact trimR_good c _ fun x hx => okC_ne (List.all_eq_true.1 h.2 x hx)
theorem cmdOk_len {c : List UInt8} (h : cmdOk c = true) : c.length ≤ 12 := by
  unfold cmdOk at h
  simp only [Bool.and_eq_true, decide_eq_true_eq] at h
  exact h.1.2
theorem cmd12_len {c : List UInt8} (h : c.length ≤ 12) : (cmd12 c).length = 12 := by
  unfold cmd12
  rw [List.length_append, List.length_replicate]
  omega
/-- A head with any four bytes for its sum. -/
def headS (magic : Nat) (c : List UInt8) (n : Nat) (s4 : List UInt8) : List UInt8 := le4 magic ++ (cmd12 c ++ (le4 n ++ s4))
theorem headOf_eq (magic : Nat) (c p : List UInt8) : headOf magic c p = headS magic c p.length ((dbl p).take 4) := by
  unfold headOf headS
  simp only [List.append_assoc]
theorem headS_length {magic : Nat} {c : List UInt8} {n : Nat} {s4 : List UInt8} (hc : c.length ≤ 12) (hs : s4.length = 4) : (headS magic c n s4).length = 24 := by
  unfold headS
  simp only [List.length_append, le4_length, cmd12_len hc, hs]
section
variable {magic : Nat} {c : List UInt8} {n : Nat} {s4 : List UInt8} (r : List UInt8) (hc : c.length ≤ 12) (hs : s4.length = 4)
theorem head_magic : (headS magic c n s4 ++ r).take 4 = le4 magic := by
  unfold headS
  rw [List.append_assoc, List.take_append_of_le_length (by rw [le4_length]; exact Nat.le_refl _), List.take_of_length_le (by rw [le4_length]; exact Nat.le_refl _)]
theorem head_cmd (hc : c.length ≤ 12) : ((headS magic c n s4 ++ r).drop 4).take 12 = cmd12 c := by
  unfold headS
  rw [List.append_assoc, List.append_assoc, List.drop_append_of_le_length (by rw [le4_length]; exact Nat.le_refl _), List.drop_of_length_le (by rw [le4_length]; exact Nat.le_refl _), List.nil_append, List.take_append_of_le_length (by rw [cmd12_len hc]; exact Nat.le_refl _), List.take_of_length_le (by rw [cmd12_len hc]; exact Nat.le_refl _)]
theorem head_16 (hc : c.length ≤ 12) : (headS magic c n s4 ++ r).drop 16 = le4 n ++ (s4 ++ r) := by
  have h : (le4 magic ++ cmd12 c).length = 16 := by rw [List.length_append, le4_length, cmd12_len hc]
  have e : headS magic c n s4 ++ r = (le4 magic ++ cmd12 c) ++ (le4 n ++ (s4 ++ r)) := by unfold headS; simp only [List.append_assoc]
  rw [e, List.drop_append_of_le_length (by omega), List.drop_of_length_le (by omega), List.nil_append]
theorem head_20 (hc : c.length ≤ 12) : (headS magic c n s4 ++ r).drop 20 = s4 ++ r := by
  have h : (le4 magic ++ cmd12 c ++ le4 n).length = 20 := by rw [List.length_append, List.length_append, le4_length, cmd12_len hc, le4_length]
  have e : headS magic c n s4 ++ r = (le4 magic ++ cmd12 c ++ le4 n) ++ (s4 ++ r) := by unfold headS; simp only [List.append_assoc]
  rw [e, List.drop_append_of_le_length (by omega), List.drop_of_length_le (by omega), List.nil_append]
theorem head_24 (hc : c.length ≤ 12) (hs : s4.length = 4) : (headS magic c n s4 ++ r).drop 24 = r := by
  have h := headS_length (magic := magic) (n := n) hc hs
  rw [List.drop_append_of_le_length (by omega), List.drop_of_length_le (by omega), List.nil_append]
theorem head_size (hc : c.length ≤ 12) (hn : n < 4294967296) : sizeG (headS magic c n s4 ++ r) = n := by
  rw [sizeG_le, head_16 r hc, leN_succ, leN_succ, leN_succ, leN_succ, leN_0]
  simp only [le4, List.cons_append, List.getD_cons_zero, List.getD_cons_succ, List.nil_append]
  simp
  omega
end
/-- What Get says of a head, any four bytes for its sum, and what follows. -/
theorem getG_head {magic cap : Nat} {c : List UInt8} {n : Nat} {s4 : List UInt8} (r : List UInt8) (hc : cmdOk c = true) (hs : s4.length = 4) (hn : n < 4294967296) :
    getG magic cap (headS magic c n s4 ++ r) = if cap < n then .no 3 else if r.length < n then .no 1 else if (dbl (r.take n)).take 4 ≠ s4 then .no 4 else .yes c (r.take n) := by
  have hcl := cmdOk_len hc
  have hl : (headS magic c n s4 ++ r).length = 24 + r.length := by rw [List.length_append, headS_length hcl hs]
  have e1 : cmdG (headS magic c n s4 ++ r) = c := by unfold cmdG; rw [head_cmd r hcl, cmdOk_trim hc]
  have e2 := head_size (magic := magic) (s4 := s4) r hcl hn
  have e3 : payG (headS magic c n s4 ++ r) = r.take n := by unfold payG; rw [e2, head_24 r hcl hs]
  unfold getG
  rw [if_neg (by rw [head_magic, List.take_of_length_le (by rw [le4_length, hl]; omega)]; exact not_not_intro rfl), if_neg (by omega), e1, if_neg (by rw [hc]; simp), e2, e3, head_20 r hcl, List.take_append_of_le_length (by omega), List.take_of_length_le (show s4.length ≤ 4 by omega)]
  by_cases h1 : cap < n
  · rw [if_pos h1, if_pos h1]
  rw [if_neg h1, if_neg h1]
  by_cases h2 : r.length < n
  · rw [if_pos (by omega), if_pos h2]
  · rw [if_neg (by omega), if_neg h2]
/-- WHAT IS PUT IS GOT AGAIN. -/
theorem getG_put {magic cap : Nat} {c p : List UInt8} (more : List UInt8) (hc : cmdOk c = true) (hp : p.length ≤ cap) (hcap : cap ≤ 4000000) : getG magic cap (headOf magic c p ++ p ++ more) = .yes c p := by
  rw [headOf_eq, List.append_assoc, getG_head _ hc (by rw [List.length_take, dbl_length]; rfl) (by omega), if_neg (by omega), if_neg (by rw [List.length_append]; omega), List.take_append_of_le_length (Nat.le_refl _), List.take_of_length_le (Nat.le_refl _), if_neg (not_not_intro rfl)]
theorem getG_big {magic cap : Nat} {c p : List UInt8} (more : List UInt8) (hc : cmdOk c = true) (hp : cap < p.length) (hn : p.length < 4294967296) : getG magic cap (headOf magic c p ++ p ++ more) = .no 3 := by
  rw [headOf_eq, List.append_assoc, getG_head _ hc (by rw [List.length_take, dbl_length]; rfl) hn, if_pos hp]
end Go.Proofs.YtlegcceaoglpoaaDoor

namespace Go.Proofs.YtlegcceaoglpoaaDoor
open Go.RowKit
set_option linter.unusedVariables false
theorem getD_app {b : List UInt8} (x : List UInt8) {i : Nat} (h : i < b.length) : (b ++ x).getD i 0 = b.getD i 0 := by
  simp only [List.getD]
  rw [List.getElem?_append_left h]
theorem sizeG_app {b : List UInt8} (x : List UInt8) (h : 24 ≤ b.length) : sizeG (b ++ x) = sizeG b := by
  unfold sizeG
  rw [getD_app x (by omega), getD_app x (by omega), getD_app x (by omega), getD_app x (by omega)]
theorem magic_app {m b : List UInt8} (x : List UInt8) (hm : m.length = 4) (h : b.take 4 ≠ m.take b.length) : (b ++ x).take 4 ≠ m.take (b ++ x).length := by
  intro e
  apply h
  by_cases h4 : 4 ≤ b.length
  · rw [List.take_append_of_le_length h4, List.take_of_length_le (show m.length ≤ (b ++ x).length by rw [List.length_append]; omega)] at e
    rw [e, List.take_of_length_le (by omega)]
  · have e2 := congrArg (List.take b.length) e
    rw [List.take_take, List.take_take, Nat.min_eq_left (by omega), Nat.min_eq_left (by rw [List.length_append]; omega), List.take_append_of_le_length (Nat.le_refl _), List.take_of_length_le (Nat.le_refl _)] at e2
    rw [List.take_of_length_le (by omega)]
    exact e2
/-- More bytes behind turn nothing but what was too short. -/
theorem getG_app {magic cap : Nat} {b : List UInt8} (x : List UInt8) (h : getG magic cap b ≠ .no 1) : getG magic cap (b ++ x) = getG magic cap b := by
  by_cases h1 : b.take 4 ≠ (le4 magic).take b.length
  · have h2 := magic_app x (le4_length magic) h1
    unfold getG
    rw [if_pos h1, if_pos h2]
  have h1' : b.take 4 = (le4 magic).take b.length := Classical.not_not.1 h1
  by_cases h2 : b.length < 24
  · exfalso
    apply h
    unfold getG
    rw [if_neg h1, if_pos h2]
  have hl : (b ++ x).length = b.length + x.length := List.length_append
  have h3 : ¬ (b ++ x).take 4 ≠ (le4 magic).take (b ++ x).length := by
    rw [List.take_append_of_le_length (by omega), h1', List.take_of_length_le (by rw [le4_length]; omega), List.take_of_length_le (by rw [le4_length]; omega)]
    exact not_not_intro rfl
  have e1 : cmdG (b ++ x) = cmdG b := by
    unfold cmdG
    rw [List.drop_append_of_le_length (by omega), List.take_append_of_le_length (by rw [List.length_drop]; omega)]
  have e2 := sizeG_app x (show 24 ≤ b.length by omega)
  have e4 : ((b ++ x).drop 20).take 4 = (b.drop 20).take 4 := by
    rw [List.drop_append_of_le_length (by omega), List.take_append_of_le_length (by rw [List.length_drop]; omega)]
  unfold getG
  rw [if_neg h1, if_neg h3, if_neg h2, if_neg (by omega), e1, e2]
  by_cases h5 : cmdOk (cmdG b) = false
  · rw [if_pos h5, if_pos h5]
  rw [if_neg h5, if_neg h5]
  by_cases h6 : cap < sizeG b
  · rw [if_pos h6, if_pos h6]
  rw [if_neg h6, if_neg h6]
  by_cases h7 : b.length < 24 + sizeG b
  · exfalso
    apply h
    unfold getG
    rw [if_neg h1, if_neg h2, if_neg h5, if_neg h6, if_pos h7]
  have e3 : payG (b ++ x) = payG b := by
    unfold payG
    rw [e2, List.drop_append_of_le_length (by omega), List.take_append_of_le_length (by rw [List.length_drop]; omega)]
  rw [if_neg h7, if_neg (by omega), e3, e4]
/-- EACH BEGINNING OF WHAT IS PUT IS SHORT. -/
theorem getG_begin {magic cap : Nat} {B c p : List UInt8} (h : getG magic cap B = .yes c p) (hl : B.length = 24 + p.length) {k : Nat} (hk : k < B.length) : getG magic cap (B.take k) = .no 1 := by
  apply Classical.byContradiction
  intro hn
  have h1 := getG_app (B.drop k) hn
  rw [List.take_append_drop, h] at h1
  have h2 := (getG_yes h1.symm).1
  rw [List.length_take] at h2
  omega
theorem getG_one {magic cap : Nat} {b : List UInt8} (h : getG magic cap b = .no 1) : b.length < 24 + cap := by
  unfold getG at h
  repeat' split at h
  all_goals first | omega | (cases h) | skip
  all_goals omega
/-- What ended the messages is what Get says of what is left. -/
theorem feedA_rest (magic cap : Nat) : ∀ (n : Nat) (b : List UInt8), b.length ≤ n → getG magic cap (feedA magic cap b).2.1 = .no (feedA magic cap b).2.2 := by
  intro n
  induction n with
  | zero =>
    intro b hn
    rw [feedA_eq]
    cases hg : getG magic cap b with
    | no e => exact hg
    | yes c p => have := (getG_yes hg).1; omega
  | succ n ih =>
    intro b hn
    rw [feedA_eq]
    cases hg : getG magic cap b with
    | no e => exact hg
    | yes c p =>
      have h1 := (getG_yes hg).1
      exact ih (b.drop (24 + p.length)) (by rw [List.length_drop]; omega)
/-- More bytes behind. -/
theorem feedA_app (magic cap : Nat) (x : List UInt8) : ∀ (n : Nat) (a : List UInt8), a.length ≤ n → feedA magic cap (a ++ x) =
    if (feedA magic cap a).2.2 = 1 then ((feedA magic cap a).1 ++ (feedA magic cap ((feedA magic cap a).2.1 ++ x)).1, (feedA magic cap ((feedA magic cap a).2.1 ++ x)).2) else ((feedA magic cap a).1, (feedA magic cap a).2.1 ++ x, (feedA magic cap a).2.2) := by
  intro n
  induction n with
  | zero =>
    intro a hn
    obtain rfl : a = [] := List.length_eq_zero_iff.1 (by omega)
    rw [feedA_eq magic cap []]
    cases hg : getG magic cap [] with
    | no e =>
      by_cases h1 : e = 1
      · subst h1; simp
      · have hne : getG magic cap [] ≠ .no 1 := by rw [hg]; intro h; injection h with h; exact h1 h
        rw [feedA_eq magic cap ([] ++ x), getG_app x hne, hg]
        simp [h1]
    | yes c p => have := (getG_yes hg).1; simp at this
  | succ n ih =>
    intro a hn
    rw [feedA_eq magic cap a]
    cases hg : getG magic cap a with
    | no e =>
      by_cases h1 : e = 1
      · subst h1; simp
      · have hne : getG magic cap a ≠ .no 1 := by rw [hg]; intro h; injection h with h; exact h1 h
        rw [feedA_eq magic cap (a ++ x), getG_app x hne, hg]
        simp [h1]
    | yes c p =>
      have h1 := (getG_yes hg).1
      have hne : getG magic cap a ≠ .no 1 := by rw [hg]; intro h; cases h
      have hi := ih (a.drop (24 + p.length)) (by rw [List.length_drop]; omega)
      rw [feedA_eq magic cap (a ++ x), getG_app x hne, hg]
      simp only
      rw [List.drop_append_of_le_length h1, hi]
      by_cases h2 : (feedA magic cap (a.drop (24 + p.length))).2.2 = 1
      · simp only [if_pos h2, List.cons_append]
      · simp only [if_neg h2]
/-- How many bytes messages take. -/
def sumM : List (List UInt8 × List UInt8) → Nat
  | [] => 0
  | x :: t => 24 + x.2.length + sumM t
theorem feedA_sum (magic cap : Nat) : ∀ (n : Nat) (b : List UInt8), b.length ≤ n → sumM (feedA magic cap b).1 + (feedA magic cap b).2.1.length = b.length ∧ ∀ x ∈ (feedA magic cap b).1, cmdOk x.1 = true ∧ x.2.length ≤ cap := by
  intro n
  induction n with
  | zero =>
    intro b hn
    rw [feedA_eq]
    cases hg : getG magic cap b with
    | no e => exact ⟨by simp [sumM], fun x hx => by cases hx⟩
    | yes c p => have := (getG_yes hg).1; omega
  | succ n ih =>
    intro b hn
    rw [feedA_eq]
    cases hg : getG magic cap b with
    | no e => exact ⟨by simp [sumM], fun x hx => by cases hx⟩
    | yes c p =>
      obtain ⟨h1, h2, h3, _⟩ := getG_yes hg
      obtain ⟨i1, i2⟩ := ih (b.drop (24 + p.length)) (by rw [List.length_drop]; omega)
      rw [List.length_drop] at i1
      refine ⟨?_, fun x hx => ?_⟩
      · simp only [sumM]
        omega
      · rcases List.mem_cons.1 hx with rfl | hx
        · exact ⟨h3, h2⟩
        · exact i2 x hx
/-- Messages one behind the other. -/
theorem feedA_put {magic cap : Nat} {c p : List UInt8} (more : List UInt8) (hc : cmdOk c = true) (hp : p.length ≤ cap) (hcap : cap ≤ 4000000) : feedA magic cap (headOf magic c p ++ p ++ more) = ((c, p) :: (feedA magic cap more).1, (feedA magic cap more).2) := by
  rw [feedA_eq, getG_put more hc hp hcap]
  have h : (headOf magic c p ++ p).length = 24 + p.length := by rw [headOf_eq, List.length_append, headS_length (cmdOk_len hc) (by rw [List.length_take, dbl_length]; rfl)]
  simp only
  rw [List.drop_append_of_le_length (by omega), List.drop_of_length_le (by omega), List.nil_append]
theorem feedA_big {magic cap : Nat} {c p : List UInt8} (more : List UInt8) (hc : cmdOk c = true) (hp : cap < p.length) (hn : p.length < 4294967296) : feedA magic cap (headOf magic c p ++ p ++ more) = ([], headOf magic c p ++ p ++ more, 3) := by
  rw [feedA_eq, getG_big more hc hp hn]
theorem feedA_nil (magic cap : Nat) : feedA magic cap [] = ([], [], 1) := by
  rw [feedA_eq]
  have : getG magic cap [] = .no 1 := by unfold getG; simp
  rw [this]
end Go.Proofs.YtlegcceaoglpoaaDoor

namespace Go.Proofs.YtlegcceaoglpoaaDoor
open Go.RowKit
set_option linter.unusedVariables false
def pingL : List UInt8 := [112, 105, 110, 103]
theorem ping_ok : cmdOk pingL = true := by decide
theorem ping_put : putE pingL [120] = 0 ∧ putL 7 pingL [120] = headOf 7 pingL [120] ++ [120] := by
  have : putE pingL [120] = 0 := by decide
  exact ⟨this, by unfold putL; rw [if_pos this]⟩
theorem ping_len : (putL 7 pingL [120]).length = 25 := by
  rw [ping_put.2, headOf_eq, List.length_append, headS_length (by decide) (by rw [List.length_take, dbl_length]; rfl)]
  rfl
theorem ping_get : getG 7 (capN 9) (putL 7 pingL [120]) = .yes pingL [120] := by
  have h := getG_put (magic := 7) (cap := capN 9) (c := pingL) (p := [120]) [] ping_ok (by decide) (by decide)
  rw [List.append_nil] at h
  rw [ping_put.2]
  exact h
theorem eight_feed : feedF 7 9 [] 0 [8] = ([], [], 5) := by
  have h8 : getG 7 9 [8] = .no 5 := by unfold getG; rw [if_pos (by decide)]
  have h0 : getG 7 9 [] = .no 1 := by unfold getG; simp
  have hs : saneF 7 9 [] 0 = true := by
    unfold saneF
    have : capN 9 = 9 := by decide
    rw [this, h0]
    decide
  unfold feedF
  rw [if_pos hs, if_pos rfl]
  have : capN 9 = 9 := by decide
  rw [this]
  unfold fedA
  rw [List.nil_append, feedA_eq, h8]
  decide
theorem bs1_run (a : Int) (w : World) : (Instr.buildSlice 23 1 #[(0, .int .u8 a)]).run Tryd.prog w = .ok (.slice (some ⟨w.heap.size, 0, none⟩) 1 1) (w.alloc (.cells #[.int .u8 a] 5)) := by
  obtain ⟨i, hi⟩ := Option.isSome_iff_exists.1 (show (Tryd.prog.info? 5).isSome = true by kernel_rfl)
  have h1 : i.size = 1 := by
    have : (Tryd.prog.info? 5).map (·.size) = some 1 := by kernel_rfl
    rw [hi] at this
    simpa using this
  unfold Instr.buildSlice
  simp [run_underlying Tryd.underlying23, go_sem, sizeOf, typeInfo, hi, h1, Tryd.zeroValue5, Instr.fill, Value.cells, newRow]
theorem rd_one (w : World) (b : UInt8) (t : TypeId) (fr : Nat × Nat) : RdS (w.alloc (.cells #[.int .u8 b.toNat] t fr)) (some ⟨w.heap.size, 0, none⟩) [b] := .inr ⟨w.heap.size, 0, rfl, by simp, fun i hi => by
  obtain rfl : i = 0 := by simp at hi; omega
  exact World.cell?_alloc_mark w #[.int .u8 b.toNat] t fr 0⟩
set_option maxRecDepth 100000 in
set_option maxHeartbeats 1000000 in
theorem Awake06 (w : World) (hL : Laid w) : Calls Tryd.prog 4 #[] w fun e w' => e = .returned (.bool true) ∧ Below w.heap.size w w' := by
  have hbs := fun a w => bs1_run a w
  have hbu : ∀ (s : ByteArray) (a : Option Addr) (n c : Nat) (w : World), (Instr.build 32 #[(0, .string s), (1, .slice a n c)]).run Tryd.prog w = .ok (.agg #[.string s, .slice a n c]) w := fun s a n c w => by kernel_rfl
  have hcv := Lib.run_convert_bytes_const (P := Tryd.prog) w 23 5 #[.int .u8 120] 1 1 Tryd.underlying23 Tryd.underlying5
  have B1 : Below w.heap.size w (w.alloc (.cells #[.int .u8 120] 5 (1, 2))) := ba (Below.refl _ _) _
  have cP := Put_any 7 (by decide) pingL (by decide) (some ⟨w.heap.size, 0, none⟩) 1 1 [120] rfl (Nat.le_refl _) ⟨by decide, by decide⟩ (fun h => by cases h) (w.alloc (.cells #[.int .u8 120] 5 (1, 2))) (rd_one w 120 _ _) (hL.calls B1)
  rw [ping_put.1] at cP
  have H := Lib.hid (And.intro cP (And.intro B1 hL)); clear cP B1
  go_enter Tryd.func4, Tryd.ntmps4
  go_wp2_with fail
  refine H.out.1.mono ?_
  rintro e w1 ⟨u, rfl, hb1, hu⟩
  obtain ⟨ua, uc, rfl, hu1, hu2, hu3, hu4⟩ := hu
  have BB1 := bt H.out.2.1 hb1
  have cG := Get_any 7 (by decide) 9 ua _ uc (putL 7 pingL [120]) rfl hu2 (by rw [ping_len]; exact ⟨by decide, by unfold maxLen at hu3; omega⟩) hu4 w1 hu1 (H.out.2.2.calls BB1)
  have hl25 := ping_len
  rw [hl25] at cG ⊢
  have G := Lib.hid (And.intro cG BB1); clear cG BB1 hb1 hu1 hu2 hu3 hu4 hl25 hcv
  go_wp2_with fail
  refine G.out.1.mono ?_
  rintro e w2 ⟨v, rfl, hb2, hv⟩
  unfold GetV at hv
  rw [ping_get] at hv
  obtain ⟨x, rfl, ⟨xa, xc, rfl, _⟩, _⟩ := hv
  have BB2 := bt G.out.2 hb2
  have cN := fun w => New_any 7 9 w
  have G2 := Lib.hid (And.intro BB2 cN); clear BB2 cN hb2
  have hping : bstr pingL = ⟨#[112, 105, 110, 103]⟩ := rfl
  have cap9 : capN 9 = 9 := by decide
  have M2 := ba (Below.refl w2.heap.size w2) (.cells (msgC pingL (.slice xa 1 xc)) 32)
  have M0 : Blk (w2.alloc (.cells (msgC pingL (.slice xa 1 xc)) 32)) w2.heap.size 32 (msgC pingL (.slice xa 1 xc)) := Blk.new _ _ _
  have HM := Lib.hid (And.intro M2 M0); clear M2 M0
  unfold msgC
  rw [hping]
  go_wp2_with fail
  refine (G2.out.2 _).mono ?_
  rintro e w3 ⟨rfl, hb3⟩
  rw [cap9]
  have M3 := HM.out.2.calls hb3
  have BB3 := bt (bt G2.out.1 HM.out.1) hb3
  have B4 := ba BB3 (.cells #[.int .u8 8] 5)
  have cF := Feed_any 7 (by decide) 9 0 none 0 0 [] (some ⟨w3.heap.size, 0, none⟩) 1 1 [8] rfl rfl (Nat.le_refl _) (by decide) (Nat.le_refl _) (by decide) (by decide) (by decide) (fun _ => ⟨rfl, rfl⟩) (fun h => by cases h) (w3.alloc (.cells #[.int .u8 8] 5)) (.inl rfl) (rd_one w3 8 _ _) (H.out.2.2.calls B4)
  rw [eight_feed, cap9] at cF
  have G3 := Lib.hid (And.intro cF (And.intro B4 (M3.alloc (.cells #[.int .u8 8] 5)))); clear cF B4 M3 BB3 hb3
  unfold bufC
  go_wp2_with fail
  refine G3.out.1.mono ?_
  rintro e w4 ⟨v, rfl, hb4, u, vl, b0, rfl, ⟨la, lc, rfl, _⟩, hms, _⟩
  obtain ⟨va, vc, rfl⟩ : ∃ a c, vl = .slice a 0 c := by
    obtain ⟨L, _, q2, _⟩ := hms
    exact own2_slice q2
  have M4 := G3.out.2.2.calls hb4
  have BB4 := bt G3.out.2.1 hb4
  have m0 : w4.cell? ⟨w2.heap.size, 0, none⟩ = some (.string ⟨#[112, 105, 110, 103]⟩) := M4.cell 0
  have zm := M4.lt
  have cC := fun w => Command_any pingL (by decide) w
  rw [ping_ok, hping] at cC
  have G4 := Lib.hid (And.intro BB4 cC); clear BB4 cC hb4 M4 hms
  unfold bufI
  go_wp2_with fail
  refine (G4.out.2 _).mono ?_
  rintro e w5 ⟨rfl, rfl⟩
  go_wp2_with fail
  go_ret
  exact ⟨rfl, ba G4.out.1 _⟩
end Go.Proofs.YtlegcceaoglpoaaDoor

namespace Go.Proofs.YtlegcceaoglpoaaDoor
open Go.RowKit
set_option linter.unusedVariables false
theorem getG_nil (magic cap : Nat) : getG magic cap [] = .no 1 := by unfold getG; simp
theorem saneF_nil (magic : Nat) {K : Nat} (hK : K ≤ 4000000) : saneF magic K [] 0 = true := by
  unfold saneF
  rw [capN_same K hK, if_pos rfl, if_pos rfl, getG_nil]
  rfl
theorem feedF_new (magic : Nat) {K : Nat} (hK : K ≤ 4000000) (c : List UInt8) : feedF magic K [] 0 c = fedA magic K c := by
  unfold feedF
  rw [if_pos (saneF_nil magic hK), if_pos rfl, capN_same K hK, List.nil_append]
theorem feedA_end (magic K : Nat) (c : List UInt8) : 1 ≤ (feedA magic K c).2.2 ∧ (feedA magic K c).2.2 ≤ 5 := getG_no (feedA_rest magic K c.length c (Nat.le_refl _))
/-- A stream behind a feeding may be. -/
theorem saneF_fed (magic : Nat) {K : Nat} (hK : K ≤ 4000000) (c : List UInt8) : saneF magic K (fedA magic K c).2.1 (fedA magic K c).2.2 = true := by
  have hr := feedA_rest magic K c.length c (Nat.le_refl _)
  have he := feedA_end magic K c
  unfold saneF fedA
  rw [capN_same K hK, if_pos rfl]
  simp only
  by_cases h1 : (feedA magic K c).2.2 = 1
  · rw [if_pos h1, if_pos h1, if_pos rfl, hr, h1]
    rfl
  · rw [if_neg h1, if_neg h1, if_neg (by omega)]
    rfl
/-- FED IN PARTS AND AT ONCE. -/
theorem fedA_app (magic : Nat) {K : Nat} (hK : K ≤ 4000000) (a x : List UInt8) : fedA magic K (a ++ x) = ((fedA magic K a).1 ++ (feedF magic K (fedA magic K a).2.1 (fedA magic K a).2.2 x).1, (feedF magic K (fedA magic K a).2.1 (fedA magic K a).2.2 x).2) := by
  have hs := saneF_fed magic hK a
  have he := feedA_end magic K a
  unfold feedF
  rw [if_pos hs, capN_same K hK]
  have h := feedA_app magic K x a.length a (Nat.le_refl _)
  by_cases h1 : (feedA magic K a).2.2 = 1
  · have e1 : (fedA magic K a).1 = (feedA magic K a).1 := rfl
    have e2 : (fedA magic K a).2.1 = (feedA magic K a).2.1 := by unfold fedA; rw [if_pos h1]
    have e3 : (fedA magic K a).2.2 = 0 := by unfold fedA; simp only [if_pos h1]
    rw [e1, e2, e3, if_pos rfl]
    rw [if_pos h1] at h
    unfold fedA
    rw [h]
  · have e1 : (fedA magic K a).1 = (feedA magic K a).1 := rfl
    have e2 : (fedA magic K a).2.1 = [] := by unfold fedA; rw [if_neg h1]
    have e3 : (fedA magic K a).2.2 = ((feedA magic K a).2.2 : Int) := by unfold fedA; simp only [if_neg h1]
    rw [e1, e2, e3, if_neg (by omega)]
    rw [if_neg h1] at h
    unfold fedA
    rw [h]
    simp [h1]
theorem feedF_bad (magic : Nat) {K : Nat} (hK : K ≤ 4000000) (c x : List UInt8) (h : (fedA magic K c).2.2 ≠ 0) : feedF magic K (fedA magic K c).2.1 (fedA magic K c).2.2 x = ([], [], (fedA magic K c).2.2) := by
  unfold feedF
  rw [if_pos (saneF_fed magic hK c), if_neg h]
/-- NO MORE IS KEPT THAN A HEAD AND A PAYLOAD. -/
theorem fedA_kept (magic K : Nat) (c : List UInt8) : (fedA magic K c).2.1.length < 24 + K ∧ sumM (fedA magic K c).1 + (fedA magic K c).2.1.length ≤ c.length ∧ ((fedA magic K c).2.2 = 0 → sumM (fedA magic K c).1 + (fedA magic K c).2.1.length = c.length) ∧ ((fedA magic K c).2.2 ≠ 0 → (fedA magic K c).2.1 = []) ∧ ∀ x ∈ (fedA magic K c).1, cmdOk x.1 = true ∧ x.2.length ≤ K := by
  have hr := feedA_rest magic K c.length c (Nat.le_refl _)
  have he := feedA_end magic K c
  obtain ⟨h1, h2⟩ := feedA_sum magic K c.length c (Nat.le_refl _)
  unfold fedA
  simp only
  by_cases h : (feedA magic K c).2.2 = 1
  · rw [if_pos h, if_pos h]
    rw [h] at hr
    exact ⟨getG_one hr, by omega, fun _ => h1, fun h => absurd rfl h, h2⟩
  · rw [if_neg h, if_neg h]
    exact ⟨by simp; omega, by simp; omega, fun h0 => by omega, fun _ => rfl, h2⟩
end Go.Proofs.YtlegcceaoglpoaaDoor

namespace Go.Proofs.YtlegcceaoglpoaaDoor
open Go.RowKit
set_option linter.unusedVariables false
/-- What is told of bytes, whatever stands behind them. -/
def RowF (magic K : Nat) (all : List UInt8) (want : List (List UInt8 × List UInt8)) (bad : Bool) : Prop :=
  (bad = false → ∀ X, feedA magic K (all ++ X) = (want ++ (feedA magic K X).1, (feedA magic K X).2)) ∧ (bad = true → ∀ X, (feedA magic K (all ++ X)).1 = want ∧ (feedA magic K (all ++ X)).2.2 = 3)
theorem rowF_nil (magic K : Nat) : RowF magic K [] [] false := ⟨fun _ X => by simp, fun h => by cases h⟩
section
variable {magic K : Nat} (hK : K ≤ 4000000) {all : List UInt8} {want : List (List UInt8 × List UInt8)} {c p : List UInt8} (hc : cmdOk c = true)
theorem rowF_good (h : RowF magic K all want false) (hc : cmdOk c = true) (hp : p.length ≤ K) (hK : K ≤ 4000000) : RowF magic K (all ++ (headOf magic c p ++ p)) (want ++ [(c, p)]) false := by
  refine ⟨fun _ X => ?_, fun h => by cases h⟩
  rw [List.append_assoc, h.1 rfl, feedA_put X hc hp hK]
  simp
theorem rowF_big (h : RowF magic K all want false) (hc : cmdOk c = true) (hp : K < p.length) (hn : p.length < 4294967296) : RowF magic K (all ++ (headOf magic c p ++ p)) want true := by
  refine ⟨fun h => (by cases h), fun _ X => ?_⟩
  rw [List.append_assoc, h.1 rfl, feedA_big X hc hp hn]
  simp
theorem rowF_bad {b : List UInt8} (h : RowF magic K all want true) : RowF magic K (all ++ b) want true := by
  refine ⟨fun h => (by cases h), fun _ X => ?_⟩
  rw [List.append_assoc]
  exact h.2 rfl _
end
theorem rowF_end {magic K : Nat} {all : List UInt8} {want : List (List UInt8 × List UInt8)} {bad : Bool} (h : RowF magic K all want bad) : fedA magic K all = (want, [], if bad = true then 3 else 0) := by
  unfold fedA
  cases bad
  · have h1 := h.1 rfl []
    rw [List.append_nil, feedA_nil] at h1
    rw [h1]
    simp
  · have h1 := h.2 rfl []
    rw [List.append_nil] at h1
    rw [h1.1, h1.2]
    simp
theorem rowF_endF {magic K : Nat} {all : List UInt8} {want : List (List UInt8 × List UInt8)} (h : RowF magic K all want false) : fedA magic K all = (want, [], 0) := rowF_end h
theorem rowF_endT {magic K : Nat} {all : List UInt8} {want : List (List UInt8 × List UInt8)} (h : RowF magic K all want true) : fedA magic K all = (want, [], 3) := rowF_end h
theorem putE_bad {c p : List UInt8} (h : cmdOk c = false) : putE c p = 2 := by unfold putE; rw [h]; rfl
theorem putE_good {c p : List UInt8} (h : cmdOk c = true) (hp : p.length ≤ 4000000) : putE c p = 0 := by unfold putE; rw [if_pos h, if_pos hp]
theorem putL_good {magic : Nat} {c p : List UInt8} (h : cmdOk c = true) (hp : p.length ≤ 4000000) : putL magic c p = headOf magic c p ++ p := by unfold putL; rw [if_pos (putE_good h hp)]
theorem put_length {magic : Nat} {c p : List UInt8} (h : cmdOk c = true) : (headOf magic c p ++ p).length = 24 + p.length := by
  rw [headOf_eq, List.length_append, headS_length (cmdOk_len h) (by rw [List.length_take, dbl_length]; rfl)]
end Go.Proofs.YtlegcceaoglpoaaDoor

namespace Go.Proofs.YtlegcceaoglpoaaDoor
open Go.RowKit
set_option linter.unusedVariables false
theorem own2_below {w w' : World} {base : Nat} {e : TypeId} {v : Value} {n : Nat} {xs : List Value} (h : w.ownsRow base e 2 v n xs) (hb : Below w.heap.size w w') : w'.ownsRow base e 2 v n xs :=
  h.kept (row := none) ⟨hb.os, hb.tape, hb.output, hb.size, fun k hk _ => hb.block k hk⟩ (by cases hv : v.ownBlock <;> simp)
theorem own2_rdc {w : World} {base : Nat} {e : TypeId} {v : Value} {n : Nat} {cs : List Value} (h : w.ownsRow base e 2 v n cs) : ∃ a c, v = .slice a n c ∧ RdC w a cs ∧ n ≤ c ∧ c ≤ maxLen ∧ (a = none → n = 0 ∧ c = 0) := by
  obtain ⟨h0, ⟨hv, hz⟩ | ⟨g, cap, cur, hv, hb, hg, q1, q2, q3, q4⟩⟩ := h
  · subst hz
    exact ⟨none, 0, hv, .inl (List.length_eq_zero_iff.1 (by omega)), Nat.le_refl _, Nat.zero_le _, fun _ => ⟨rfl, rfl⟩⟩
  · refine ⟨some ⟨g, 0, none⟩, cap, hv, .inr ⟨g, 0, rfl, (show Blk w g _ cur from hg).lt, fun j u hu => ?_⟩, q1, q2, fun h => by cases h⟩
    rw [Nat.zero_add]
    refine blk_get (show Blk w g _ cur from hg) j _ ?_
    rw [← q4, List.getElem?_take] at hu
    split at hu
    · simpa using hu
    · cases hu
theorem msgCs_take (L : List (MsgT × Value)) (k : Nat) (x : MsgT × Value) (h : L[k]? = some x) : msgCs (L.take (k + 1)) = msgCs (L.take k) ++ [.string (bstr x.1.1), x.2] := by
  rw [List.take_add_one, h]
  unfold msgCs
  rw [List.flatMap_append]
  rfl
set_option maxRecDepth 100000 in
theorem Theirs_any (M : Int) (K bad : Int) (a : Option Addr) (n c : Nat) (w : World) : Calls Tryd.prog 13 #[.agg #[.int .u32 M, .int .i64 K, .slice a n c, .int .i64 bad]] w fun e w' => e = .returned (.agg #[.int .u32 M, .int .i64 K, .slice a n c, .int .i64 bad]) ∧ Below w.heap.size w w' := by
  have hbu : ∀ (a : Option Addr) (n c : Nat) (w : World), (Instr.build 28 #[(0, .int .u32 M), (1, .int .i64 K), (2, .slice a n c), (3, .int .i64 bad)]).run Tryd.prog w = .ok (.agg #[.int .u32 M, .int .i64 K, .slice a n c, .int .i64 bad]) w := fun a n c w => by kernel_rfl
  go_enter Tryd.func13, Tryd.ntmps13
  go_wp2
  refine bodyPost_ret (v := .agg #[.int .u32 M, .int .i64 K, .slice a n c, .int .i64 bad]) (by simp [results, Tryd.results13, go_sem]) rfl ⟨rfl, ?_⟩
  exact ba (ba (Below.refl _ _) _) _
set_option maxRecDepth 100000 in
theorem Ours_any (M : Int) (K bad : Int) (a : Option Addr) (n c : Nat) (w : World) : Calls Tryd.prog 10 #[.agg #[.int .u32 M, .int .i64 K, .slice a n c, .int .i64 bad]] w fun e w' => e = .returned (.agg #[.int .u32 M, .int .i64 K, .slice a n c, .int .i64 bad]) ∧ Below w.heap.size w w' := by
  have hbu : ∀ (a : Option Addr) (n c : Nat) (w : World), (Instr.build 38 #[(0, .int .u32 M), (1, .int .i64 K), (2, .slice a n c), (3, .int .i64 bad)]).run Tryd.prog w = .ok (.agg #[.int .u32 M, .int .i64 K, .slice a n c, .int .i64 bad]) w := fun a n c w => by kernel_rfl
  go_enter Tryd.func10, Tryd.ntmps10
  go_wp2
  refine bodyPost_ret (v := .agg #[.int .u32 M, .int .i64 K, .slice a n c, .int .i64 bad]) (by simp [results, Tryd.results10, go_sem]) rfl ⟨rfl, ?_⟩
  exact ba (ba (Below.refl _ _) _) _
set_option maxRecDepth 100000 in
theorem Same_true (M : Int) (K bad : Int) (l : List UInt8) (n : Nat) (hn : n = l.length) (a1 : Option Addr) (c1 : Nat) (a2 : Option Addr) (c2 : Nat) (w : World) (h1 : RdS w a1 l) (h2 : RdS w a2 l) : Calls Tryd.prog 12 #[.agg #[.int .u32 M, .int .i64 K, .slice a1 n c1, .int .i64 bad], .agg #[.int .u32 M, .int .i64 K, .slice a2 n c2, .int .i64 bad]] w fun e w' => e = .returned (.bool true) ∧ Below w.heap.size w w' := by
  have B0 : Below w.heap.size w ((w.alloc (.cells #[.int .u32 M, .int .i64 K, .slice a1 l.length c1, .int .i64 bad] 28)).alloc (.cells #[.int .u32 M, .int .i64 K, .slice a2 l.length c2, .int .i64 bad] 28)) := ba (ba (Below.refl _ _) _) _
  have s1 := str_of (c := c1) (h1.calls B0) rfl
  have s2 := str_of (c := c2) (h2.calls B0) rfl
  obtain ⟨S, hS⟩ : ∃ S, S = bstr l := ⟨_, rfl⟩
  rw [← hS, ← hn] at s1 s2
  rw [← hn] at B0
  have H := Lib.hid B0; clear B0 h1 h2 hS hn
  go_enter Tryd.func12, Tryd.ntmps12
  go_wp2
  go_ret
  exact ⟨rfl, H.out⟩
theorem bsMR_run (S : ByteArray) (p : Option Addr) (m d : Nat) (w : World) : (Instr.buildSlice 43 1 #[(0, .agg #[.string S, .slice p m d])]).run Tryd.prog w = .ok (.slice (some ⟨w.heap.size, 0, none⟩) 1 1) (w.alloc (.cells #[.string S, .slice p m d] 25)) := by
  obtain ⟨i, hi⟩ := Option.isSome_iff_exists.1 (show (Tryd.prog.info? 25).isSome = true by kernel_rfl)
  have h1 : i.size = 2 := by
    have : (Tryd.prog.info? 25).map (·.size) = some 2 := by kernel_rfl
    rw [hi] at this
    simpa using this
  have hz : i.zero = some (.agg #[.string ⟨#[]⟩, .slice none 0 0]) := by
    have : (Tryd.prog.info? 25).map (·.zero) = some (some (.agg #[.string ⟨#[]⟩, .slice none 0 0])) := by kernel_rfl
    rw [hi] at this
    simpa using this
  unfold Instr.buildSlice
  simp [run_underlying Tryd.underlying43, go_sem, sizeOf, typeInfo, hi, h1, hz, zeroValue, Instr.fill, Value.cells, newRow]
theorem op_bsM {Q : Exit → Act → World → Prop} {o : Oper} {A : Act} {w : World} (S : ByteArray) (p : Option Addr) (m d : Nat) (x : Operand) (ho : o.op = .buildSlice 43 1 #[(0, x)]) (hx : A.eval x = .agg #[.string S, .slice p m d]) :
    o.wp Tryd.prog A w (fun a' w'' => ∃ g, a' = A.put o.dst (.slice (some ⟨g, 0, none⟩) 1 1) ∧ Below w.heap.size w w'' ∧ Blk w'' g 25 #[.string S, .slice p m d]) Q := by
  have hrun : (execOp A.eval o).run Tryd.prog w = .ok (.value (.slice (some ⟨w.heap.size, 0, none⟩) 1 1)) (w.alloc (.cells #[.string S, .slice p m d] 25)) := by
    unfold execOp
    generalize A.eval = ρ at *
    simp only [ho]
    simp [hx, go_sem]
  unfold Oper.wp
  rw [hrun, Oper.upon_value]
  exact ⟨_, rfl, ba (Below.refl _ _) _, Blk.new _ _ _⟩
theorem op_bldM {Q : Exit → Act → World → Prop} {o : Oper} {A : Act} {w : World} (S : ByteArray) (p : Option Addr) (m d : Nat) (x y : Operand) (ho : o.op = .build 25 #[(0, x), (1, y)]) (hx : A.eval x = .string S) (hy : A.eval y = .slice p m d) :
    o.wp Tryd.prog A w (fun a' w'' => a' = A.put o.dst (.agg #[.string S, .slice p m d]) ∧ Below w.heap.size w w'') Q := by
  have hbu : (Instr.build 25 #[(0, .string S), (1, .slice p m d)]).run Tryd.prog w = .ok (.agg #[.string S, .slice p m d]) w := by kernel_rfl
  refine op_run ?_
  unfold execOp
  generalize A.eval = ρ at *
  simp only [ho]
  simp [hx, hy, go_sem]
set_option maxRecDepth 100000 in
set_option maxHeartbeats 4000000 in
theorem msgs_any (T : List MsgT) (a : Option Addr) (n c : Nat) (hn : n ≤ 1000000) (w : World) (h : SlM T (.slice a n c) w) :
    Calls Tryd.prog 15 #[.slice a n c] w fun e w' => ∃ u, e = .returned u ∧ Below w.heap.size w w' ∧ SlM T u w' := by
  obtain ⟨L, a0, c0, h1, h2, h3, h4, h5, h6⟩ := h
  injection h1 with e1 e2 e3
  subst e1 e3
  have hL : L.length = n := by rw [e2, ← h2, List.length_map]
  obtain ⟨i0, hi, hz0, hz1, hz2⟩ := info_parts (show (Tryd.prog.info? 25).map (fun i => (i.zero, i.size, i.bytes)) = some (some (.agg #[.string ⟨#[]⟩, .slice none 0 0]), 2, 40) by kernel_rfl)
  have I := Lib.hid (And.intro hi (And.intro hz0 (And.intro hz1 hz2))); clear hi hz0 hz1 hz2
  have H := Lib.hid (And.intro h2 (And.intro h3 (And.intro h4 (And.intro hL e2)))); clear h2 h3 h4 h5 h6 hL e2
  go_enter Tryd.func15, Tryd.ntmps15
  go_wp2
  go_loopw [3, 4] (fun v i wr => ∃ k : Nat, k ≤ n ∧ i = .int .i64 k ∧ wr.ownsRow w.heap.size 25 2 v k (msgCs (L.take k)) ∧ Below w.heap.size w wr) (fun v i _ => n - (intOf i).toNat)
  case atStart => exact ⟨0, Nat.zero_le _, rfl, World.ownsRow_nil _ _ _ _, Below.refl _ _⟩
  case round =>
    obtain ⟨k, hk, rfl, hO, hB⟩ := hrel
    obtain ⟨va, vc, rfl⟩ := own2_slice hO
    by_cases hlt : k < n
    · have hlti : (k : Int) < (n : Int) := by omega
      obtain ⟨x, hx⟩ : ∃ x, L[k]? = some x := ⟨_, List.getElem?_eq_getElem (by have := H.out.2.2.2.1; omega)⟩
      obtain ⟨c1, c2⟩ := msgCs_at L k x hx
      obtain ⟨p, d, hp, _⟩ := H.out.2.1 x (List.mem_of_getElem? hx)
      obtain ⟨g, o, rfl, hg, hc⟩ : ∃ g o, a = some ⟨g, o, none⟩ ∧ g < w.heap.size ∧ ∀ j u, (msgCs L)[j]? = some u → w.cell? ⟨g, o + j, none⟩ = some u := by
        rcases H.out.2.2.1 with h | h
        · rw [h] at c1; cases c1
        · exact h
      have q1 := hc _ _ c1
      have q2 := hc _ _ c2
      rw [hp] at q2
      have hT := msgCs_take L k x hx
      rw [hp] at hT
      have ix := fun w => idx_msgF g o n c k hlt w
      obtain ⟨S, hS⟩ : ∃ S, S = bstr x.1.1 := ⟨_, rfl⟩
      rw [← hS] at q1 hT
      obtain ⟨m, hm⟩ : ∃ m, m = x.1.2.length := ⟨_, rfl⟩
      rw [← hm] at q2 hT
      obtain ⟨j, hj⟩ : ∃ j, j = o + 2 * k := ⟨_, rfl⟩
      rw [← hj] at q1 ix
      replace q2 : w.cell? ⟨g, j + 1, none⟩ = some (.slice p m d) := by rw [hj]; exact q2
      have hsz := hB.size
      have R := Lib.hid (And.intro ix (And.intro hT (And.intro hO hB))); clear ix hT hO hB hS hm hj hc c1 c2 hx hp
      go_wp2_with fail
      refine wp_region_app [some 11, some 12, some 13, some 14, some 15, some 16, some 17, some 18, some 19, some 20, some 21, some 22, some 23, some 24, some 3] (fun i => ([.slice va k vc, .slice (some ⟨g, o, none⟩) n c, .int .i64 k, .pointer (some ⟨g, j, none⟩), .pointer (some ⟨g, j + 0, none⟩), .string S, .slice (some ⟨g, o, none⟩) n c, .int .i64 k, .pointer (some ⟨g, j, none⟩), .pointer (some ⟨g, j + 1, none⟩), .slice p m d, .agg #[.string S, .slice p m d]] : List Value).getD i undef) 13 1
        (fun w' => Below w.heap.size w w') (fun w' => w'.ownsRow w.heap.size 25 2 (.slice va k vc) k (msgCs (L.take k)))
        (fun g w' => Blk w' g 25 #[.string S, .slice p m d]) (fun u w' => w'.ownsRow w.heap.size 25 2 u (k + 1) (msgCs (L.take k) ++ [.string S, .slice p m d]))
        (fun w1 w2 hb => ⟨fun h => bt h hb, fun h => own2_below h hb, fun g h => h.calls hb, fun u h => own2_below h hb⟩) (by kernel_rfl) rfl rfl rfl rfl rfl (by omega) rfl (fun o ho => by injection ho with ho; subst ho; rfl) rfl R.out.2.2.2 R.out.2.2.1 ⟨
        .inl ⟨rfl, rfl, fun γ A w' hk hs hd => op_move (.tmp 3) (.inl rfl) ((hd rfl 3 rfl).trans rfl)⟩,
        .inl ⟨rfl, rfl, fun γ A w' hk hs hd => op_move (.tmp 0) (.inl rfl) ((hs.2 0 rfl).trans rfl)⟩,
        .inl ⟨rfl, rfl, fun γ A w' hk hs hd => op_move (.tmp 4) (.inl rfl) ((hs.2 4 rfl).trans rfl)⟩,
        .inl ⟨rfl, rfl, fun γ A w' hk hs hd => op_idxa 39 (.tmp 12) (.tmp 13) rfl ((hs.1 1 rfl 12 rfl).trans rfl) ((hs.1 2 rfl 13 rfl).trans rfl) (R.out.1 _)⟩,
        .inl ⟨rfl, rfl, fun γ A w' hk hs hd => op_mf 32 (.tmp 14) 0 0 rfl g j ((hs.1 3 rfl 14 rfl).trans rfl) fun _ _ _ => by kernel_rfl⟩,
        .inl ⟨rfl, rfl, fun γ A w' hk hs hd => op_cel 9 (.tmp 15) rfl _ ((hs.1 4 rfl 15 rfl).trans rfl) _ ((hk.cell (p := ⟨g, j, none⟩) hg).trans q1) _ Tryd.underlying9 rfl⟩,
        .inl ⟨rfl, rfl, fun γ A w' hk hs hd => op_move (.tmp 0) (.inl rfl) ((hs.2 0 rfl).trans rfl)⟩,
        .inl ⟨rfl, rfl, fun γ A w' hk hs hd => op_move (.tmp 4) (.inl rfl) ((hs.2 4 rfl).trans rfl)⟩,
        .inl ⟨rfl, rfl, fun γ A w' hk hs hd => op_idxa 39 (.tmp 17) (.tmp 18) rfl ((hs.1 6 rfl 17 rfl).trans rfl) ((hs.1 7 rfl 18 rfl).trans rfl) (R.out.1 _)⟩,
        .inl ⟨rfl, rfl, fun γ A w' hk hs hd => op_mf 32 (.tmp 19) 1 1 rfl g j ((hs.1 8 rfl 19 rfl).trans rfl) fun _ _ _ => by kernel_rfl⟩,
        .inl ⟨rfl, rfl, fun γ A w' hk hs hd => op_cel 23 (.tmp 20) rfl _ ((hs.1 9 rfl 20 rfl).trans rfl) _ ((hk.cell (p := ⟨g, j + 1, none⟩) hg).trans q2) _ Tryd.underlying23 rfl⟩,
        .inl ⟨rfl, rfl, fun γ A w' hk hs hd => op_bldM S p m d (.tmp 16) (.tmp 21) rfl ((hs.1 5 rfl 16 rfl).trans rfl) ((hs.1 10 rfl 21 rfl).trans rfl)⟩,
        .inr (.inl ⟨rfl, fun γ A w' hk hs => op_bsM S p m d (.tmp 22) rfl ((hs.1 11 rfl 22 rfl).trans rfl)⟩),
        .inr (.inr ⟨rfl, rfl, fun γ A w' hk hr hc hs => by
          have hlb := hr.lt
          exact wp_append_own w' (.tmp 11) (.tmp 23) 43 rfl w.heap.size 25 i0 (.agg #[.string ⟨#[]⟩, .slice none 0 0]) 2 40 Tryd.underlying43 I.out.1 I.out.2.1 I.out.2.2.1 I.out.2.2.2 rfl (by omega) (.slice va k vc) k (msgCs (L.take k)) ((hs.1 0 rfl 11 rfl).trans rfl) hr ⟨γ.1, 0, none⟩ 1 1 [.string S, .slice p m d] ((hs.1 12 rfl 23 rfl).trans rfl) rfl (fun jj u hu => by
            match jj with
            | 0 => injection hu with hu; subst hu; exact blk_get hc 0 _ rfl
            | 1 => injection hu with hu; subst hu; exact blk_get hc 1 _ rfl
            | jj + 2 => cases hu) (by simp [Value.oneCell']) (by unfold maxLen; omega) (by omega) hk.size
            fun v' w'' h2 h3 h4 => ⟨v', rfl, h2, below_grown hk h3 hk.size (fun k e => by have := (hlb _ e).1; omega)⟩⟩),
        .inl ⟨rfl, rfl, fun γ A w' hk hs hd => op_move (.tmp 24) (.inr rfl) ((hs.1 13 rfl 24 rfl).trans rfl)⟩,
        trivial⟩ ?_
      rintro ⟨g', u⟩ wz hT hK
      simp only [Fr, if_true, Act.put, List.setIfInBounds_toArray, List.set_cons_zero, List.set_cons_succ]
      have ez : vApp (fun i => ([.slice va k vc, .slice (some ⟨g, o, none⟩) n c, .int .i64 k, .pointer (some ⟨g, j, none⟩), .pointer (some ⟨g, j + 0, none⟩), .string S, .slice (some ⟨g, o, none⟩) n c, .int .i64 k, .pointer (some ⟨g, j, none⟩), .pointer (some ⟨g, j + 1, none⟩), .slice p m d, .agg #[.string S, .slice p m d]] : List Value).getD i undef) 13 1 (g', u) 14 = u := rfl
      rw [ez]
      clear ez
      have Z := Lib.hid (And.intro hT hK); clear hT hK
      generalize vApp (fun i => ([.slice va k vc, .slice (some ⟨g, o, none⟩) n c, .int .i64 k, .pointer (some ⟨g, j, none⟩), .pointer (some ⟨g, j + 0, none⟩), .string S, .slice (some ⟨g, o, none⟩) n c, .int .i64 k, .pointer (some ⟨g, j, none⟩), .pointer (some ⟨g, j + 1, none⟩), .slice p m d, .agg #[.string S, .slice p m d]] : List Value).getD i undef) 13 1 (g', u) = vv
      go_wp2
      go_roundw
      case rel => exact ⟨k + 1, by omega, by go_num, by rw [R.out.2.1]; exact Z.out.1, Z.out.2⟩
      case measure => simp [intOf]; omega
    · obtain rfl : k = n := by omega
      have R := Lib.hid (And.intro hO hB); clear hO hB
      go_wp2
      refine bodyPost_ret (v := .slice va k vc) (by simp [results, Tryd.results15, go_sem]) rfl ?_
      obtain ⟨hO, hB⟩ := R.out
      have hL := H.out.2.2.2.1
      rw [List.take_of_length_le (by omega)] at hO
      obtain ⟨a', c', e, r1, r2, _, r3⟩ := own2_rdc hO
      have e2 := H.out.2.2.2.2
      exact ⟨_, rfl, hB, L, a', c', by rw [e, ← e2], H.out.1, fun x hx => (H.out.2.1 x hx).keep hB, r1, by omega, fun h => by have := r3 h; omega⟩
end Go.Proofs.YtlegcceaoglpoaaDoor
