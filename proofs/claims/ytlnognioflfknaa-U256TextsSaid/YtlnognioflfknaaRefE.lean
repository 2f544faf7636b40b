/- The document's Bytes, FromBytes. -/
import Derived.Test.YtlnognioflfknaaRefD
import Derived.Test.YtlnognioflfknaaU256d
import Derived.Test.YtlnognioflfknaaU256i
namespace Go.Proofs.Ytlnognioflfknaa
open Go.RowKit
set_option linter.unusedVariables false
set_option maxRecDepth 100000 in
set_option maxHeartbeats 1000000 in
theorem RBytes_any (m : Nat) (w : World) (hm : m < T) :
    Calls Try.prog 32 #[uval m] w fun e w' => e = .returned (.agg (u8cells (byB m 32))) ∧ Below w.heap.size w w' := by
  unfold uval
  go_enter Try.func32, Try.ntmps32
  go_wp2
  generalize hl : byB m 32 = l
  have hll : l.length = 32 := by rw [← hl]; simp [byB]
  have HL := Lib.hid (And.intro hl hll); clear hl hll
  go_loopw [4] (fun i wr => ∃ k : Nat, k ≤ 32 ∧ i = .int .i64 k ∧ Blk wr w.heap.size 24 (ucells m) ∧ Blk wr (w.heap.size + 1) 53 (partB l 0) ∧ Blk wr (w.heap.size + 2) 53 (partB l k) ∧ Below w.heap.size w wr) (fun i _ => 32 - (intOf i).toNat)
  case atStart =>
    have z : partB l 0 = Array.replicate 32 (.int .u8 0) := by rw [partB_zero, HL.out.2]
    rw [z]
    refine ⟨0, Nat.zero_le _, rfl, ((Blk.newAt _ _ _ rfl).alloc _).alloc _, ((Blk.snd _ _ _ _).to ?_).alloc _, (Blk.newAt _ _ _ ?_).to ?_, ba (ba (ba (Below.refl _ _) _) _) _⟩
    · first | rfl | (rw [z]; rfl)
    · simp
    · first | rfl | (rw [z]; rfl)
  case round =>
    obtain ⟨k, hk, rfl, h1, h0, h2, hb⟩ := hrel
    by_cases hlt : k < 32
    · obtain ⟨p, hp⟩ : ∃ p, p = 3 - k / 8 := ⟨_, rfl⟩
      obtain ⟨s, hs⟩ : ∃ s, s = 56 - k % 8 * 8 := ⟨_, rfl⟩
      have hp' : (3 : Int) - (k : Int) / 8 = (p : Int) := by omega
      have hs' : (56 : Int) - (k : Int) % 8 * 8 = (s : Int) := by omega
      have hp4 : p < 4 := by omega
      have hp4' : (p : Int) < 4 := by omega
      have hs64 : (s : Int) < 64 := by omega
      have c1 := blk_get h1 p _ (ucells_at m p hp4)
      have f2 := h2.frozen k
      obtain ⟨d, hd, hd16, hdl⟩ := byteOf m (31 - k) hm (by omega)
      rw [show (31 - k) / 8 = p by omega, show 8 * ((31 - k) % 8) = s by omega] at hd
      obtain ⟨v2, hv2⟩ := partB_at l k k (by have := HL.out.2; omega)
      have c2 := blk_get h2 k _ hv2
      have k2 : (k : Int) < 32 := by omega
      have H := Lib.hid (And.intro h1 (And.intro h0 (And.intro h2 (And.intro hb hdl)))); clear h1 h0 h2 hb hp hs hv2 hdl
      go_wp2
      obtain ⟨h1, h0, h2, hb, hdl⟩ := H.out
      have hl := HL.out
      go_roundw
      case rel =>
        refine ⟨k + 1, by omega, by go_num, h1.far (by omega) _, h0.far (by omega) _, (h2.set_ k _).to ?_, hb.setCell (by simp; omega) _⟩
        have e : (d : Int) = ((l.getD k 0).toNat : Int) := by
          rw [← hl.1, byB_at m 32 k (by omega), hdl, show 32 - 1 - k = 31 - k by omega]
          have : m / 256 ^ (31 - k) % 256 < 256 := Nat.mod_lt _ (by decide)
          simp
        rw [e]
        exact partB_set l k (by omega)
      case measure => simp [intOf]; omega
    · obtain rfl : k = 32 := by omega
      have hl := HL.out
      rw [partB_full l 32 hl.2] at h2
      have s0 : (partB l 0).size = 32 := by rw [partB_zero, hl.2]; simp
      have s2 : (u8cells l).size = 32 := by simp [u8cells, hl.2]
      have a2 : (u8cells l).all (·.oneCell') = true := by simp [u8cells, Value.oneCell']
      have i2 : (Try.prog.info? 53).map (·.size) = some (u8cells l).size := by rw [s2]; kernel_rfl
      have H := Lib.hid (And.intro hb (And.intro h2 h0)); clear h1 h0 h2 hb hl
      go_wp2_with (first | with_reducible refine wl_row H.out.2.1 _ _ rfl rfl rfl _ _ Try.underlying53 i2 ?_ | with_reducible refine ws_row H.out.2.2 _ _ _ _ rfl rfl rfl rfl i2 (s0.trans s2.symm) a2 ?_)
      obtain ⟨hb, h2, h0⟩ := H.out
      refine bodyPost_ret (v := .agg (u8cells l)) ?_ rfl ⟨by rw [HL.out.1], setRow_below hb (by omega) _⟩
      exact results_cell_row rfl _ _ _ _ _ _ _ rfl (h0.row _) Try.underlying53 rfl i2
/-- The bytes of a slice, none of them perhaps. -/
def RdL (w : World) (a : Option Addr) (l : List UInt8) : Prop := l = [] ∨ ∃ g off, a = some ⟨g, off, none⟩ ∧ g < w.heap.size ∧ Rd w g off l
theorem or_low8 (a x : Nat) (ha : a % 256 = 0) (hl : a < W64) (hx : x < 256) : bits .or .u64 (a : Int) (x : Int) = ((a + x : Nat) : Int) := by
  have h := or_byte a x 0 (by simpa using ha) hl hx (by omega)
  have e : IntKind.u64.wrap ((x : Int) * 2 ^ 0) = (x : Int) := by simp [IntKind.wrap, IntKind.signed, IntKind.bits]; omega
  rw [e] at h
  simpa using h
theorem lim_low8 (N x : Nat) (hN : N % 256 = 0) (hx : x < 256) : lim (N + x) 0 = lim N 0 + x ∧ lim N 0 % 256 = 0 ∧ ∀ j, j ≠ 0 → lim (N + x) j = lim N j := by
  have h := lim_byteAt N x 0 (by simpa using hN) hx
  simpa using h
set_option maxRecDepth 100000 in
theorem RFromBytes_big (a : Option Addr) (n c : Nat) (w : World) (h : 32 < n) (hn : n ≤ 9223372036854775807) :
    Calls Try.prog 28 #[.slice a n c] w fun e w' => e = .returned (.tuple #[uval 0, .int .i64 3]) ∧ Below w.heap.size w w' := by
  have h' : (32 : Int) < (n : Int) := by omega
  have e0 := uval_zero0
  rw [e0]
  clear e0
  go_enter Try.func28, Try.ntmps28
  go_wp2
  refine bodyPost_ret (v := .tuple #[.agg #[.int .u64 0, .int .u64 0, .int .u64 0, .int .u64 0], .int .i64 3]) (by simp [results, Try.results28, go_sem]) rfl ⟨rfl, ba (Below.refl _ _) _⟩
set_option maxRecDepth 100000 in
set_option maxHeartbeats 2000000 in
theorem RFromBytes_any (a : Option Addr) (n c : Nat) (l : List UInt8) (w : World) (hn : l.length = n) (h32 : n ≤ 32) (hr : RdL w a l) :
    Calls Try.prog 28 #[.slice a n c] w fun e w' => e = .returned (.tuple #[uval (fbV l), .int .i64 0]) ∧ Below w.heap.size w w' := by
  have h' : ¬ (32 : Int) < (n : Int) := by omega
  have hT := fbV_T l (by omega)
  obtain ⟨U, hU⟩ : ∃ U, U = ucells (fbV l) := ⟨_, rfl⟩
  have uU : uval (fbV l) = .agg U := by rw [hU]; rfl
  have sU : U.size = 4 := by rw [hU]; rfl
  have aU : U.all (·.oneCell') = true := by rw [hU]; exact u_one _
  have iU := isR4 U sU
  have zU : (ucells 0).size = U.size := by rw [sU]; rfl
  rw [uU]
  have HR := Lib.hid (And.intro hr (And.intro hn hU)); clear hr hn hU uU sU hT
  go_enter Try.func28, Try.ntmps28
  go_wp2
  go_loopw [5] (fun i wr => ∃ k : Nat, k ≤ n ∧ i = .int .i64 k ∧ Blk wr w.heap.size 24 (ucells 0) ∧ Blk wr (w.heap.size + 1) 24 (ucells (fbV (l.take k))) ∧ Below w.heap.size w wr) (fun i _ => n - (intOf i).toNat)
  case atStart =>
    refine ⟨0, Nat.zero_le _, rfl, (Blk.newAt _ _ _ rfl).alloc _, ?_, ba (ba (Below.refl _ _) _) _⟩
    rw [show l.take 0 = [] from rfl, show fbV [] = 0 from rfl]
    exact Blk.snd _ _ _ _
  case round =>
    obtain ⟨k, hk, rfl, h0, h1, hb⟩ := hrel
    by_cases hlt : k < n
    · obtain ⟨V, hV⟩ : ∃ V, V = fbV (l.take k) := ⟨_, rfl⟩
      obtain ⟨x, hx⟩ : ∃ x, x = (l.getD k 0).toNat := ⟨_, rfl⟩
      have hx8 : x < 256 := by rw [hx]; exact (l.getD k 0).toNat_lt
      have hstep : fbV (l.take (k + 1)) = V * 256 + x := by rw [take_snocD l k (by rw [HR.out.2.1]; exact hlt), fbV_snoc, ← hV, hx]
      have hVT : V * 256 < T := by
        have h1 := fbV_T (l.take (k + 1)) (by rw [List.length_take]; omega)
        rw [hstep] at h1
        omega
      have hVT' : V < T := by omega
      have cSh := fun w => RShl_any V 8 w hVT' (by omega)
      have e1 : shlN V 8 = V * 256 := by rw [shlN_eq V 8 hVT']; exact Nat.mod_eq_of_lt hVT
      rw [e1] at cSh
      generalize shlB V 8 = ov at *
      obtain ⟨N, hN⟩ : ∃ N, N = V * 256 := ⟨_, rfl⟩
      rw [← hN] at cSh hstep
      have lo := lim_low8 N x (by rw [hN, Nat.mul_mod_left]) hx8
      have vo := or_low8 (lim N 0) x lo.2.1 (lim_lt _ _) hx8
      rw [← lo.1] at vo
      rw [← hV] at h1
      have hcb : ∃ g off, a = some ⟨g, off, none⟩ ∧ g < w.heap.size ∧ Rd w g off l := by
        rcases HR.out.1 with h | h
        · have := HR.out.2.1; rw [h] at this; simp at this; omega
        · exact h
      obtain ⟨g, off, rfl, hg, hrd⟩ := hcb
      have k2 : (k : Int) < (n : Int) := by omega
      have l1 := h1.lt
      have S := Lib.hid (And.intro h0 (And.intro h1 (And.intro hb (And.intro cSh (And.intro hstep (And.intro lo (And.intro hrd hx))))))); clear h0 h1 hb cSh hstep lo hrd hx hV hN hVT hVT' e1
      have c4 := cl4 S.out.2.1
      go_wp2_with fail
      refine (S.out.2.2.2.1 _).mono ?_
      rintro e w3 ⟨rfl, hb3⟩
      simp only [uval]
      clear c4
      have T0 := S.out.1.calls hb3; have T1 := S.out.2.1.calls hb3; have TB := bt S.out.2.2.1 hb3
      have ls := T1.lt
      have Bs : Blk (w3.alloc (.cells (ucells N) 24)) w3.heap.size 24 (ucells N) := Blk.new w3 _ _
      have G := Lib.hid (And.intro (T0.alloc (.cells (ucells N) 24)) (And.intro (T1.alloc (.cells (ucells N) 24)) (ba TB (.cells (ucells N) 24)))); clear T0 T1 TB hb3
      go_wp2_with fail
      change Code.wp _ _ _ _ (w3.alloc (.cells (ucells N) 24))
      generalize World.alloc _ _ = w4 at *
      generalize w3.heap.size = gs at *
      have cs := clf Bs
      have cx : w4.cell? ⟨g, off + k, none⟩ = some (.int .u8 x) := by rw [S.out.2.2.2.2.2.2.2]; exact S.out.2.2.2.2.2.2.1.at G.out.2.2 hg k (by rw [HR.out.2.1]; exact hlt)
      go_region
      have hset := ucells_put N (N + x) 0 (by decide) (fun j _ hj => S.out.2.2.2.2.2.1.2.2 j hj)
      have T0 := (G.out.1.far (b := gs) (i := 0) (by omega) (.int .u64 (lim (N + x) 0))).drew
      have T1 := (G.out.2.1.far (b := gs) (i := 0) (by omega) (.int .u64 (lim (N + x) 0))).drew
      have TB := (G.out.2.2.setCell (p := ⟨gs, 0, none⟩) (by simp; omega) (.int .u64 (lim (N + x) 0))).drew
      have Bs2 := ((Bs.set_ 0 (.int .u64 (lim (N + x) 0))).to hset).drew
      clear cs cx Bs hset G
      change Exit.then _ _ _ _ (w4.setCell ⟨gs, 0, none⟩ (.int .u64 (lim (N + x) 0))).drew
      generalize World.drew _ = w5 at *
      have cs := clf Bs2
      have cr := clf T1
      have lr := T1.lt
      have G := Lib.hid (And.intro T0 (And.intro T1 TB)); clear T0 T1 TB Bs2
      go_wp2
      go_roundw
      case rel =>
        have D0 : Blk (fillW w5 (w.heap.size + 1) (N + x)) w.heap.size 24 (ucells 0) := G.out.1.fillFar (by omega)
        have D1 : Blk (fillW w5 (w.heap.size + 1) (N + x)) (w.heap.size + 1) 24 (ucells (N + x)) := G.out.2.1.fillAt
        have DB : Below w.heap.size w (fillW w5 (w.heap.size + 1) (N + x)) := fill_below G.out.2.2 (by omega)
        exact ⟨k + 1, by omega, by go_num, D0, by rw [S.out.2.2.2.2.1]; exact D1, DB⟩
      case measure => simp [intOf]; omega
    · obtain rfl : k = n := by omega
      rw [List.take_of_length_le (by have := HR.out.2.1; omega), ← HR.out.2.2] at h1
      have D := Lib.hid (And.intro h0 (And.intro h1 hb)); clear h0 h1 hb
      go_wp2_with (first | with_reducible refine wl_row D.out.2.1 _ _ rfl rfl rfl _ _ Try.underlying24 iU ?_ | with_reducible refine ws_row D.out.1 _ _ _ _ rfl rfl rfl rfl iU zU aU ?_)
      refine bodyPost_ret (v := .tuple #[.agg U, .int .i64 0]) ?_ rfl ⟨rfl, setRow_below D.out.2.2 (Nat.le_refl _) _⟩
      exact results_cs (p := 2) (s := 3) rfl _ _ _ _ _ rfl (D.out.1.row _) Try.underlying24 iU
end Go.Proofs.Ytlnognioflfknaa
