/- What frame.Get comes to. The messages of a stream, told one by one: the function that is ranged over. May a stream be? -/
import Derived.Test.YtlegcceaoglpoaaDoorIsG
import Derived.Test.YtlegcceaoglpoaaDoorIsH
import Derived.Test.YtlegcceaoglpoaaDoorIsF
import Derived.RangeFuncNested
import Derived.RangeFuncBound
import Derived.RangeFuncCalls
import Derived.RangeFuncLeaves
import Derived.Shelf.Abstract
import Derived.Shelf.RegionOpen
import Derived.WalkKit
import Derived.OwnWalkIn
import Derived.TacticsInMore
import Derived.LoopNIn
import Derived.LoopIn
import Derived.BigQuiet
namespace Go.Proofs.YtlegcceaoglpoaaDoor
open Go.RowKit
set_option linter.unusedVariables false
/-- A message's cells. -/
def msgC (c : List UInt8) (v : Value) : Array Value := #[.string (bstr c), v]
/-- What Get hands back. -/
def GetV (base magic cap : Nat) (b : List UInt8) (v : Value) (w : World) : Prop :=
  match getG magic cap b with
  | .no e => v = .tuple #[.agg #[.string ⟨#[]⟩, .slice none 0 0], .int .i64 0, .int .i64 (e : Nat)]
  | .yes c p => ∃ u, v = .tuple #[.agg (msgC c u), .int .i64 (24 + p.length : Nat), .int .i64 0] ∧ CloV p u w ∧ ∀ ad n c, u = .slice (some ad) n c → base ≤ ad.block
theorem GetV.no {base magic cap : Nat} {b : List UInt8} {e : Nat} {w : World} (h : getG magic cap b = .no e) : GetV base magic cap b (.tuple #[.agg #[.string ⟨#[]⟩, .slice none 0 0], .int .i64 0, .int .i64 (e : Nat)]) w := by
  unfold GetV
  rw [h]
/-- Are the first k of these what they should be? -/
theorem magic_upto (l : List UInt8) (m : Nat) (k : Nat) (h : ∀ i, i < k → l.getD i 0 = (le4 m).getD i 0) (hk : k = min l.length 4) : l.take 4 = (le4 m).take l.length := by
  have h4 := le4_length m
  apply List.ext_getElem
  · rw [List.length_take, List.length_take]; omega
  · intro i h1 h2
    have hi : i < k := by rw [List.length_take] at h1; omega
    have := h i hi
    rw [List.getElem_take, List.getElem_take]
    simp only [List.getD] at this
    rw [List.getElem?_eq_getElem (by omega), List.getElem?_eq_getElem (by omega)] at this
    simpa using this
theorem magic_not (l : List UInt8) (m i : Nat) (hi : i < min l.length 4) (h : l.getD i 0 ≠ (le4 m).getD i 0) : l.take 4 ≠ (le4 m).take l.length := fun e => h (by
  have h1 : (l.take 4)[i]? = ((le4 m).take l.length)[i]? := by rw [e]
  rw [List.getElem?_take_of_lt (by omega), List.getElem?_take_of_lt (by omega)] at h1
  simp only [List.getD, h1])
theorem le4_at (m k : Nat) (h : k < 4) : ((le4 m).getD k 0).toNat = m / 2 ^ (8 * k) % 256 := by
  rcases (show k = 0 ∨ k = 1 ∨ k = 2 ∨ k = 3 by omega) with rfl | rfl | rfl | rfl <;> simp [le4]
theorem sizeG_le (b : List UInt8) : sizeG b = leN (b.drop 16) 4 := by
  unfold sizeG
  rw [leN_succ, leN_succ, leN_succ, leN_succ, leN_0, show (256 : Nat) ^ 0 = 1 from rfl, show (256 : Nat) ^ 1 = 256 from rfl, show (256 : Nat) ^ 2 = 65536 from rfl, show (256 : Nat) ^ 3 = 16777216 from rfl]
  simp only [getD_drop, Nat.add_zero, Nat.reduceAdd]
  omega
theorem sizeG_lt (b : List UInt8) : sizeG b < 4294967296 := by
  rw [sizeG_le]
  exact leN_lt (b.drop 16) 4
set_option maxRecDepth 100000 in
theorem BEqQ_any (a1 : Option Addr) (l1 : List UInt8) (n1 c1 : Nat) (h1 : l1.length = n1) (a2 : Option Addr) (l2 : List UInt8) (n2 c2 : Nat) (h2 : l2.length = n2) (w : World) (r1 : RdS w a1 l1) (r2 : RdS w a2 l2) (b : Bool) (hb : decide (l1 = l2) = b) :
    Calls Tryd.prog 28 #[.slice a1 n1 c1, .slice a2 n2 c2] w fun e w' => e = .returned (.bool b) ∧ w' = w := by
  have s1 := str_of (c := c1) r1 h1
  have s2 := str_of (c := c2) r2 h2
  have he : ((bstr l1).toList == (bstr l2).toList) = b := by
    rw [bstr_toList, bstr_toList, ← hb, Bool.eq_iff_iff]
    simp
  obtain ⟨S1, hS1⟩ : ∃ S, S = bstr l1 := ⟨_, rfl⟩
  obtain ⟨S2, hS2⟩ : ∃ S, S = bstr l2 := ⟨_, rfl⟩
  rw [← hS1] at s1 he
  rw [← hS2] at s2 he
  clear hS1 hS2 hb r1 r2 h1 h2
  go_enter Tryd.func28, Tryd.ntmps28
  go_wp2
  go_ret
  exact ⟨by first | rw [he] | simp, rfl⟩
theorem isMsg (c : Array Value) (h : c.size = 2) : (Tryd.prog.info? 32).map (·.size) = some c.size := by rw [h]; kernel_rfl
theorem op_sl {P : Program} {Q : Exit → Act → World → Prop} {o : Oper} {A : Act} {w : World} (t : TypeId) (x : Operand) (lo hi : Option Operand) (ho : o.op = .slice t x lo hi none) {xv u : Value} {lv hv : Option Value} (hx : A.eval x = xv) (hl : lo.map A.eval = lv) (hh : hi.map A.eval = hv)
    (hrun : (Instr.sliceAt t xv lv hv none).run P w = .ok u w) : o.wp P A w (fun a' w'' => a' = A.put o.dst u ∧ Below w.heap.size w w'') Q := by
  refine op_run ?_
  unfold execOp
  simp only [ho, hx, hl, hh, Option.map_none, Sem.run_bind, hrun]
  rfl
theorem sl_hash (g : Nat) (w : World) : (Instr.sliceAt 58 (.pointer (some ⟨g, 0, none⟩)) none (some (.int .i64 4)) none).run Tryd.prog w = .ok (.slice (some ⟨g, 0, none⟩) 4 32) w := by kernel_rfl
theorem payG_length (l : List UInt8) (h : 24 + sizeG l ≤ l.length) : (payG l).length = sizeG l := by
  unfold payG
  rw [List.length_take, List.length_drop]
  omega
theorem payG_nil (l : List UInt8) (h : sizeG l = 0) : payG l = [] := by
  unfold payG
  rw [h, List.take_zero]
theorem results_cts {fn : Func} {p s u : Tmp} {ty : TypeId} (h : fn.results = #[.cell p ty, .tmp s, .tmp u]) {P : Program} (tmps : Array Value) (w : World) (g : Nat) (t : TypeId) (cs : Array Value) {fs : Array Field}
    (hp : tmps.getD p undef = .pointer (some ⟨g, 0, none⟩)) (hg : Blk w g t cs) (hu : P.underlying ty = some (.struct fs)) (hi : (P.info? ty).map (·.size) = some cs.size) : (results fn tmps).run P w = .ok (.tuple #[.agg cs, tmps.getD s undef, tmps.getD u undef]) w := by
  have hp' : tmps[p]?.getD undef = .pointer (some ⟨g, 0, none⟩) := by simpa using hp
  simp [results, h, hp', asAddr, run_loadVar_row w g t ty cs (0, 0) _ hg hu rfl hi]
theorem u64_size (n : Nat) (h : n < 18446744073709551616) : IntKind.u64.wrap (n : Int) = (n : Int) := by rw [IntKind.wrap_u64]; omega
/-- 's[i:j]' of bytes. -/
theorem slice_ij (g o n c i j : Nat) (hij : i ≤ j) (hj : j ≤ c) (hic : i < c) (w : World) : (Instr.slice 23 (.slice (some ⟨g, o, none⟩) n c) (some (.int .i64 i)) (some (.int .i64 j)) none).run Tryd.prog w = .ok (.slice (some ⟨g, o + i, none⟩) (j - i) (c - i)) w := by
  have hs : (sizeOf (Tryd.prog.elem 23)).run Tryd.prog w = .ok 1 w := by kernel_rfl
  rw [run_slice_lh w 23 (some ⟨g, o, none⟩) n c (by kernel_rfl) .i64 .i64 i j (by omega) (by omega) (by omega), hs]
  simp [sliced, Addr.add_mid, show ¬ c = i by omega]
set_option maxRecDepth 100000 in
set_option maxHeartbeats 4000000 in
theorem Get_any (magic : Nat) (hm : magic < 4294967296) (most : Int) (a : Option Addr) (n c : Nat) (l : List UInt8) (hl : l.length = n) (hc : n ≤ c) (hc2 : n ≤ 140737488355328 ∧ c ≤ 9223372036854775807) (hno : a = none → n = 0 ∧ c = 0) (w : World) (hr : RdS w a l) (hL : Laid w) :
    Calls Tryd.prog 7 #[.int .u32 magic, .int .i64 most, .slice a n c] w fun e w' => ∃ v, e = .returned v ∧ Below w.heap.size w w' ∧ GetV w.heap.size magic (capN most) l v w' := by
  obtain ⟨k4, hk4⟩ : ∃ k4, k4 = min n 4 := ⟨_, rfl⟩
  have hmin : min (n : Int) 4 = (k4 : Int) := by omega
  have F := Lib.hid (And.intro hl (And.intro hr (And.intro hL hk4))); clear hl hr hL hk4
  have i2 := isMsg #[.string ⟨#[]⟩, .slice none 0 0] rfl
  have z2 : (#[.string ⟨#[]⟩, .slice none 0 0] : Array Value).size = (#[.string ⟨#[]⟩, .slice none 0 0] : Array Value).size := rfl
  have a2 : (#[.string ⟨#[]⟩, .slice none 0 0] : Array Value).all (·.oneCell') = true := by simp [Value.oneCell']
  have n47 := hc2.1
  have c63 := hc2.2
  go_enter Tryd.func7, Tryd.ntmps7
  go_wp2
  go_loopw [19] (fun i wr => ∃ k : Nat, k ≤ k4 ∧ i = .int .i64 k ∧ (∀ j, j < k → l.getD j 0 = (le4 magic).getD j 0) ∧ Blk wr w.heap.size 32 #[.string ⟨#[]⟩, .slice none 0 0] ∧ Below w.heap.size w wr) (fun i _ => k4 - (intOf i).toNat)
  case atStart => exact ⟨0, by omega, rfl, fun j hj => by omega, Blk.new w _ _, ba (Below.refl _ _) _⟩
  case round =>
    obtain ⟨k, hk, rfl, hmt, h6, hb⟩ := hrel
    by_cases hlt : k < k4
    · have hk4 := F.out.2.2.2
      obtain ⟨g, off, rfl, hg, hrd⟩ : ∃ g off, a = some ⟨g, off, none⟩ ∧ g < w.heap.size ∧ Rd w g off l := by
        rcases F.out.2.1 with h | h
        · have := F.out.1; rw [h] at this; simp at this; omega
        · exact h
      obtain ⟨x, hx⟩ : ∃ x, x = (l.getD k 0).toNat := ⟨_, rfl⟩
      have c1 := hrd.at hb hg k (by have := F.out.1; omega)
      rw [← hx] at c1
      obtain ⟨y, hy⟩ : ∃ y, y = ((le4 magic).getD k 0).toNat := ⟨_, rfl⟩
      obtain ⟨s, hs⟩ : ∃ s, s = 8 * k := ⟨_, rfl⟩
      have hsi : (8 : Int) * (k : Int) = (s : Int) := by omega
      have s32 : s < 32 := by omega
      have hv : (magic : Int) / (2 : Int) ^ s % 256 = (y : Int) := by
        rw [hy, le4_at magic k (by omega), ← hs]
        generalize hyy : magic / 2 ^ s = yy
        have e : (magic : Int) / (2 : Int) ^ s = (yy : Int) := by rw [← hyy]; push_cast; rfl
        rw [e]
        push_cast
        rfl
      have kn : (k : Int) < (n : Int) := by omega
      have kn' : k < n := by omega
      have kk4 : (k : Int) < (k4 : Int) := by omega
      by_cases hxy : x = y
      · have heq : l.getD k 0 = (le4 magic).getD k 0 := UInt8.toNat_inj.1 (by rw [← hx, ← hy, hxy])
        subst hxy
        have H := Lib.hid (And.intro hmt (And.intro h6 (And.intro hb (And.intro hx (And.intro hy (And.intro hs heq)))))); clear hmt h6 hb hx hy hs heq
        go_wp2
        go_region
        go_wp2
        go_roundw
        case rel =>
          obtain ⟨hmt, h6, hb, hx, hy, hs, heq⟩ := H.out
          refine ⟨k + 1, by omega, by go_num, fun j hj => ?_, h6.drew, hb.drew⟩
          by_cases e : j = k
          · rw [e]; exact heq
          · exact hmt j (by omega)
        case measure => simp [intOf]; omega
      · have hxi : ¬ (x : Int) = (y : Int) := by omega
        have hne : l.getD k 0 ≠ (le4 magic).getD k 0 := fun e => hxy (by rw [hx, hy, e])
        have hg5 : getG magic (capN most) l = .no 5 := by
          unfold getG
          rw [if_pos (magic_not l magic k (by have := F.out.1; omega) hne)]
        have c0 : wr.cell? ⟨w.heap.size, 0, none⟩ = some (.string ⟨#[]⟩) := h6.cell 0
        have c1' : wr.cell? ⟨w.heap.size, 1, none⟩ = some (.slice none 0 0) := h6.cell 1
        have f0 := h6.frozen 0
        have f1 := h6.frozen 1
        have H := Lib.hid (And.intro h6 (And.intro hb hg5)); clear hmt h6 hb hx hy hs hne hxy hg5
        go_wp2
        go_region
        go_wp2
        refine bodyPost_ret (v := .tuple #[.agg #[.string ⟨#[]⟩, .slice none 0 0], .int .i64 0, .int .i64 5]) ?_ rfl ⟨_, rfl, ((H.out.2.1.setCell (Nat.le_refl _) _).setCell (Nat.le_refl _) _).drew, GetV.no H.out.2.2⟩
        refine Eq.trans (results_cts rfl _ _ w.heap.size _ _ ?_ (((H.out.1.set_ 0 _).set_ 1 _).drew.to rfl) Tryd.underlying32 i2) ?_ <;> rfl
    · obtain rfl : k = k4 := by omega
      have hmg : l.take 4 = (le4 magic).take l.length := magic_upto l magic k hmt (by have := F.out.1; have := F.out.2.2.2; omega)
      have hk4 := F.out.2.2.2
      clear hmt hlt
      by_cases h24 : n < 24
      · have h24' : (n : Int) < 24 := by omega
        have hg5 : getG magic (capN most) l = .no 1 := by
          unfold getG
          rw [if_neg (not_not_intro hmg), if_pos (by have := F.out.1; omega)]
        have c0 : wr.cell? ⟨w.heap.size, 0, none⟩ = some (.string ⟨#[]⟩) := h6.cell 0
        have c1 : wr.cell? ⟨w.heap.size, 1, none⟩ = some (.slice none 0 0) := h6.cell 1
        have f0 := h6.frozen 0
        have f1 := h6.frozen 1
        have H := Lib.hid (And.intro h6 (And.intro hb (And.intro hg5 hk4))); clear h6 hb hg5 hmg hk4 hk
        have kk : ¬ (k : Int) < (k : Int) := by omega
        go_wp2
        refine bodyPost_ret (v := .tuple #[.agg #[.string ⟨#[]⟩, .slice none 0 0], .int .i64 0, .int .i64 1]) ?_ rfl ⟨_, rfl, (H.out.2.1.setCell (Nat.le_refl _) _).setCell (Nat.le_refl _) _, GetV.no H.out.2.2.1⟩
        refine Eq.trans (results_cts rfl _ _ w.heap.size _ _ ?_ (((H.out.1.set_ 0 _).set_ 1 _).to rfl) Tryd.underlying32 i2) ?_ <;> rfl
      · have h24' : ¬ (n : Int) < 24 := by omega
        obtain ⟨g, off, rfl, hg, hrd⟩ : ∃ g off, a = some ⟨g, off, none⟩ ∧ g < w.heap.size ∧ Rd w g off l := by
          rcases F.out.2.1 with h | h
          · have := F.out.1; rw [h] at this; simp at this; omega
          · exact h
        have hl := F.out.1
        have rd4 : ∀ w', Below w.heap.size w w' → RdS w' (some ⟨g, off + 4, none⟩) ((l.drop 4).take 12) := fun w' h => .inr ⟨g, off + 4, rfl, Nat.lt_of_lt_of_le hg h.size, (show Rd w' g off l from fun i hi => hrd.at h hg i hi).drop.take⟩
        have len12 : ((l.drop 4).take 12).length = 12 := by rw [List.length_take, List.length_drop]; omega
        have cT := fun w' (h : Below w.heap.size w w') => Trim_any (some ⟨g, off + 4, none⟩) 12 (c - 4) ((l.drop 4).take 12) len12 (by omega) (by omega) w' (rd4 w' h)
        have hcm : trimR ((l.drop 4).take 12) = cmdG l := rfl
        rw [hcm] at cT
        have hcl : (cmdG l).length ≤ 12 := by have := trimR_le ((l.drop 4).take 12); rw [hcm] at this; omega
        have cC := fun w' => Command_any (cmdG l) (by omega) w'
        obtain ⟨cmd, hcmd⟩ : ∃ cmd, cmd = cmdG l := ⟨_, rfl⟩
        rw [← hcmd] at cT cC hcl
        have c0 : wr.cell? ⟨w.heap.size, 0, none⟩ = some (.string ⟨#[]⟩) := h6.cell 0
        have c1 : wr.cell? ⟨w.heap.size, 1, none⟩ = some (.slice none 0 0) := h6.cell 1
        have f0 := h6.frozen 0
        have f1 := h6.frozen 1
        have H := Lib.hid (And.intro h6 (And.intro hb (And.intro hmg (And.intro hcmd (And.intro rd4 (And.intro hrd (And.intro hcl hl))))))); clear h6 hb hmg hk4 hk hcmd rd4 hrd hcm len12 hcl hl
        have CT := Lib.hid cT; clear cT
        have kk : ¬ (k : Int) < (k : Int) := by omega
        go_wp2_with fail
        refine (CT.out wr H.out.2.1).mono ?_
        rintro e w' ⟨a', rfl, hra, rfl⟩
        have hst := str_of (c := c - 4) hra rfl
        obtain ⟨q, hq⟩ : ∃ q, q = cmd.length := ⟨_, rfl⟩
        obtain ⟨S, hS⟩ : ∃ S, S = bstr cmd := ⟨_, rfl⟩
        rw [← hq, ← hS] at hst
        rw [← hS] at cC
        rw [← hq]
        have HQ := Lib.hid (And.intro hq hS); clear hq hS hra
        have CC := Lib.hid cC; clear cC CT kk
        go_wp2_with fail
        refine (CC.out _).mono ?_
        rintro e w' ⟨rfl, rfl⟩
        clear hst CC
        cases hok : cmdOk cmd with
        | false =>
          have hg5 : getG magic (capN most) l = .no 2 := by
            unfold getG
            rw [if_neg (not_not_intro H.out.2.2.1), if_neg (by have := H.out.2.2.2.2.2.2.2; omega), if_pos (by rw [← H.out.2.2.2.1]; exact hok)]
          have G5 := Lib.hid hg5; clear hg5 hok
          go_wp2
          refine bodyPost_ret (v := .tuple #[.agg #[.string ⟨#[]⟩, .slice none 0 0], .int .i64 0, .int .i64 2]) ?_ rfl ⟨_, rfl, (H.out.2.1.setCell (Nat.le_refl _) _).setCell (Nat.le_refl _) _, GetV.no G5.out⟩
          refine Eq.trans (results_cts rfl _ _ w.heap.size _ _ ?_ (((H.out.1.set_ 0 _).set_ 1 _).to rfl) Tryd.underlying32 i2) ?_ <;> rfl
        | true =>
          obtain ⟨N, hN⟩ : ∃ N, N = sizeG l := ⟨_, rfl⟩
          have hN32 : N < 4294967296 := by rw [hN]; exact sizeG_lt l
          have HN := Lib.hid (And.intro hN hok); clear hN hok
          go_wp2_with fail
          go_loopw [11, 46] (fun v i wq => ∃ j : Nat, j ≤ 4 ∧ i = .int .i64 j ∧ v = .int .u64 (leN (l.drop 16) j : Nat) ∧ wq = w') (fun _ i _ => 4 - (intOf i).toNat)
          case atStart => exact ⟨0, by omega, rfl, rfl, rfl⟩
          case round =>
            obtain ⟨j, hj, rfl, rfl, rfl⟩ := hrel
            by_cases hlt : j < 4
            · obtain ⟨p, hp⟩ : ∃ p, p = 16 + j := ⟨_, rfl⟩
              obtain ⟨s, hs⟩ : ∃ s, s = 8 * j := ⟨_, rfl⟩
              have hpi : (16 : Int) + (j : Int) = (p : Int) := by omega
              have hsi : (8 : Int) * (j : Int) = (s : Int) := by omega
              have p20 : p < 20 := by omega
              have pn : p < n := by omega
              have pni : (p : Int) < (n : Int) := by omega
              have s64 : s < 64 := by omega
              have j4 : (j : Int) < 4 := by omega
              obtain ⟨x, hx⟩ : ∃ x, x = (l.getD p 0).toNat := ⟨_, rfl⟩
              have hx8 : x < 256 := by rw [hx]; exact (l.getD p 0).toNat_lt
              have c2 := H.out.2.2.2.2.2.1.at H.out.2.1 hg p (by have := H.out.2.2.2.2.2.2.2; omega)
              rw [← hx] at c2
              obtain ⟨A, hA⟩ : ∃ A, A = leN (l.drop 16) j := ⟨_, rfl⟩
              have hA2 : A < 2 ^ s := by
                have := leN_lt (l.drop 16) j
                rw [hA, hs, Nat.pow_mul]
                exact this
              have ev := or_shift A x s hA2 hx8 (by omega)
              have hnx : leN (l.drop 16) (j + 1) = A + x * 2 ^ s := by
                rw [leN_succ, ← hA, getD_drop, ← hp, ← hx, hs, Nat.pow_mul]
              rw [← hA]
              have HX := Lib.hid (And.intro hA (And.intro hnx (And.intro ev (And.intro hx (And.intro hs (And.intro hp hA2)))))); clear hA hnx ev hx hs hp hA2
              go_wp2
              try go_region
              try go_wp2
              obtain ⟨hA, hnx, ev, hx, hs, hp, hA2⟩ := HX.out
              go_roundw
              case rel => exact ⟨j + 1, by omega, by go_num, by rw [hnx, ← ev, u64_size x (by omega)], trivial⟩
              case measure => simp [intOf]; omega
            · obtain rfl : j = 4 := by omega
              rw [← sizeG_le l, ← HN.out.1]
              obtain ⟨cN, hcN⟩ : ∃ cN, cN = capN most := ⟨_, rfl⟩
              have cNle : cN ≤ 4000000 := by rw [hcN]; exact capN_le most
              have cB := fun w' => Bounded_any most w'
              rw [← hcN] at cB
              have w64 := u64_size cN (by omega)
              have n64 : IntKind.i64.wrap (N : Int) = (N : Int) := by simp [IntKind.wrap, IntKind.signed, IntKind.bits]; omega
              have CB := Lib.hid (And.intro cB hcN); clear cB hcN hlt hj
              go_wp2_with fail
              refine (CB.out.1 _).mono ?_
              rintro e w' ⟨rfl, rfl⟩
              by_cases hbig : cN < N
              · have hbig' : (cN : Int) < (N : Int) := by omega
                have hg5 : getG magic (capN most) l = .no 3 := by
                  have := HN.out.1
                  have := CB.out.2
                  unfold getG
                  rw [if_neg (not_not_intro H.out.2.2.1), if_neg (by have := H.out.2.2.2.2.2.2.2; omega), if_neg (by rw [← H.out.2.2.2.1, HN.out.2]; simp), if_pos (by omega)]
                have G5 := Lib.hid hg5; clear hg5
                go_wp2
                refine bodyPost_ret (v := .tuple #[.agg #[.string ⟨#[]⟩, .slice none 0 0], .int .i64 0, .int .i64 3]) ?_ rfl ⟨_, rfl, (H.out.2.1.setCell (Nat.le_refl _) _).setCell (Nat.le_refl _) _, GetV.no G5.out⟩
                refine Eq.trans (results_cts rfl _ _ w.heap.size _ _ ?_ (((H.out.1.set_ 0 _).set_ 1 _).to rfl) Tryd.underlying32 i2) ?_ <;> rfl
              have hbig' : ¬ (cN : Int) < (N : Int) := by omega
              obtain ⟨E, hE⟩ : ∃ E, E = 24 + N := ⟨_, rfl⟩
              have hEi : (24 : Int) + (N : Int) = (E : Int) := by omega
              have E30 : E ≤ 4000024 := by omega
              have HE := Lib.hid hE; clear hE
              by_cases hsh : n < E
              · have hsh' : (n : Int) < (E : Int) := by omega
                have hg5 : getG magic (capN most) l = .no 1 := by
                  have := HN.out.1
                  have := CB.out.2
                  have := HE.out
                  unfold getG
                  rw [if_neg (not_not_intro H.out.2.2.1), if_neg (by have := H.out.2.2.2.2.2.2.2; omega), if_neg (by rw [← H.out.2.2.2.1, HN.out.2]; simp), if_neg (by omega), if_pos (by have := H.out.2.2.2.2.2.2.2; omega)]
                have G5 := Lib.hid hg5; clear hg5
                go_wp2
                refine bodyPost_ret (v := .tuple #[.agg #[.string ⟨#[]⟩, .slice none 0 0], .int .i64 0, .int .i64 1]) ?_ rfl ⟨_, rfl, (H.out.2.1.setCell (Nat.le_refl _) _).setCell (Nat.le_refl _) _, GetV.no G5.out⟩
                refine Eq.trans (results_cts rfl _ _ w.heap.size _ _ ?_ (((H.out.1.set_ 0 _).set_ 1 _).to rfl) Tryd.underlying32 i2) ?_ <;> rfl
              have hsh' : ¬ (n : Int) < (E : Int) := by omega
              have hEN := HE.out
              by_cases hc24 : c = 24
              · subst hc24
                obtain rfl : n = 24 := by omega
                obtain rfl : E = 24 := by omega
                obtain rfl : N = 0 := by omega
                clear hEN
                have rdp : ∀ w', Below w.heap.size w w' → RdS w' (some ⟨g, off, none⟩) (payG l) := fun w' h => .inl (payG_nil l HN.out.1.symm)
                have hEn := HE.out
                have hln := H.out.2.2.2.2.2.2.2
                have hNs := HN.out.1
                have plen : (payG l).length = 0 := (payG_length l (by rw [← hNs]; omega)).trans hNs.symm
                clear hEn hln hNs
                have cD := fun w' (h : Below w.heap.size w w') => Double_any (some ⟨g, off, none⟩) (payG l) (0) (0) plen (by omega) ⟨by omega, by omega⟩ (fun h => by cases h) w' (rdp w' h) (F.out.2.2.1.below h (Nat.le_refl _))
                have cK := fun w' (h : Below w.heap.size w w') => Clone_any (some ⟨g, off, none⟩) (0) (0) (payG l) plen (by omega) (fun h => by cases h) w' (rdp w' h)
                have rd20 : ∀ w', Below w.heap.size w w' → RdS w' (some ⟨g, off + 20, none⟩) ((l.drop 20).take 4) := fun w' h => .inr ⟨g, off + 20, rfl, Nat.lt_of_lt_of_le hg h.size, (show Rd w' g off l from fun i hi => H.out.2.2.2.2.2.1.at h hg i hi).drop.take⟩
                have len4 : ((l.drop 20).take 4).length = 4 := by have := H.out.2.2.2.2.2.2.2; rw [List.length_take, List.length_drop]; omega
                obtain ⟨D, hD⟩ : ∃ D, D = dbl (payG l) := ⟨_, rfl⟩
                have hDl : D.length = 32 := by rw [hD]; exact dbl_length _
                obtain ⟨C, hC⟩ : ∃ C, C = u8cells D := ⟨_, rfl⟩
                have hcd : u8cells (sumOf (sumOf (payG l))) = C := by rw [hC, hD, dbl]
                rw [hcd] at cD
                have sC : C.size = 32 := by rw [hC, u8cells_size]; exact hDl
                have iC : (Tryd.prog.info? 58).map (·.size) = some C.size := by rw [sC]; kernel_rfl
                have zC : (#[.int .u8 0, .int .u8 0, .int .u8 0, .int .u8 0, .int .u8 0, .int .u8 0, .int .u8 0, .int .u8 0, .int .u8 0, .int .u8 0, .int .u8 0, .int .u8 0, .int .u8 0, .int .u8 0, .int .u8 0, .int .u8 0, .int .u8 0, .int .u8 0, .int .u8 0, .int .u8 0, .int .u8 0, .int .u8 0, .int .u8 0, .int .u8 0, .int .u8 0, .int .u8 0, .int .u8 0, .int .u8 0, .int .u8 0, .int .u8 0, .int .u8 0, .int .u8 0] : Array Value).size = C.size := by rw [sC]; rfl
                have aC : C.all (·.oneCell') = true := by rw [hC]; exact u8cells_one _
                have lenD : (D.take 4).length = 4 := by rw [List.length_take]; omega
                obtain ⟨bq, hbq⟩ : ∃ b, decide (D.take 4 = (l.drop 20).take 4) = b := ⟨_, rfl⟩
                have P := Lib.hid (And.intro rdp (And.intro plen (And.intro cD (And.intro cK (And.intro rd20 (And.intro len4 (And.intro hD (And.intro hDl (And.intro hC (And.intro lenD hbq)))))))))); clear rdp plen cD cK rd20 len4 hD hDl hC hcd sC lenD hbq c0 c1 f0 f1
                go_wp2_with fail
                refine (P.out.2.2.1 _ H.out.2.1).mono ?_
                rintro e w2 ⟨rfl, hb2⟩
                have Q6 := H.out.1.calls hb2
                have z6 := Q6.lt
                have QB := bt H.out.2.1 hb2
                have NN : Blk _ w2.heap.size 58 #[.int .u8 0, .int .u8 0, .int .u8 0, .int .u8 0, .int .u8 0, .int .u8 0, .int .u8 0, .int .u8 0, .int .u8 0, .int .u8 0, .int .u8 0, .int .u8 0, .int .u8 0, .int .u8 0, .int .u8 0, .int .u8 0, .int .u8 0, .int .u8 0, .int .u8 0, .int .u8 0, .int .u8 0, .int .u8 0, .int .u8 0, .int .u8 0, .int .u8 0, .int .u8 0, .int .u8 0, .int .u8 0, .int .u8 0, .int .u8 0, .int .u8 0, .int .u8 0] := Blk.new w2 58 #[.int .u8 0, .int .u8 0, .int .u8 0, .int .u8 0, .int .u8 0, .int .u8 0, .int .u8 0, .int .u8 0, .int .u8 0, .int .u8 0, .int .u8 0, .int .u8 0, .int .u8 0, .int .u8 0, .int .u8 0, .int .u8 0, .int .u8 0, .int .u8 0, .int .u8 0, .int .u8 0, .int .u8 0, .int .u8 0, .int .u8 0, .int .u8 0, .int .u8 0, .int .u8 0, .int .u8 0, .int .u8 0, .int .u8 0, .int .u8 0, .int .u8 0, .int .u8 0]
                have R6 := (Q6.alloc (.cells #[.int .u8 0, .int .u8 0, .int .u8 0, .int .u8 0, .int .u8 0, .int .u8 0, .int .u8 0, .int .u8 0, .int .u8 0, .int .u8 0, .int .u8 0, .int .u8 0, .int .u8 0, .int .u8 0, .int .u8 0, .int .u8 0, .int .u8 0, .int .u8 0, .int .u8 0, .int .u8 0, .int .u8 0, .int .u8 0, .int .u8 0, .int .u8 0, .int .u8 0, .int .u8 0, .int .u8 0, .int .u8 0, .int .u8 0, .int .u8 0, .int .u8 0, .int .u8 0] 58)).rowFar (show w.heap.size ≠ w2.heap.size by omega) C
                have RB := setRow_below (ba QB (.cells #[.int .u8 0, .int .u8 0, .int .u8 0, .int .u8 0, .int .u8 0, .int .u8 0, .int .u8 0, .int .u8 0, .int .u8 0, .int .u8 0, .int .u8 0, .int .u8 0, .int .u8 0, .int .u8 0, .int .u8 0, .int .u8 0, .int .u8 0, .int .u8 0, .int .u8 0, .int .u8 0, .int .u8 0, .int .u8 0, .int .u8 0, .int .u8 0, .int .u8 0, .int .u8 0, .int .u8 0, .int .u8 0, .int .u8 0, .int .u8 0, .int .u8 0, .int .u8 0] 58)) (show w.heap.size ≤ w2.heap.size by omega) C
                have RD : RdS _ (some ⟨w2.heap.size, 0, none⟩) (D.take 4) := .inr ⟨w2.heap.size, 0, rfl, (NN.row C).lt, fun i hi => ((NN.row C).cell (0 + i)).trans (by
                  have hi4 : i < 4 := by rw [P.out.2.2.2.2.2.2.2.2.2.1] at hi; exact hi
                  rw [Nat.zero_add, P.out.2.2.2.2.2.2.2.2.1, u8cells_at D i (by have := P.out.2.2.2.2.2.2.2.1; omega)]
                  simp [List.getD, List.getElem?_take_of_lt hi4])⟩
                have NH := Lib.hid (And.intro NN (And.intro R6 (And.intro RB RD))); clear NN R6 RB RD Q6 QB hb2
                go_wp2_with (with_reducible refine ws_row NH.out.1 _ _ _ _ rfl rfl rfl rfl iC zC aC ?_)
                have NK := Lib.hid NH.out.2; clear NH
                generalize World.setRow _ _ _ = w3 at *
                generalize w2.heap.size = g15 at *
                have cQ := fun w' (h1 : RdS w' (some ⟨g15, 0, none⟩) (D.take 4)) (h2 : RdS w' (some ⟨g, off + 20, none⟩) ((l.drop 20).take 4)) => BEqQ_any (some ⟨g15, 0, none⟩) (D.take 4) 4 32 P.out.2.2.2.2.2.2.2.2.2.1 (some ⟨g, off + 20, none⟩) ((l.drop 20).take 4) 4 (24 - 20) P.out.2.2.2.2.2.1 w' h1 h2 bq P.out.2.2.2.2.2.2.2.2.2.2
                have CQ := Lib.hid cQ; clear cQ
                have hs20 := fun w => slice_ij g off 24 24 20 24 (by omega) (by omega) (by omega) w
                have HSL := Lib.hid hs20; clear hs20
                go_wp2_with fail
                refine wp_region_g [some 80, some 81, some 82, some 83, some 84] (FL [EqV (.slice (some ⟨g15, 0, none⟩) 4 32), EqV (.slice (some ⟨g, off, none⟩) 24 24), EqV (.slice (some ⟨g, off + 20, none⟩) 4 (24 - 20)), EqV (.bool bq), EqV (.bool (!bq))]) (FL_keeps ⟨keeps_eq _, keeps_eq _, keeps_eq _, keeps_eq _, keeps_eq _, trivial⟩) (by kernel_rfl) rfl rfl rfl rfl ⟨
                  .inr ⟨gk0 rfl, fun A w' γ hb hF hs => g_eq (op_sl 58 (.tmp 15) none (some (.const (.int .i64 4))) rfl ((hs.2 15 rfl).trans rfl) rfl rfl (sl_hash g15 w'))⟩,
                  .inr ⟨gk0 rfl, fun A w' γ hb hF hs => g_eq (op_move (.tmp 2) (.inl rfl) ((hs.2 2 rfl).trans rfl))⟩,
                  .inr ⟨gk0 rfl, fun A w' γ hb hF hs => g_eq (op_slice_s _ (.tmp 81) (some (.const (.int .i64 20))) (some (.const (.int .i64 24))) rfl ((hs.1 1 rfl 81 rfl).trans (hF 1 rfl)) rfl rfl (by kernel_rfl) (HSL.out w'))⟩,
                  .inr ⟨gk0 rfl, fun A w' γ hb hF hs => g_eq (op_call 28 #[.slice (some ⟨g15, 0, none⟩) 4 32, .slice (some ⟨g, off + 20, none⟩) 4 (24 - 20)] (exec_call _ 28 #[.slice (some ⟨g15, 0, none⟩) 4 32, .slice (some ⟨g, off + 20, none⟩) 4 (24 - 20)] rfl rfl (margs2 ((hs.1 0 rfl 80 rfl).trans (hF 0 rfl)) ((hs.1 2 rfl 82 rfl).trans (hF 2 rfl))) Tryd.func28 rfl rfl) ((CQ.out w' (NK.out.2.2.calls hb) (P.out.2.2.2.2.1 w' (bt NK.out.2.1 hb))).mono fun e w'' ⟨h1, h2⟩ => ⟨h1, h2 ▸ Below.refl _ _⟩))⟩,
                  .inr ⟨gk0 rfl, fun A w' γ hb hF hs => g_eq (op_not _ (.tmp 83) bq rfl ((hs.1 3 rfl 83 rfl).trans (hF 3 rfl)))⟩,
                  trivial⟩ ?_
                intro γ w4 hb4 hF
                simp only [Fr, if_true, Act.put, List.setIfInBounds_toArray, List.set_cons_zero, List.set_cons_succ]
                rw [show γ 4 = .bool (!bq) from hF 4 (by decide)]
                have B6 := NK.out.1.calls hb4
                have BB := bt NK.out.2.1 hb4
                clear hF hb4
                have c0 : w4.cell? ⟨w.heap.size, 0, none⟩ = some (.string ⟨#[]⟩) := B6.cell 0
                have c1 : w4.cell? ⟨w.heap.size, 1, none⟩ = some (.slice none 0 0) := B6.cell 1
                have f0 := B6.frozen 0
                have f1 := B6.frozen 1
                have K := Lib.hid (And.intro B6 BB); clear B6 BB
                cases hbb : bq with
                | false =>
                  have hg5 : getG magic (capN most) l = .no 4 := by
                    have h1 := P.out.2.2.2.2.2.2.2.2.2.2
                    rw [hbb] at h1
                    have h2 := of_decide_eq_false h1
                    have := HN.out.1
                    have := CB.out.2
                    have := HE.out
                    unfold getG
                    rw [if_neg (not_not_intro H.out.2.2.1), if_neg (by have := H.out.2.2.2.2.2.2.2; omega), if_neg (by rw [← H.out.2.2.2.1, HN.out.2]; simp), if_neg (by omega), if_neg (by have := H.out.2.2.2.2.2.2.2; omega), if_pos (by rw [← P.out.2.2.2.2.2.2.1]; exact h2)]
                  have G5 := Lib.hid hg5; clear hg5 hbb
                  go_wp2
                  refine bodyPost_ret (v := .tuple #[.agg #[.string ⟨#[]⟩, .slice none 0 0], .int .i64 0, .int .i64 4]) ?_ rfl ⟨_, rfl, (K.out.2.setCell (Nat.le_refl _) _).setCell (Nat.le_refl _) _, GetV.no G5.out⟩
                  refine Eq.trans (results_cts rfl _ _ w.heap.size _ _ ?_ (((K.out.1.set_ 0 _).set_ 1 _).to rfl) Tryd.underlying32 i2) ?_ <;> rfl
                | true =>
                  have hg5 : getG magic (capN most) l = .yes (cmdG l) (payG l) := by
                    have h1 := P.out.2.2.2.2.2.2.2.2.2.2
                    rw [hbb] at h1
                    have h2 := of_decide_eq_true h1
                    have := HN.out.1
                    have := CB.out.2
                    have := HE.out
                    unfold getG
                    rw [if_neg (not_not_intro H.out.2.2.1), if_neg (by have := H.out.2.2.2.2.2.2.2; omega), if_neg (by rw [← H.out.2.2.2.1, HN.out.2]; simp), if_neg (by omega), if_neg (by have := H.out.2.2.2.2.2.2.2; omega), if_neg (by rw [← P.out.2.2.2.2.2.2.1]; exact not_not_intro h2)]
                  have G5 := Lib.hid hg5; clear hg5 hbb
                  go_wp2_with fail
                  refine (P.out.2.2.2.1 w4 K.out.2).mono ?_
                  rintro e w5 ⟨u, rfl, hb5, hu, hfr⟩
                  obtain ⟨ua, uc, rfl, hu2⟩ := hu
                  have hne : ∀ ad, ua = some ad → ad.block ≠ w.heap.size ∧ w.heap.size ≤ ad.block := fun ad h => by have := hfr ad _ _ (by rw [h]); have := K.out.1.lt; omega
                  have B6 := K.out.1.calls hb5
                  have BB := bt K.out.2 hb5
                  have c0 : w5.cell? ⟨w.heap.size, 0, none⟩ = some (.string ⟨#[]⟩) := B6.cell 0
                  have c1 : w5.cell? ⟨w.heap.size, 1, none⟩ = some (.slice none 0 0) := B6.cell 1
                  have f0 := B6.frozen 0
                  have f1 := B6.frozen 1
                  have K2 := Lib.hid (And.intro B6 (And.intro BB (And.intro hne hu2))); clear B6 BB hu2 hb5 hne hfr
                  go_wp2
                  have iM := isMsg #[.string S, .slice ua (payG l).length uc] rfl
                  refine bodyPost_ret (v := .tuple #[.agg #[.string S, .slice ua (payG l).length uc], .int .i64 24, .int .i64 0]) ?_ rfl ⟨_, rfl, (K2.out.2.1.setCell (Nat.le_refl _) _).setCell (Nat.le_refl _) _, ?_⟩
                  · refine Eq.trans (results_cts rfl _ _ w.heap.size _ _ ?_ (((K2.out.1.set_ 0 _).set_ 1 _).to rfl) Tryd.underlying32 iM) ?_ <;> rfl
                  · unfold GetV
                    rw [G5.out]
                    have hpl := P.out.2.1
                    refine ⟨.slice ua (payG l).length uc, ?_, ⟨ua, uc, rfl, ?_, K2.out.2.2.2.2⟩, fun ad n' c' h => (K2.out.2.2.1 ad (by cases h; rfl)).2⟩
                    · rw [hpl, msgC, HQ.out.2, H.out.2.2.2.1]; rfl
                    · exact rds_far (rds_far K2.out.2.2.2.1 (fun ad h => (K2.out.2.2.1 ad h).1) _) (fun ad h => (K2.out.2.2.1 ad h).1) _
              · have EN : E - 24 = N := by omega
                clear hEN
                have rdp : ∀ w', Below w.heap.size w w' → RdS w' (some ⟨g, off + 24, none⟩) (payG l) := fun w' h => .inr ⟨g, off + 24, rfl, Nat.lt_of_lt_of_le hg h.size, (show Rd w' g off l from fun i hi => H.out.2.2.2.2.2.1.at h hg i hi).drop.take⟩
                have hEn := HE.out
                have hln := H.out.2.2.2.2.2.2.2
                have hNs := HN.out.1
                have plen : (payG l).length = N := (payG_length l (by rw [← hNs]; omega)).trans hNs.symm
                clear hEn hln hNs
                have cD := fun w' (h : Below w.heap.size w w') => Double_any (some ⟨g, off + 24, none⟩) (payG l) (N) (c - 24) plen (by omega) ⟨by omega, by omega⟩ (fun h => by cases h) w' (rdp w' h) (F.out.2.2.1.below h (Nat.le_refl _))
                have cK := fun w' (h : Below w.heap.size w w') => Clone_any (some ⟨g, off + 24, none⟩) (N) (c - 24) (payG l) plen (by omega) (fun h => by cases h) w' (rdp w' h)
                have rd20 : ∀ w', Below w.heap.size w w' → RdS w' (some ⟨g, off + 20, none⟩) ((l.drop 20).take 4) := fun w' h => .inr ⟨g, off + 20, rfl, Nat.lt_of_lt_of_le hg h.size, (show Rd w' g off l from fun i hi => H.out.2.2.2.2.2.1.at h hg i hi).drop.take⟩
                have len4 : ((l.drop 20).take 4).length = 4 := by have := H.out.2.2.2.2.2.2.2; rw [List.length_take, List.length_drop]; omega
                obtain ⟨D, hD⟩ : ∃ D, D = dbl (payG l) := ⟨_, rfl⟩
                have hDl : D.length = 32 := by rw [hD]; exact dbl_length _
                obtain ⟨C, hC⟩ : ∃ C, C = u8cells D := ⟨_, rfl⟩
                have hcd : u8cells (sumOf (sumOf (payG l))) = C := by rw [hC, hD, dbl]
                rw [hcd] at cD
                have sC : C.size = 32 := by rw [hC, u8cells_size]; exact hDl
                have iC : (Tryd.prog.info? 58).map (·.size) = some C.size := by rw [sC]; kernel_rfl
                have zC : (#[.int .u8 0, .int .u8 0, .int .u8 0, .int .u8 0, .int .u8 0, .int .u8 0, .int .u8 0, .int .u8 0, .int .u8 0, .int .u8 0, .int .u8 0, .int .u8 0, .int .u8 0, .int .u8 0, .int .u8 0, .int .u8 0, .int .u8 0, .int .u8 0, .int .u8 0, .int .u8 0, .int .u8 0, .int .u8 0, .int .u8 0, .int .u8 0, .int .u8 0, .int .u8 0, .int .u8 0, .int .u8 0, .int .u8 0, .int .u8 0, .int .u8 0, .int .u8 0] : Array Value).size = C.size := by rw [sC]; rfl
                have aC : C.all (·.oneCell') = true := by rw [hC]; exact u8cells_one _
                have lenD : (D.take 4).length = 4 := by rw [List.length_take]; omega
                obtain ⟨bq, hbq⟩ : ∃ b, decide (D.take 4 = (l.drop 20).take 4) = b := ⟨_, rfl⟩
                have P := Lib.hid (And.intro rdp (And.intro plen (And.intro cD (And.intro cK (And.intro rd20 (And.intro len4 (And.intro hD (And.intro hDl (And.intro hC (And.intro lenD hbq)))))))))); clear rdp plen cD cK rd20 len4 hD hDl hC hcd sC lenD hbq c0 c1 f0 f1
                go_wp2_with fail
                refine (P.out.2.2.1 _ H.out.2.1).mono ?_
                rintro e w2 ⟨rfl, hb2⟩
                have Q6 := H.out.1.calls hb2
                have z6 := Q6.lt
                have QB := bt H.out.2.1 hb2
                have NN : Blk _ w2.heap.size 58 #[.int .u8 0, .int .u8 0, .int .u8 0, .int .u8 0, .int .u8 0, .int .u8 0, .int .u8 0, .int .u8 0, .int .u8 0, .int .u8 0, .int .u8 0, .int .u8 0, .int .u8 0, .int .u8 0, .int .u8 0, .int .u8 0, .int .u8 0, .int .u8 0, .int .u8 0, .int .u8 0, .int .u8 0, .int .u8 0, .int .u8 0, .int .u8 0, .int .u8 0, .int .u8 0, .int .u8 0, .int .u8 0, .int .u8 0, .int .u8 0, .int .u8 0, .int .u8 0] := Blk.new w2 58 #[.int .u8 0, .int .u8 0, .int .u8 0, .int .u8 0, .int .u8 0, .int .u8 0, .int .u8 0, .int .u8 0, .int .u8 0, .int .u8 0, .int .u8 0, .int .u8 0, .int .u8 0, .int .u8 0, .int .u8 0, .int .u8 0, .int .u8 0, .int .u8 0, .int .u8 0, .int .u8 0, .int .u8 0, .int .u8 0, .int .u8 0, .int .u8 0, .int .u8 0, .int .u8 0, .int .u8 0, .int .u8 0, .int .u8 0, .int .u8 0, .int .u8 0, .int .u8 0]
                have R6 := (Q6.alloc (.cells #[.int .u8 0, .int .u8 0, .int .u8 0, .int .u8 0, .int .u8 0, .int .u8 0, .int .u8 0, .int .u8 0, .int .u8 0, .int .u8 0, .int .u8 0, .int .u8 0, .int .u8 0, .int .u8 0, .int .u8 0, .int .u8 0, .int .u8 0, .int .u8 0, .int .u8 0, .int .u8 0, .int .u8 0, .int .u8 0, .int .u8 0, .int .u8 0, .int .u8 0, .int .u8 0, .int .u8 0, .int .u8 0, .int .u8 0, .int .u8 0, .int .u8 0, .int .u8 0] 58)).rowFar (show w.heap.size ≠ w2.heap.size by omega) C
                have RB := setRow_below (ba QB (.cells #[.int .u8 0, .int .u8 0, .int .u8 0, .int .u8 0, .int .u8 0, .int .u8 0, .int .u8 0, .int .u8 0, .int .u8 0, .int .u8 0, .int .u8 0, .int .u8 0, .int .u8 0, .int .u8 0, .int .u8 0, .int .u8 0, .int .u8 0, .int .u8 0, .int .u8 0, .int .u8 0, .int .u8 0, .int .u8 0, .int .u8 0, .int .u8 0, .int .u8 0, .int .u8 0, .int .u8 0, .int .u8 0, .int .u8 0, .int .u8 0, .int .u8 0, .int .u8 0] 58)) (show w.heap.size ≤ w2.heap.size by omega) C
                have RD : RdS _ (some ⟨w2.heap.size, 0, none⟩) (D.take 4) := .inr ⟨w2.heap.size, 0, rfl, (NN.row C).lt, fun i hi => ((NN.row C).cell (0 + i)).trans (by
                  have hi4 : i < 4 := by rw [P.out.2.2.2.2.2.2.2.2.2.1] at hi; exact hi
                  rw [Nat.zero_add, P.out.2.2.2.2.2.2.2.2.1, u8cells_at D i (by have := P.out.2.2.2.2.2.2.2.1; omega)]
                  simp [List.getD, List.getElem?_take_of_lt hi4])⟩
                have NH := Lib.hid (And.intro NN (And.intro R6 (And.intro RB RD))); clear NN R6 RB RD Q6 QB hb2
                go_wp2_with (with_reducible refine ws_row NH.out.1 _ _ _ _ rfl rfl rfl rfl iC zC aC ?_)
                have NK := Lib.hid NH.out.2; clear NH
                generalize World.setRow _ _ _ = w3 at *
                generalize w2.heap.size = g15 at *
                have cQ := fun w' (h1 : RdS w' (some ⟨g15, 0, none⟩) (D.take 4)) (h2 : RdS w' (some ⟨g, off + 20, none⟩) ((l.drop 20).take 4)) => BEqQ_any (some ⟨g15, 0, none⟩) (D.take 4) 4 32 P.out.2.2.2.2.2.2.2.2.2.1 (some ⟨g, off + 20, none⟩) ((l.drop 20).take 4) 4 (c - 20) P.out.2.2.2.2.2.1 w' h1 h2 bq P.out.2.2.2.2.2.2.2.2.2.2
                have CQ := Lib.hid cQ; clear cQ
                have hs20 := fun w => slice_ij g off n c 20 24 (by omega) (by omega) (by omega) w
                have HSL := Lib.hid hs20; clear hs20
                go_wp2_with fail
                refine wp_region_g [some 80, some 81, some 82, some 83, some 84] (FL [EqV (.slice (some ⟨g15, 0, none⟩) 4 32), EqV (.slice (some ⟨g, off, none⟩) n c), EqV (.slice (some ⟨g, off + 20, none⟩) 4 (c - 20)), EqV (.bool bq), EqV (.bool (!bq))]) (FL_keeps ⟨keeps_eq _, keeps_eq _, keeps_eq _, keeps_eq _, keeps_eq _, trivial⟩) (by kernel_rfl) rfl rfl rfl rfl ⟨
                  .inr ⟨gk0 rfl, fun A w' γ hb hF hs => g_eq (op_sl 58 (.tmp 15) none (some (.const (.int .i64 4))) rfl ((hs.2 15 rfl).trans rfl) rfl rfl (sl_hash g15 w'))⟩,
                  .inr ⟨gk0 rfl, fun A w' γ hb hF hs => g_eq (op_move (.tmp 2) (.inl rfl) ((hs.2 2 rfl).trans rfl))⟩,
                  .inr ⟨gk0 rfl, fun A w' γ hb hF hs => g_eq (op_slice_s _ (.tmp 81) (some (.const (.int .i64 20))) (some (.const (.int .i64 24))) rfl ((hs.1 1 rfl 81 rfl).trans (hF 1 rfl)) rfl rfl (by kernel_rfl) (HSL.out w'))⟩,
                  .inr ⟨gk0 rfl, fun A w' γ hb hF hs => g_eq (op_call 28 #[.slice (some ⟨g15, 0, none⟩) 4 32, .slice (some ⟨g, off + 20, none⟩) 4 (c - 20)] (exec_call _ 28 #[.slice (some ⟨g15, 0, none⟩) 4 32, .slice (some ⟨g, off + 20, none⟩) 4 (c - 20)] rfl rfl (margs2 ((hs.1 0 rfl 80 rfl).trans (hF 0 rfl)) ((hs.1 2 rfl 82 rfl).trans (hF 2 rfl))) Tryd.func28 rfl rfl) ((CQ.out w' (NK.out.2.2.calls hb) (P.out.2.2.2.2.1 w' (bt NK.out.2.1 hb))).mono fun e w'' ⟨h1, h2⟩ => ⟨h1, h2 ▸ Below.refl _ _⟩))⟩,
                  .inr ⟨gk0 rfl, fun A w' γ hb hF hs => g_eq (op_not _ (.tmp 83) bq rfl ((hs.1 3 rfl 83 rfl).trans (hF 3 rfl)))⟩,
                  trivial⟩ ?_
                intro γ w4 hb4 hF
                simp only [Fr, if_true, Act.put, List.setIfInBounds_toArray, List.set_cons_zero, List.set_cons_succ]
                rw [show γ 4 = .bool (!bq) from hF 4 (by decide)]
                have B6 := NK.out.1.calls hb4
                have BB := bt NK.out.2.1 hb4
                clear hF hb4
                have c0 : w4.cell? ⟨w.heap.size, 0, none⟩ = some (.string ⟨#[]⟩) := B6.cell 0
                have c1 : w4.cell? ⟨w.heap.size, 1, none⟩ = some (.slice none 0 0) := B6.cell 1
                have f0 := B6.frozen 0
                have f1 := B6.frozen 1
                have K := Lib.hid (And.intro B6 BB); clear B6 BB
                cases hbb : bq with
                | false =>
                  have hg5 : getG magic (capN most) l = .no 4 := by
                    have h1 := P.out.2.2.2.2.2.2.2.2.2.2
                    rw [hbb] at h1
                    have h2 := of_decide_eq_false h1
                    have := HN.out.1
                    have := CB.out.2
                    have := HE.out
                    unfold getG
                    rw [if_neg (not_not_intro H.out.2.2.1), if_neg (by have := H.out.2.2.2.2.2.2.2; omega), if_neg (by rw [← H.out.2.2.2.1, HN.out.2]; simp), if_neg (by omega), if_neg (by have := H.out.2.2.2.2.2.2.2; omega), if_pos (by rw [← P.out.2.2.2.2.2.2.1]; exact h2)]
                  have G5 := Lib.hid hg5; clear hg5 hbb
                  go_wp2
                  refine bodyPost_ret (v := .tuple #[.agg #[.string ⟨#[]⟩, .slice none 0 0], .int .i64 0, .int .i64 4]) ?_ rfl ⟨_, rfl, (K.out.2.setCell (Nat.le_refl _) _).setCell (Nat.le_refl _) _, GetV.no G5.out⟩
                  refine Eq.trans (results_cts rfl _ _ w.heap.size _ _ ?_ (((K.out.1.set_ 0 _).set_ 1 _).to rfl) Tryd.underlying32 i2) ?_ <;> rfl
                | true =>
                  have hg5 : getG magic (capN most) l = .yes (cmdG l) (payG l) := by
                    have h1 := P.out.2.2.2.2.2.2.2.2.2.2
                    rw [hbb] at h1
                    have h2 := of_decide_eq_true h1
                    have := HN.out.1
                    have := CB.out.2
                    have := HE.out
                    unfold getG
                    rw [if_neg (not_not_intro H.out.2.2.1), if_neg (by have := H.out.2.2.2.2.2.2.2; omega), if_neg (by rw [← H.out.2.2.2.1, HN.out.2]; simp), if_neg (by omega), if_neg (by have := H.out.2.2.2.2.2.2.2; omega), if_neg (by rw [← P.out.2.2.2.2.2.2.1]; exact not_not_intro h2)]
                  have G5 := Lib.hid hg5; clear hg5 hbb
                  go_wp2_with fail
                  refine (P.out.2.2.2.1 w4 K.out.2).mono ?_
                  rintro e w5 ⟨u, rfl, hb5, hu, hfr⟩
                  obtain ⟨ua, uc, rfl, hu2⟩ := hu
                  have hne : ∀ ad, ua = some ad → ad.block ≠ w.heap.size ∧ w.heap.size ≤ ad.block := fun ad h => by have := hfr ad _ _ (by rw [h]); have := K.out.1.lt; omega
                  have B6 := K.out.1.calls hb5
                  have BB := bt K.out.2 hb5
                  have c0 : w5.cell? ⟨w.heap.size, 0, none⟩ = some (.string ⟨#[]⟩) := B6.cell 0
                  have c1 : w5.cell? ⟨w.heap.size, 1, none⟩ = some (.slice none 0 0) := B6.cell 1
                  have f0 := B6.frozen 0
                  have f1 := B6.frozen 1
                  have K2 := Lib.hid (And.intro B6 (And.intro BB (And.intro hne hu2))); clear B6 BB hu2 hb5 hne hfr
                  go_wp2
                  have iM := isMsg #[.string S, .slice ua (payG l).length uc] rfl
                  refine bodyPost_ret (v := .tuple #[.agg #[.string S, .slice ua (payG l).length uc], .int .i64 E, .int .i64 0]) ?_ rfl ⟨_, rfl, (K2.out.2.1.setCell (Nat.le_refl _) _).setCell (Nat.le_refl _) _, ?_⟩
                  · refine Eq.trans (results_cts rfl _ _ w.heap.size _ _ ?_ (((K2.out.1.set_ 0 _).set_ 1 _).to rfl) Tryd.underlying32 iM) ?_ <;> rfl
                  · unfold GetV
                    rw [G5.out]
                    have hpl := P.out.2.1
                    refine ⟨.slice ua (payG l).length uc, ?_, ⟨ua, uc, rfl, ?_, K2.out.2.2.2.2⟩, fun ad n' c' h => (K2.out.2.2.1 ad (by cases h; rfl)).2⟩
                    · rw [hpl, HE.out, msgC, HQ.out.2, H.out.2.2.2.1]
                    · exact rds_far (rds_far K2.out.2.2.2.1 (fun ad h => (K2.out.2.2.1 ad h).1) _) (fun ad h => (K2.out.2.2.1 ad h).1) _
end Go.Proofs.YtlegcceaoglpoaaDoor

namespace Go.Proofs.YtlegcceaoglpoaaDoor
open Go.RowKit Go.Shelf
attribute [local go_sem] Oper.semAt_some
set_option linter.unusedVariables false
theorem Messages_any (magic : Nat) (m : Int) (a : Option Addr) (k c : Nat) (w : World) : Calls Tryd.prog 31 #[.int .u32 magic, .int .i64 m, .slice a k c] w fun e w' => e = .returned (.func (.func 38) #[] #[.pointer (some ⟨w.heap.size, 0, none⟩), .pointer (some ⟨w.heap.size + 1, 0, none⟩), .pointer (some ⟨w.heap.size + 2, 0, none⟩)]) ∧
    w' = ((w.alloc (.cells #[.int .u32 magic] 22)).alloc (.cells #[.int .i64 m] 3)).alloc (.cells #[.slice a k c] 23) := by
  have hmf : ∀ (fn : Fn) (first cap : Array Value) (w : World), (Instr.makeFunc fn first cap).run Tryd.prog w = .ok (.func fn first cap) w := fun _ _ _ _ => rfl
  go_enter Tryd.func31, Tryd.ntmps31
  go_wp2
  go_ret
  exact ⟨rfl, rfl⟩
theorem getG_no {magic cap : Nat} {b : List UInt8} {e : Nat} (h : getG magic cap b = .no e) : 1 ≤ e ∧ e ≤ 5 := by
  unfold getG at h
  repeat' split at h
  all_goals first | (cases h; omega) | cases h
def lenC (w : World) (b : Nat) : Nat := match w.cell? ⟨b, 0, none⟩ with | some v => lenS v | none => 0
set_option maxRecDepth 100000 in
set_option maxHeartbeats 1000000 in
theorem Msgs1_in (magic : Nat) (hm : magic < 4294967296) (cap : Nat) (hcap : cap ≤ 4000000) (Bm Bc Bb l n : Nat) (hn : 3 ≤ n) (A : List UInt8 → World → Prop) (B : List UInt8 → Nat → World → Prop) (Fin : World → Prop)
    (hA : ∀ rest W, A rest W → W.cell? ⟨Bm, 0, none⟩ = some (.int .u32 magic) ∧ W.cell? ⟨Bc, 0, none⟩ = some (.int .i64 cap) ∧ Laid W ∧ ∃ a c, W.cell? ⟨Bb, 0, none⟩ = some (.slice a rest.length c) ∧ RdS W a rest ∧ rest.length ≤ c ∧ (rest.length ≤ 140737488355328 ∧ c ≤ 9223372036854775807) ∧ (a = none → rest.length = 0 ∧ c = 0))
    (hAb : ∀ rest W W', A rest W → Below W.heap.size W W' → A rest W')
    (hyes : ∀ rest W0 W c p u, A rest W0 → Below W0.heap.size W0 W → getG magic cap rest = .yes c p → CloV p u W → (∀ ad n c, u = .slice (some ad) n c → W0.heap.size ≤ ad.block) → YieldAt Fence.wide (n - 1) Tryd.prog l #[.agg (msgC c u), .int .i64 0] W fun e W' => e = .returned (.bool true) ∧ B rest (24 + p.length) W')
    (hB : ∀ rest k W, B rest k W → ∃ a c, W.cell? ⟨Bb, 0, none⟩ = some (.slice a rest.length c) ∧ W.frozen? ⟨Bb, 0, none⟩ = false ∧ rest.length ≤ c ∧ c ≤ 9223372036854775807 ∧ A (rest.drop k) (W.setCell ⟨Bb, 0, none⟩ (.slice (if c = k then a else Option.map (fun x => x.add k) a) (rest.length - k) (c - k))))
    (hno : ∀ rest W e, A rest W → getG magic cap rest = .no e → YieldAt Fence.wide (n - 1) Tryd.prog l #[.agg #[.string ⟨#[]⟩, .slice none 0 0], .int .i64 (e : Nat)] W fun e' W' => e' = .returned (.bool true) ∧ Fin W')
    (rest0 : List UInt8) (W : World) (h0 : A rest0 W) :
    CallsIn Fence.wide n Tryd.prog 38 #[.func (.yield l) #[] #[], .pointer (some ⟨Bm, 0, none⟩), .pointer (some ⟨Bc, 0, none⟩), .pointer (some ⟨Bb, 0, none⟩)] W fun e W' => (∃ v, e = .returned v) ∧ Fin W' := by
  refine callsIn_of_wp Tryd.func38 rfl trivial ?_ rfl
  simp only [Tryd.ntmps38, List.size_toArray, List.length_cons, List.length_nil, Nat.reduceAdd, Nat.reduceSub, Array.replicate_succ, Array.replicate_zero, List.push_toArray, List.append_toArray, List.nil_append, List.cons_append]
  gi_wp2
  gi_loopw [5, 6, 7] (fun _ _ _ wr => ∃ rest, A rest wr) (fun _ _ _ wr => lenC wr Bb)
  case atStart => exact ⟨rest0, h0⟩
  case round =>
    obtain ⟨rest, hA1⟩ := hrel
    obtain ⟨c1, c2, hL, a, c, c3, hr, hc, hc2, hno1⟩ := hA rest _ hA1
    have G := Lib.hid (And.intro hA1 (And.intro hL (And.intro hr hno1))); clear hA1 hL hr hno1
    have mB := hm
    have HA := Lib.hid (And.intro hAb (And.intro hB (And.intro hyes (And.intro hno hA)))); clear hA hAb hB hyes hno
    gi_wp2_with fail
    refine ⟨trivial, fun hh => (by cases hh), ?_⟩
    refine (callsIn_wide.2 (Get_any magic mB cap a rest.length c rest rfl hc hc2 G.out.2.2.2 _ G.out.2.2.1 G.out.2.1)).mono ?_
    rintro e w' ⟨v, rfl, hb1, hv⟩
    rw [capN_same cap hcap] at hv
    have hA2 := HA.out.1 rest wr w' G.out.1 hb1
    cases hg : getG magic cap rest with
    | no e =>
      have he := getG_no hg
      have he' : ¬ (e : Int) = 0 := by omega
      simp only [GetV, hg] at hv
      subst hv
      obtain ⟨fn, tmps, assign, body, hy, hR⟩ := HA.out.2.2.2.1 rest _ e (HA.out.1 rest w' _ hA2 (ba (Below.refl _ _) (.cells #[.string ⟨#[]⟩, .slice none 0 0] 32))) hg
      have GG := Lib.hid (And.intro hg (And.intro hA2 hR)); clear hg hA2 hR he
      gi_wp2_with fail
      refine ⟨fun hh => (by cases hh), ?_⟩
      refine GG.out.2.2.mono ?_
      rintro e' W' ⟨rfl, hF⟩
      have HF := Lib.hid hF; clear hF hy
      gi_wp2_with fail
      exact bodyPost_ret (results_none rfl _ _ _) rfl ⟨⟨_, rfl⟩, HF.out⟩
    | yes cm p =>
      simp only [GetV, hg] at hv
      obtain ⟨u, rfl, hu, hfr⟩ := hv
      obtain ⟨fn, tmps, assign, body, hy, hR⟩ := HA.out.2.2.1 rest wr _ cm p u G.out.1 (ba hb1 (.cells (msgC cm u) 32)) hg (hu.keep (ba (Below.refl _ _) _)) hfr
      have hB := HA.out.2.1 rest (24 + p.length)
      obtain ⟨k, hk⟩ : ∃ k, k = 24 + p.length := ⟨_, rfl⟩
      have hk2 := (getG_yes hg).1
      rw [← hk] at hk2 hR hB ⊢
      have k30 : k ≤ 4000024 := by have := (getG_yes hg).2.1; omega
      have hmc : msgC cm u = #[.string (bstr cm), u] := rfl
      rw [hmc] at hy ⊢
      obtain ⟨ua, uc, rfl, hu2⟩ := hu
      have GG := Lib.hid (And.intro hg (And.intro hA2 (And.intro hu2 (And.intro hfr (And.intro hR (And.intro hB hk)))))); clear hg hA2 hu2 hfr hR hB hk hmc
      gi_wp2_with fail
      refine ⟨fun hh => (by cases hh), ?_⟩
      refine GG.out.2.2.2.2.1.mono ?_
      rintro e' W' ⟨rfl, hF⟩
      obtain ⟨a2, c2, hc1, hc2, hc3, hc4, hc5⟩ := GG.out.2.2.2.2.2.1 W' hF
      have HF := Lib.hid (And.intro hF hc5); clear hF hc5 hy
      gi_wp2_with fail
      refine ⟨⟨rest.drop k, HF.out.2⟩, ?_⟩
      have e1 : lenC wr Bb = rest.length := by simp [lenC, c3, lenS]
      have e2 : (W'.setCell ⟨Bb, 0, none⟩ (.slice (if c2 = k then a2 else Option.map (fun x => x.add k) a2) (rest.length - k) (c2 - k))).cell? ⟨Bb, 0, none⟩ = some (.slice (if c2 = k then a2 else Option.map (fun x => x.add k) a2) (rest.length - k) (c2 - k)) := World.cell?_setCell_same' _ _ _ (by rw [hc1]; rfl)
      have e3 : lenC (W'.setCell ⟨Bb, 0, none⟩ (.slice (if c2 = k then a2 else Option.map (fun x => x.add k) a2) (rest.length - k) (c2 - k))) Bb = rest.length - k := by unfold lenC; rw [e2]; simp [lenS]
      rw [e1, e3]
      have := GG.out.2.2.2.2.2.2
      omega
end Go.Proofs.YtlegcceaoglpoaaDoor

namespace Go.Proofs.YtlegcceaoglpoaaDoor
open Go.RowKit
set_option linter.unusedVariables false
def ekG : GR → Nat
  | .no e => e
  | .yes _ _ => 0
theorem beqN (a : Nat) (b : Int) (c : Nat) (h : b = (c : Int)) : ((a : Int) == b) = decide (a = c) := by
  subst h
  rw [Bool.eq_iff_iff, beq_iff_eq, decide_eq_true_iff]
  omega
/-- May a stream be? -/
def saneF (magic : Nat) (m : Int) (l : List UInt8) (bad : Int) : Bool :=
  if m = (capN m : Int) then if bad = 0 then decide (ekG (getG magic (capN m) l) = 1) else decide (l.length = 0) else false
theorem GetV.ek {base magic cap : Nat} {b : List UInt8} {v : Value} {w : World} (h : GetV base magic cap b v w) : ∃ s a n c y, v = .tuple #[.agg #[.string s, .slice a n c], .int .i64 (y : Nat), .int .i64 (ekG (getG magic cap b) : Nat)] := by
  unfold GetV at h
  cases hg : getG magic cap b with
  | no e => rw [hg] at h; exact ⟨_, _, _, _, 0, h⟩
  | yes c p =>
    rw [hg] at h
    obtain ⟨u, rfl, ⟨a, c, rfl, _⟩, _⟩ := h
    exact ⟨_, _, _, _, _, rfl⟩
set_option maxRecDepth 100000 in
set_option maxHeartbeats 1000000 in
theorem FSane_any (magic : Nat) (hm : magic < 4294967296) (m bad : Int) (a : Option Addr) (n c : Nat) (l : List UInt8) (hl : l.length = n) (hc : n ≤ c) (hc2 : n ≤ 140737488355328 ∧ c ≤ 9223372036854775807) (hno : a = none → n = 0 ∧ c = 0) (w : World) (hr : RdS w a l) (hL : Laid w) :
    Calls Tryd.prog 16 #[.agg #[.int .u32 magic, .int .i64 m, .slice a n c, .int .i64 bad]] w fun e w' => e = .returned (.bool (saneF magic m l bad)) ∧ Below w.heap.size w w' := by
  have cB := fun w => Bounded_any m w
  obtain ⟨k, hk⟩ : ∃ k, k = capN m := ⟨_, rfl⟩
  have cG := fun w' (h : Below w.heap.size w w') => Get_any magic hm m a n c l hl hc hc2 hno w' (hr.calls h) (hL.below h (Nat.le_refl _))
  obtain ⟨s, hs⟩ : ∃ s, s = saneF magic m l bad := ⟨_, rfl⟩
  rw [← hs]
  unfold saneF at hs
  rw [← hk] at cB cG hs
  clear hk
  have CB := Lib.hid cB; clear cB
  have F := Lib.hid (And.intro cG (And.intro hs hl)); clear cG hs hl hr hL hno
  have B0 : Below w.heap.size w (w.alloc (.cells #[.int .u32 magic, .int .i64 m, .slice a n c, .int .i64 bad] 38)) := ba (Below.refl _ _) _
  have BB := Lib.hid B0; clear B0
  go_enter Tryd.func16, Tryd.ntmps16
  by_cases h1 : m = (k : Int)
  · subst h1
    by_cases h2 : bad = 0
    · subst h2
      go_wp2_with fail
      go_quiet ((go_at_call 27; with_reducible exact Calls.quiet_of_same (CB.out _)))
      go_wp2_with fail
      refine (F.out.1 _ (bdN BB.out _)).mono ?_
      rintro e w' ⟨v, rfl, hb, hv⟩
      obtain ⟨S, a', n', c', y, rfl⟩ := hv.ek
      obtain ⟨E, hE⟩ : ∃ E, E = ekG (getG magic k l) := ⟨_, rfl⟩
      rw [← hE]
      have HE := Lib.hid (And.intro hE (And.intro hb hv)); clear hE hb hv
      have hbb := bt (bdN BB.out _) HE.out.2.1
      have HB := Lib.hid hbb; clear hbb
      go_wp2_with fail
      refine bodyPost_ret (v := .bool s) ?_ rfl ⟨rfl, ba HB.out _⟩
      have es : s = decide (E = 1) := by have := F.out.2.1; rw [← HE.out.1] at this; simpa using this
      rw [es]
      simp [results, Tryd.results16, go_sem]
      exact beqN _ _ 1 rfl
    · go_wp2_with fail
      go_quiet ((go_at_call 27; with_reducible exact Calls.quiet_of_same (CB.out _)))
      go_wp2_with fail
      refine bodyPost_ret (v := .bool s) ?_ rfl ⟨rfl, bdN BB.out _⟩
      have es : s = decide (n = 0) := by have := F.out.2.1; rw [F.out.2.2] at this; simpa [h2] using this
      rw [es]
      simp [results, Tryd.results16, go_sem]
      exact beqN _ _ 0 rfl
  · go_wp2_with fail
    go_quiet ((go_at_call 27; with_reducible exact Calls.quiet_of_same (CB.out _)))
    go_wp2_with fail
    refine bodyPost_ret (v := .bool s) ?_ rfl ⟨rfl, bdN BB.out _⟩
    have es : s = false := by have := F.out.2.1; simpa [h1] using this
    rw [es]
    simp [results, Tryd.results16, go_sem]
end Go.Proofs.YtlegcceaoglpoaaDoor
