/- The document's Get. The document's Sane. -/
import Derived.BigQuiet
import Derived.Test.YtlegcceaoglpoaaDoorIsI
import Derived.Test.YtlegcceaoglpoaaDoorIsN
import Derived.Test.YtlegcceaoglpoaaDoorIsP
import Derived.Test.YtlegcceaoglpoaaDoorIsK
import Derived.Test.YtlegcceaoglpoaaDoorIsM
namespace Go.Proofs.YtlegcceaoglpoaaDoor
open Go.RowKit
set_option linter.unusedVariables false
/-- The payload's bytes. -/
theorem slice_pay (g off n c E N : Nat) (l : List UInt8) (w0 : World) (hl : l.length = n) (hE : E = 24 + N) (hn : E ≤ n) (hc : n ≤ c) (hN : N = sizeG l) :
    ∃ pa : Option Addr, (∀ w : World, (Instr.slice 23 (.slice (some ⟨g, off, none⟩) n c) (some (.int .i64 24)) (some (.int .i64 E)) none).run Tryd.prog w = .ok (.slice pa N (c - 24)) w) ∧ (∀ w : World, g < w.heap.size → Rd w g off l → RdS w pa (payG l)) ∧ (pa = none → N = 0 ∧ c - 24 = 0) := by
  have hs : ∀ w : World, (sizeOf (Tryd.prog.elem 23)).run Tryd.prog w = .ok 1 w := fun w => by kernel_rfl
  by_cases hc24 : c = 24
  · obtain rfl : N = 0 := by omega
    refine ⟨some ⟨g, off, none⟩, fun w => ?_, fun w _ _ => .inl (payG_nil l hN.symm), fun h => by cases h⟩
    have := run_slice_lh (P := Tryd.prog) w 23 (some ⟨g, off, none⟩) n c (by kernel_rfl) .i64 .i64 24 E (by omega) (by omega) (by omega)
    rw [hs] at this
    refine this.trans ?_
    simp [sliced, hc24]
    omega
  · refine ⟨some ⟨g, off + 24, none⟩, fun w => ?_, fun w hg hr => .inr ⟨g, off + 24, rfl, hg, (show Rd w g off l from hr).drop.take⟩, fun h => by cases h⟩
    have := slice_ij g off n c 24 E (by omega) (by omega) (by omega) w
    rw [show E - 24 = N by omega] at this
    exact this
theorem isMsgR (c : Array Value) (h : c.size = 2) : (Tryd.prog.info? 25).map (·.size) = some c.size := by rw [h]; kernel_rfl
set_option maxRecDepth 100000 in
set_option maxHeartbeats 4000000 in
theorem RGet_any (magic : Nat) (hm : magic < 4294967296) (most : Int) (a : Option Addr) (n c : Nat) (l : List UInt8) (hl : l.length = n) (hc : n ≤ c) (hc2 : n ≤ 140737488355328 ∧ c ≤ 9223372036854775807) (hno : a = none → n = 0 ∧ c = 0) (w : World) (hr : RdS w a l) :
    Calls Tryd.prog 8 #[.int .u32 magic, .int .i64 most, .slice a n c] w fun e w' => ∃ v, e = .returned v ∧ Below w.heap.size w w' ∧ GetV w.heap.size magic (capN most) l v w' := by
  obtain ⟨k4, hk4⟩ : ∃ k4, k4 = min n 4 := ⟨_, rfl⟩
  have F := Lib.hid (And.intro hl (And.intro hr hk4)); clear hl hr hk4
  have i2 := isMsgR #[.string ⟨#[]⟩, .slice none 0 0] rfl
  have cF := fun w => rfour_any magic hm w
  obtain ⟨LE, hLE⟩ : ∃ A, A = ((le4 magic).map fun c => Value.int .u8 (c.toNat : Int)).toArray := ⟨_, rfl⟩
  rw [← hLE] at cF
  have leAt : ∀ j, j < 4 → LE[j]? = some (.int .u8 ((le4 magic).getD j 0).toNat) := fun j hj => by
    rw [hLE]
    have h4 : j < (le4 magic).length := hj
    simp only [List.getElem?_toArray, List.getElem?_map, List.getElem?_eq_getElem h4, Option.map_some, List.getD, Option.getD_some]
  have CF := Lib.hid (And.intro cF leAt); clear cF leAt hLE
  have n47 := hc2.1
  have c63 := hc2.2
  go_enter Tryd.func8, Tryd.ntmps8
  go_wp2_with fail
  refine (CF.out.1 _).mono ?_
  rintro e w1 ⟨rfl, hw1⟩
  have BM : Blk w1 w.heap.size 25 #[.string ⟨#[]⟩, .slice none 0 0] := by rw [hw1]; exact (Blk.new w _ _).alloc _
  have BL : Blk w1 (w.heap.size + 1) 5 LE := by rw [hw1]; exact Blk.newAt _ _ _ (by rw [World.size_alloc])
  have BB : Below w.heap.size w w1 := by rw [hw1]; exact ba (ba (Below.refl _ _) _) _
  have sz : (w.alloc (.cells #[.string ⟨#[]⟩, .slice none 0 0] 25)).heap.size = w.heap.size + 1 := World.size_alloc _ _
  try rw [sz]
  clear hw1 sz
  have B0 := Lib.hid (And.intro BM (And.intro BL BB)); clear BM BL BB
  go_wp2_with fail
  go_loopw [10] (fun i wr => ∃ k : Nat, k ≤ k4 ∧ i = .int .i64 k ∧ (∀ j, j < k → l.getD j 0 = (le4 magic).getD j 0) ∧ Blk wr w.heap.size 25 #[.string ⟨#[]⟩, .slice none 0 0] ∧ Blk wr (w.heap.size + 1) 5 LE ∧ Below w.heap.size w wr) (fun i _ => 4 - (intOf i).toNat)
  case atStart => exact ⟨0, Nat.zero_le _, rfl, fun j hj => by omega, B0.out⟩
  case round =>
    obtain ⟨k, hk, rfl, hmt, h6, h9, hb⟩ := hrel
    by_cases hlt : k < k4
    · have hk4 := F.out.2.2
      obtain ⟨g, off, rfl, hg, hrd⟩ : ∃ g off, a = some ⟨g, off, none⟩ ∧ g < w.heap.size ∧ Rd w g off l := by
        rcases F.out.2.1 with h | h
        · have := F.out.1; rw [h] at this; simp at this; omega
        · exact h
      obtain ⟨x, hx⟩ : ∃ x, x = (l.getD k 0).toNat := ⟨_, rfl⟩
      have c1 := hrd.at hb hg k (by have := F.out.1; omega)
      rw [← hx] at c1
      obtain ⟨y, hy⟩ : ∃ y, y = ((le4 magic).getD k 0).toNat := ⟨_, rfl⟩
      have c2 := (h9.cell k).trans (CF.out.2 k (by omega))
      rw [← hy] at c2
      have kn : (k : Int) < (n : Int) := by omega
      have kn' : k < n := by omega
      have kk4 : (k : Int) < 4 := by omega
      by_cases hxy : x = y
      · have heq : l.getD k 0 = (le4 magic).getD k 0 := UInt8.toNat_inj.1 (by rw [← hx, ← hy, hxy])
        subst hxy
        have H := Lib.hid (And.intro hmt (And.intro h6 (And.intro h9 (And.intro hb heq)))); clear hmt h6 h9 hb hx hy heq
        go_wp2
        go_quiet (fail)
        go_wp2
        go_roundw
        case rel =>
          obtain ⟨hmt, h6, h9, hb, heq⟩ := H.out
          refine ⟨k + 1, by omega, by go_num, fun j hj => ?_, ?_⟩
          · by_cases e : j = k
            · rw [e]; exact heq
            · exact hmt j (by omega)
          · first | exact ⟨h6, h9, hb⟩ | exact ⟨h6.drewN _, h9.drewN _, bdN hb _⟩ | exact ⟨h6.drew, h9.drew, hb.drew⟩
        case measure => simp [intOf]; omega
      · have hxi : ¬ (x : Int) = (y : Int) := by omega
        have hne : l.getD k 0 ≠ (le4 magic).getD k 0 := fun e => hxy (by rw [hx, hy, e])
        have hg5 : getG magic (capN most) l = .no 5 := by
          unfold getG
          rw [if_pos (magic_not l magic k (by have := F.out.1; omega) hne)]
        have c0 : wr.cell? ⟨w.heap.size, 0, none⟩ = some (.string ⟨#[]⟩) := h6.cell 0
        have c1' : wr.cell? ⟨w.heap.size, 1, none⟩ = some (.slice none 0 0) := h6.cell 1
        have f0 := h6.frozen 0
        have f1 := h6.frozen 1
        have H := Lib.hid (And.intro h6 (And.intro hb hg5)); clear hmt h6 h9 hb hx hy hne hxy hg5
        go_wp2
        go_quiet (fail)
        go_wp2
        refine bodyPost_ret (v := .tuple #[.agg #[.string ⟨#[]⟩, .slice none 0 0], .int .i64 0, .int .i64 5]) ?_ rfl ⟨_, rfl, ((bdN H.out.2.1 _).setCell (Nat.le_refl _) _).setCell (Nat.le_refl _) _, GetV.no H.out.2.2⟩
        refine Eq.trans (results_cts rfl _ _ w.heap.size _ _ ?_ ((((H.out.1.drewN _).set_ 0 _).set_ 1 _).to rfl) Tryd.underlying25 i2) ?_ <;> rfl
    · obtain rfl : k = k4 := by omega
      have hmg : l.take 4 = (le4 magic).take l.length := magic_upto l magic k hmt (by have := F.out.1; have := F.out.2.2; omega)
      have hk4 := F.out.2.2
      clear hmt hlt
      have c0 : wr.cell? ⟨w.heap.size, 0, none⟩ = some (.string ⟨#[]⟩) := h6.cell 0
      have c1 : wr.cell? ⟨w.heap.size, 1, none⟩ = some (.slice none 0 0) := h6.cell 1
      have f0 := h6.frozen 0
      have f1 := h6.frozen 1
      by_cases h24 : n < 24
      · have h24' : (n : Int) < 24 := by omega
        have hg5 : getG magic (capN most) l = .no 1 := by
          unfold getG
          rw [if_neg (not_not_intro hmg), if_pos (by have := F.out.1; omega)]
        have H := Lib.hid (And.intro h6 (And.intro hb (And.intro hg5 h9))); clear h6 hb hg5 hmg h9
        by_cases h4 : k < 4
        · have h4i : (k : Int) < 4 := by omega
          have hkn : ¬ (k : Int) < (n : Int) := by omega
          clear hk hk4
          go_wp2
          refine bodyPost_ret (v := .tuple #[.agg #[.string ⟨#[]⟩, .slice none 0 0], .int .i64 0, .int .i64 1]) ?_ rfl ⟨_, rfl, (H.out.2.1.setCell (Nat.le_refl _) _).setCell (Nat.le_refl _) _, GetV.no H.out.2.2.1⟩
          refine Eq.trans (results_cts rfl _ _ w.heap.size _ _ ?_ (((H.out.1.set_ 0 _).set_ 1 _).to rfl) Tryd.underlying25 i2) ?_ <;> rfl
        · have h4i : ¬ (k : Int) < 4 := by omega
          clear hk hk4
          go_wp2
          refine bodyPost_ret (v := .tuple #[.agg #[.string ⟨#[]⟩, .slice none 0 0], .int .i64 0, .int .i64 1]) ?_ rfl ⟨_, rfl, (H.out.2.1.setCell (Nat.le_refl _) _).setCell (Nat.le_refl _) _, GetV.no H.out.2.2.1⟩
          refine Eq.trans (results_cts rfl _ _ w.heap.size _ _ ?_ (((H.out.1.set_ 0 _).set_ 1 _).to rfl) Tryd.underlying25 i2) ?_ <;> rfl
      · have h24' : ¬ (n : Int) < 24 := by omega
        have k4i : ¬ (k : Int) < 4 := by omega
        obtain ⟨g, off, rfl, hg, hrd⟩ : ∃ g off, a = some ⟨g, off, none⟩ ∧ g < w.heap.size ∧ Rd w g off l := by
          rcases F.out.2.1 with h | h
          · have := F.out.1; rw [h] at this; simp at this; omega
          · exact h
        have hl := F.out.1
        have rd4 : ∀ w', Below w.heap.size w w' → RdS w' (some ⟨g, off + 4, none⟩) ((l.drop 4).take 12) := fun w' h => .inr ⟨g, off + 4, rfl, Nat.lt_of_lt_of_le hg h.size, (show Rd w' g off l from fun i hi => hrd.at h hg i hi).drop.take⟩
        have len12 : ((l.drop 4).take 12).length = 12 := by rw [List.length_take, List.length_drop]; omega
        have cT := fun w' (h : Below w.heap.size w w') => Rcommand_any (some ⟨g, off + 4, none⟩) (c - 4) ((l.drop 4).take 12) len12 (by omega) (by omega) w' (rd4 w' h)
        obtain ⟨cmd, hcmd⟩ : ∃ cmd, cmd = cmdG l := ⟨_, rfl⟩
        have hcR : cmdR ((l.drop 4).take 12) = if cmdOk cmd = true then cmd else [] := by rw [hcmd]; rfl
        have H := Lib.hid (And.intro h6 (And.intro hb (And.intro hmg (And.intro hcmd (And.intro hrd (And.intro hl hg)))))); clear h6 hb hmg hk4 hk hcmd rd4 len12 hl h9 hrd
        cases hok : cmdOk cmd with
        | false =>
          rw [hcR, hok] at cT
          have CT := Lib.hid cT; clear cT hcR
          have hg5 : getG magic (capN most) l = .no 2 := by
            unfold getG
            rw [if_neg (not_not_intro H.out.2.2.1), if_neg (by have := H.out.2.2.2.2.2.1; omega), if_pos (by rw [← H.out.2.2.2.1]; exact hok)]
          have G5 := Lib.hid hg5; clear hg5 hok
          go_wp2_with fail
          refine (CT.out _ H.out.2.1).mono ?_
          rintro e w2 ⟨rfl, hb2⟩
          have h6 := H.out.1.calls hb2
          have hb := bt H.out.2.1 hb2
          have c0 : w2.cell? ⟨w.heap.size, 0, none⟩ = some (.string ⟨#[]⟩) := h6.cell 0
          have c1 : w2.cell? ⟨w.heap.size, 1, none⟩ = some (.slice none 0 0) := h6.cell 1
          have f0 := h6.frozen 0
          have f1 := h6.frozen 1
          have H2 := Lib.hid (And.intro h6 hb); clear h6 hb hb2
          have eb : (if false = true then cmd else []) = ([] : List UInt8) := rfl
          try rw [eb]
          try rw [show bstr [] = ⟨#[]⟩ from rfl]
          go_wp2
          refine bodyPost_ret (v := .tuple #[.agg #[.string ⟨#[]⟩, .slice none 0 0], .int .i64 0, .int .i64 2]) ?_ rfl ⟨_, rfl, (H2.out.2.setCell (Nat.le_refl _) _).setCell (Nat.le_refl _) _, GetV.no G5.out⟩
          refine Eq.trans (results_cts rfl _ _ w.heap.size _ _ ?_ (((H2.out.1.set_ 0 _).set_ 1 _).to rfl) Tryd.underlying25 i2) ?_ <;> rfl
        | true =>
          rw [hcR, hok, if_pos rfl] at cT
          have CT := Lib.hid cT; clear cT hcR
          have hne : cmd ≠ [] := fun e => by rw [e] at hok; cases hok
          have hS1 : (bstr cmd).toList.isEmpty = false := by
            rw [bstr_toList]
            cases cmd with
            | nil => exact absurd rfl hne
            | cons x t => rfl
          obtain ⟨S, hS⟩ : ∃ S, S = bstr cmd := ⟨_, rfl⟩
          obtain ⟨N, hN⟩ : ∃ N, N = sizeG l := ⟨_, rfl⟩
          have hN32 : N < 4294967296 := by rw [hN]; exact sizeG_lt l
          have HN := Lib.hid (And.intro hN (And.intro hok (And.intro hS hS1))); clear hN hok hS hS1 hne
          go_wp2_with fail
          refine (CT.out _ H.out.2.1).mono ?_
          rintro e w2 ⟨rfl, hb2⟩
          rw [← HN.out.2.2.1]
          have hS1 := HN.out.2.2.2
          rw [← HN.out.2.2.1] at hS1
          have h6 := H.out.1.calls hb2
          have hb := bt H.out.2.1 hb2
          clear c0 c1 f0 f1
          have cellL : ∀ i, i < n → w2.cell? ⟨g, off + i, none⟩ = some (.int .u8 (l.getD i 0).toNat) := fun i hi => H.out.2.2.2.2.1.at hb H.out.2.2.2.2.2.2 i (by have := H.out.2.2.2.2.2.1; omega)
          have q0 := cellL 16 (by omega)
          have q1 := cellL 17 (by omega)
          have q2 := cellL 18 (by omega)
          have q3 := cellL 19 (by omega)
          obtain ⟨b0, hb0⟩ : ∃ b, b = (l.getD 16 0).toNat := ⟨_, rfl⟩
          obtain ⟨b1, hb1⟩ : ∃ b, b = (l.getD 17 0).toNat := ⟨_, rfl⟩
          obtain ⟨b2, hb2'⟩ : ∃ b, b = (l.getD 18 0).toNat := ⟨_, rfl⟩
          obtain ⟨b3, hb3⟩ : ∃ b, b = (l.getD 19 0).toNat := ⟨_, rfl⟩
          rw [← hb0] at q0
          rw [← hb1] at q1
          rw [← hb2'] at q2
          rw [← hb3] at q3
          have t0 : b0 < 256 := by rw [hb0]; exact (l.getD 16 0).toNat_lt
          have t1 : b1 < 256 := by rw [hb1]; exact (l.getD 17 0).toNat_lt
          have t2 : b2 < 256 := by rw [hb2']; exact (l.getD 18 0).toNat_lt
          have t3 : b3 < 256 := by rw [hb3]; exact (l.getD 19 0).toNat_lt
          have hsum : b0 + b1 * 256 + b2 * 65536 + b3 * 16777216 = N := by rw [HN.out.1]; unfold sizeG; rw [← hb0, ← hb1, ← hb2', ← hb3]
          have hsumi : (b0 : Int) + (b1 : Int) * 256 + (b2 : Int) * 65536 + (b3 : Int) * 16777216 = (N : Int) := by omega
          have gn : (16 : Int) < (n : Int) ∧ (17 : Int) < (n : Int) ∧ (18 : Int) < (n : Int) ∧ (19 : Int) < (n : Int) := by omega
          obtain ⟨n16, n17, n18, n19⟩ := gn
          have H2 := Lib.hid (And.intro h6 (And.intro hb hsum)); clear h6 hb hb2 cellL hb0 hb1 hb2' hb3 hsum
          go_wp2_with fail
          go_quiet (fail)
          have X3 := H2.out.1.drewN nq
          have B3 := bdN H2.out.2.1 nq
          clear q0 q1 q2 q3
          generalize World.drewN _ _ = w3 at *
          obtain ⟨cN, hcN⟩ : ∃ cN, cN = capN most := ⟨_, rfl⟩
          have cNle : cN ≤ 4000000 := by rw [hcN]; exact capN_le most
          have hmx : max 0 (min most 4000000) = (cN : Int) := by rw [hcN]; unfold capN; omega
          clear hsumi t0 t1 t2 t3 n16 n17 n18 n19 hS1
          obtain ⟨E, hE⟩ : ∃ E, E = 24 + N := ⟨_, rfl⟩
          have hEi : (24 : Int) + (N : Int) = (E : Int) := by omega
          have hcap : capN most < sizeG l ↔ cN < N := by rw [← hcN, ← HN.out.1]
          have hcm : ¬ cmdOk (cmdG l) = false := by rw [← H.out.2.2.2.1, HN.out.2.1]; simp
          have hln := H.out.2.2.2.2.2.1
          have hNs := HN.out.1
          by_cases hbig : cN < N
          · have hbig' : (cN : Int) < (N : Int) := by omega
            have hg5 : getG magic (capN most) l = .no 3 := by
              unfold getG
              rw [if_neg (not_not_intro H.out.2.2.1), if_neg (by omega), if_neg hcm, if_pos (hcap.2 hbig)]
            have c0 : w3.cell? ⟨w.heap.size, 0, none⟩ = some (.string ⟨#[]⟩) := X3.cell 0
            have c1 : w3.cell? ⟨w.heap.size, 1, none⟩ = some (.slice none 0 0) := X3.cell 1
            have f0 := X3.frozen 0
            have f1 := X3.frozen 1
            have G5 := Lib.hid (And.intro hg5 (And.intro X3 B3)); clear hg5 X3 B3 hE hEi hcap hcm hln hNs hcN cNle
            go_wp2
            refine bodyPost_ret (v := .tuple #[.agg #[.string ⟨#[]⟩, .slice none 0 0], .int .i64 0, .int .i64 3]) ?_ rfl ⟨_, rfl, (G5.out.2.2.setCell (Nat.le_refl _) _).setCell (Nat.le_refl _) _, GetV.no G5.out.1⟩
            refine Eq.trans (results_cts rfl _ _ w.heap.size _ _ ?_ (((G5.out.2.1.set_ 0 _).set_ 1 _).to rfl) Tryd.underlying25 i2) ?_ <;> rfl
          have hbig' : ¬ (cN : Int) < (N : Int) := by omega
          have E30 : E ≤ 4000024 := by omega
          by_cases hsh : n < E
          · have hsh' : (n : Int) < (E : Int) := by omega
            have hg5 : getG magic (capN most) l = .no 1 := by
              unfold getG
              rw [if_neg (not_not_intro H.out.2.2.1), if_neg (by omega), if_neg hcm, if_neg (fun h => hbig (hcap.1 h)), if_pos (by omega)]
            have c0 : w3.cell? ⟨w.heap.size, 0, none⟩ = some (.string ⟨#[]⟩) := X3.cell 0
            have c1 : w3.cell? ⟨w.heap.size, 1, none⟩ = some (.slice none 0 0) := X3.cell 1
            have f0 := X3.frozen 0
            have f1 := X3.frozen 1
            have G5 := Lib.hid (And.intro hg5 (And.intro X3 B3)); clear hg5 X3 B3 hE hcap hcm hln hNs hcN cNle hbig
            go_wp2
            refine bodyPost_ret (v := .tuple #[.agg #[.string ⟨#[]⟩, .slice none 0 0], .int .i64 0, .int .i64 1]) ?_ rfl ⟨_, rfl, (G5.out.2.2.setCell (Nat.le_refl _) _).setCell (Nat.le_refl _) _, GetV.no G5.out.1⟩
            refine Eq.trans (results_cts rfl _ _ w.heap.size _ _ ?_ (((G5.out.2.1.set_ 0 _).set_ 1 _).to rfl) Tryd.underlying25 i2) ?_ <;> rfl
          have hsh' : ¬ (n : Int) < (E : Int) := by omega
          have gOpen : getG magic (capN most) l = if (dbl (payG l)).take 4 ≠ (l.drop 20).take 4 then .no 4 else .yes (cmdG l) (payG l) := by
            unfold getG
            rw [if_neg (not_not_intro H.out.2.2.1), if_neg (by omega), if_neg hcm, if_neg (fun h => hbig (hcap.1 h)), if_neg (by omega)]
          have plen : (payG l).length = N := (payG_length l (by omega)).trans hNs.symm
          obtain ⟨pa, hsl, hpr, hpn⟩ := slice_pay g off n c E N l w3 (by omega) (by omega) (by omega) (by omega) hNs
          have own : (w3.alloc (.cells #[] 5)).ownsRow w3.heap.size 5 1 (.slice (some ⟨w3.heap.size, 0, none⟩) 0 0) 0 (([] : List UInt8).map fun c => Value.int .u8 (c.toNat : Int)) := World.ownsRow_made w3 #[] 0 (Nat.le_refl _) (by unfold maxLen; omega) rfl
          have k3 : Below w3.heap.size w3 (w3.alloc (.cells #[] 5)) := ba (Below.refl _ _) _
          have z3 : w3.heap.size ≤ (w3.alloc (.cells #[] 5)).heap.size := k3.size
          have z0 : w.heap.size < w3.heap.size := X3.lt
          obtain ⟨i0, hi, hz0, hz1, hz2⟩ := info_parts (show (Tryd.prog.info? 5).map (fun i => (i.zero, i.size, i.bytes)) = some (some (.int .u8 0), 1, 1) by kernel_rfl)
          have I := Lib.hid (And.intro hi (And.intro hz0 (And.intro hz1 hz2))); clear hi hz0 hz1 hz2
          have hrd3 : Rd w3 g off l := fun i hi => H.out.2.2.2.2.1.at B3 hg i hi
          have rd20 : RdS w3 (some ⟨g, off + 20, none⟩) ((l.drop 20).take 4) := .inr ⟨g, off + 20, rfl, by omega, (show Rd w3 g off l from hrd3).drop.take⟩
          have len4 : ((l.drop 20).take 4).length = 4 := by rw [List.length_take, List.length_drop]; omega
          have hpr3 := hpr w3 (by omega) hrd3
          obtain ⟨PL, hPL⟩ : ∃ p, p = payG l := ⟨_, rfl⟩
          rw [← hPL] at plen hpr3 gOpen
          have O := Lib.hid (And.intro own (And.intro k3 (And.intro (hpr3.calls k3) (And.intro X3 (And.intro B3 (And.intro gOpen (And.intro plen (And.intro rd20 (And.intro len4 (And.intro hE (And.intro hPL hln))))))))))); clear own k3 hpr hrd3 rd20 len4 hpr3 hPL X3 B3 gOpen plen hcap hcm hln hNs hcN cNle hbig hE
          have N4 : N ≤ 4000000 := by omega
          go_wp2_with (at_builtin; refine wl_app O.out.1 rfl _ _ 23 rfl Tryd.underlying23 i0 I.out.1 I.out.2.1 I.out.2.2.1 I.out.2.2.2 rfl pa N (c - 24) PL rfl O.out.2.2.1 O.out.2.2.2.2.2.2.1 hpn (by omega) z3 ?_)
          intro v4 w4 o4 g4 _
          have B4 := below_grown O.out.2.1 g4 z3 (by intro k hk; have := O.out.1.lt k hk; omega)
          have hfr : ∀ k, v4.ownBlock = some k → w3.heap.size ≤ k := fun k hk => (o4.lt k hk).1
          obtain ⟨pa4, c4, rfl, q1, q2, q3, q4, q5⟩ := own_rds o4
          have c4m : c4 ≤ 9223372036854775807 := by unfold maxLen at q4; omega
          have hne : ∀ ad, pa4 = some ad → ad.block ≠ w.heap.size ∧ w.heap.size ≤ ad.block := fun ad h => by have := hfr ad.block (by rw [h]; rfl); omega
          clear hfr
          obtain ⟨D, hD⟩ : ∃ D, D = dbl PL := ⟨_, rfl⟩
          have hDl : D.length = 32 := by rw [hD]; exact dbl_length _
          obtain ⟨C, hC⟩ : ∃ C, C = u8cells D := ⟨_, rfl⟩
          have hcd : u8cells (sumOf (sumOf PL)) = C := by rw [hC, hD, dbl]
          have cD := fun w' (h : RdS w' pa4 PL) => RDouble_any pa4 PL N c4 O.out.2.2.2.2.2.2.1 q3 ⟨by omega, by omega⟩ q5 w' h
          rw [hcd] at cD
          have sC : C.size = 32 := by rw [hC, u8cells_size]; exact hDl
          have iC : (Tryd.prog.info? 58).map (·.size) = some C.size := by rw [sC]; kernel_rfl
          have zC : (#[.int .u8 0, .int .u8 0, .int .u8 0, .int .u8 0, .int .u8 0, .int .u8 0, .int .u8 0, .int .u8 0, .int .u8 0, .int .u8 0, .int .u8 0, .int .u8 0, .int .u8 0, .int .u8 0, .int .u8 0, .int .u8 0, .int .u8 0, .int .u8 0, .int .u8 0, .int .u8 0, .int .u8 0, .int .u8 0, .int .u8 0, .int .u8 0, .int .u8 0, .int .u8 0, .int .u8 0, .int .u8 0, .int .u8 0, .int .u8 0, .int .u8 0, .int .u8 0] : Array Value).size = C.size := by rw [sC]; rfl
          have aC : C.all (·.oneCell') = true := by rw [hC]; exact u8cells_one _
          have lenD : (D.take 4).length = 4 := by rw [List.length_take]; omega
          obtain ⟨bq, hbq⟩ : ∃ b, decide (D.take 4 = (l.drop 20).take 4) = b := ⟨_, rfl⟩
          have gOpen := O.out.2.2.2.2.2.1
          rw [← hD] at gOpen
          have X4 := O.out.2.2.2.1.calls B4
          have BB4 := bt O.out.2.2.2.2.1 B4
          have rd204 := O.out.2.2.2.2.2.2.2.1.calls B4
          have z4 := X4.lt
          have P := Lib.hid (And.intro q2 (And.intro cD (And.intro hDl (And.intro hC (And.intro lenD (And.intro hbq (And.intro gOpen (And.intro X4 (And.intro BB4 (And.intro rd204 (And.intro hne (And.intro q3 (And.intro q4 q5))))))))))))); clear q1 q2 q3 q4 q5 cD hD hDl hC hcd sC lenD hbq gOpen X4 BB4 rd204 hne B4 g4 o4 z3
          go_wp2_with fail
          refine (P.out.2.1 w4 P.out.1).mono ?_
          rintro e w5 ⟨rfl, hb5⟩
          have X5 := P.out.2.2.2.2.2.2.2.1.calls hb5
          have B5 := bt P.out.2.2.2.2.2.2.2.2.1 hb5
          have r5 := P.out.1.calls hb5
          have r25 := P.out.2.2.2.2.2.2.2.2.2.1.calls hb5
          have NN : Blk (w5.alloc (.cells #[.int .u8 0, .int .u8 0, .int .u8 0, .int .u8 0, .int .u8 0, .int .u8 0, .int .u8 0, .int .u8 0, .int .u8 0, .int .u8 0, .int .u8 0, .int .u8 0, .int .u8 0, .int .u8 0, .int .u8 0, .int .u8 0, .int .u8 0, .int .u8 0, .int .u8 0, .int .u8 0, .int .u8 0, .int .u8 0, .int .u8 0, .int .u8 0, .int .u8 0, .int .u8 0, .int .u8 0, .int .u8 0, .int .u8 0, .int .u8 0, .int .u8 0, .int .u8 0] 58)) w5.heap.size 58 #[.int .u8 0, .int .u8 0, .int .u8 0, .int .u8 0, .int .u8 0, .int .u8 0, .int .u8 0, .int .u8 0, .int .u8 0, .int .u8 0, .int .u8 0, .int .u8 0, .int .u8 0, .int .u8 0, .int .u8 0, .int .u8 0, .int .u8 0, .int .u8 0, .int .u8 0, .int .u8 0, .int .u8 0, .int .u8 0, .int .u8 0, .int .u8 0, .int .u8 0, .int .u8 0, .int .u8 0, .int .u8 0, .int .u8 0, .int .u8 0, .int .u8 0, .int .u8 0] := Blk.new _ _ _
          have z5 := X5.lt
          have X6 := (X5.alloc (.cells #[.int .u8 0, .int .u8 0, .int .u8 0, .int .u8 0, .int .u8 0, .int .u8 0, .int .u8 0, .int .u8 0, .int .u8 0, .int .u8 0, .int .u8 0, .int .u8 0, .int .u8 0, .int .u8 0, .int .u8 0, .int .u8 0, .int .u8 0, .int .u8 0, .int .u8 0, .int .u8 0, .int .u8 0, .int .u8 0, .int .u8 0, .int .u8 0, .int .u8 0, .int .u8 0, .int .u8 0, .int .u8 0, .int .u8 0, .int .u8 0, .int .u8 0, .int .u8 0] 58)).rowFar (show w.heap.size ≠ w5.heap.size by omega) C
          have B6 := setRow_below (ba B5 (.cells #[.int .u8 0, .int .u8 0, .int .u8 0, .int .u8 0, .int .u8 0, .int .u8 0, .int .u8 0, .int .u8 0, .int .u8 0, .int .u8 0, .int .u8 0, .int .u8 0, .int .u8 0, .int .u8 0, .int .u8 0, .int .u8 0, .int .u8 0, .int .u8 0, .int .u8 0, .int .u8 0, .int .u8 0, .int .u8 0, .int .u8 0, .int .u8 0, .int .u8 0, .int .u8 0, .int .u8 0, .int .u8 0, .int .u8 0, .int .u8 0, .int .u8 0, .int .u8 0] 58)) (show w.heap.size ≤ w5.heap.size by omega) C
          have hb6 : Below w5.heap.size w5 (World.setRow (w5.alloc (.cells #[.int .u8 0, .int .u8 0, .int .u8 0, .int .u8 0, .int .u8 0, .int .u8 0, .int .u8 0, .int .u8 0, .int .u8 0, .int .u8 0, .int .u8 0, .int .u8 0, .int .u8 0, .int .u8 0, .int .u8 0, .int .u8 0, .int .u8 0, .int .u8 0, .int .u8 0, .int .u8 0, .int .u8 0, .int .u8 0, .int .u8 0, .int .u8 0, .int .u8 0, .int .u8 0, .int .u8 0, .int .u8 0, .int .u8 0, .int .u8 0, .int .u8 0, .int .u8 0] 58)) w5.heap.size C) := setRow_below (ba (Below.refl _ _) _) (Nat.le_refl _) C
          have RD : RdS (World.setRow (w5.alloc (.cells #[.int .u8 0, .int .u8 0, .int .u8 0, .int .u8 0, .int .u8 0, .int .u8 0, .int .u8 0, .int .u8 0, .int .u8 0, .int .u8 0, .int .u8 0, .int .u8 0, .int .u8 0, .int .u8 0, .int .u8 0, .int .u8 0, .int .u8 0, .int .u8 0, .int .u8 0, .int .u8 0, .int .u8 0, .int .u8 0, .int .u8 0, .int .u8 0, .int .u8 0, .int .u8 0, .int .u8 0, .int .u8 0, .int .u8 0, .int .u8 0, .int .u8 0, .int .u8 0] 58)) w5.heap.size C) (some ⟨w5.heap.size, 0, none⟩) (D.take 4) := u8_rd ((NN.row C).to P.out.2.2.2.1) (by have := P.out.2.2.1; omega)
          have NH := Lib.hid (And.intro NN (And.intro X6 (And.intro B6 (And.intro RD (And.intro (r5.calls hb6) (r25.calls hb6)))))); clear NN X6 B6 RD r5 r25 hb6 X5 B5 hb5
          go_wp2_with (with_reducible refine ws_row NH.out.1 _ _ _ _ rfl rfl rfl rfl iC zC aC ?_)
          have NK := Lib.hid NH.out.2; clear NH
          generalize World.setRow _ _ _ = w6 at *
          generalize w5.heap.size = g14 at *
          have hs20 : ∀ w : World, (Instr.slice 23 (.slice (some ⟨g, off, none⟩) n c) (some (.int .i64 20)) (some (.int .i64 24)) none).run Tryd.prog w = .ok (.slice (some ⟨g, off + 20, none⟩) 4 (c - 20)) w := fun w => slice_ij g off n c 20 24 (by omega) (by omega) (by omega) w
          have hst1 : ∀ w', Below w6.heap.size w6 w' → (convert 23 9 (.slice (some ⟨g14, 0, none⟩) 4 32)).run Tryd.prog w' = .ok (.string (bstr (D.take 4))) w' := fun w' h => str_of (NK.out.2.2.1.calls h) P.out.2.2.2.2.1
          have hst2 : ∀ w', Below w6.heap.size w6 w' → (convert 23 9 (.slice (some ⟨g, off + 20, none⟩) 4 (c - 20))).run Tryd.prog w' = .ok (.string (bstr ((l.drop 20).take 4))) w' := fun w' h => str_of (NK.out.2.2.2.2.calls h) O.out.2.2.2.2.2.2.2.2.1
          have hbb := bstr_beq (D.take 4) ((l.drop 20).take 4)
          rw [P.out.2.2.2.2.2.1] at hbb
          obtain ⟨S1, hS1⟩ : ∃ S, S = bstr (D.take 4) := ⟨_, rfl⟩
          obtain ⟨S2, hS2⟩ : ∃ S, S = bstr ((l.drop 20).take 4) := ⟨_, rfl⟩
          rw [← hS1] at hst1 hbb
          rw [← hS2] at hst2 hbb
          have hb2 : (!(S1.toList == S2.toList)) = !bq := by rw [hbb]
          have HS := Lib.hid (And.intro hs20 (And.intro hst1 hst2)); clear hs20 hst1 hst2 hS1 hS2 hbb
          go_wp2_with fail
          refine wp_region_g [some 89, some 90, some 91, some 92, some 93, some 94] (FL [
              EqV (.slice (some ⟨g14, 0, none⟩) 4 32),
              EqV (.string S1),
              EqV (.slice (some ⟨g, off, none⟩) n c),
              EqV (.slice (some ⟨g, off + 20, none⟩) 4 (c - 20)),
              EqV (.string S2),
              EqV (.bool (!bq))
            ]) (FL_keeps ⟨keeps_eq _, keeps_eq _, keeps_eq _, keeps_eq _, keeps_eq _, keeps_eq _, trivial⟩) (by kernel_rfl) rfl rfl rfl rfl ⟨
            .inr ⟨gk0 rfl, fun A w' γ hb hF hs => g_eq (op_sl 58 (.tmp 14) none (some (.const (.int .i64 4))) rfl ((hs.2 14 rfl).trans rfl) rfl rfl (sl_hash g14 w'))⟩,
            .inr ⟨gk0 rfl, fun A w' γ hb hF hs => g_eq (op_conv 23 9 (.tmp 89) rfl ((hs.1 0 rfl 89 rfl).trans (hF 0 rfl)) (HS.out.2.1 w' hb))⟩,
            .inr ⟨gk0 rfl, fun A w' γ hb hF hs => g_eq (op_move (.tmp 2) (.inl rfl) ((hs.2 2 rfl).trans rfl))⟩,
            .inr ⟨gk0 rfl, fun A w' γ hb hF hs => g_eq (op_slice_s _ (.tmp 91) (some (.const (.int .i64 20))) (some (.const (.int .i64 24))) rfl ((hs.1 2 rfl 91 rfl).trans (hF 2 rfl)) rfl rfl (by kernel_rfl) (HS.out.1 w'))⟩,
            .inr ⟨gk0 rfl, fun A w' γ hb hF hs => g_eq (op_conv 23 9 (.tmp 92) rfl ((hs.1 3 rfl 92 rfl).trans (hF 3 rfl)) (HS.out.2.2 w' hb))⟩,
            .inr ⟨gk0 rfl, fun A w' γ hb hF hs => g_eq (op_nes 9 _ (.tmp 90) (.tmp 93) (S1) (S2) (!bq) rfl ((hs.1 1 rfl 90 rfl).trans (hF 1 rfl)) ((hs.1 4 rfl 93 rfl).trans (hF 4 rfl)) (hb2))⟩,
            trivial⟩ ?_
          intro γ wx hb hF
          have ez : γ 5 = .bool (!bq) := hF 5 (by decide)
          simp only [Fr, if_true, Act.put, List.setIfInBounds_toArray, List.set_cons_zero, List.set_cons_succ]
          rw [ez]
          clear ez hF
          have B6 := NK.out.1.calls hb
          have BB := bt NK.out.2.1 hb
          have c0 : wx.cell? ⟨w.heap.size, 0, none⟩ = some (.string ⟨#[]⟩) := B6.cell 0
          have c1 : wx.cell? ⟨w.heap.size, 1, none⟩ = some (.slice none 0 0) := B6.cell 1
          have f0 := B6.frozen 0
          have f1 := B6.frozen 1
          have K := Lib.hid (And.intro B6 (And.intro BB (NK.out.2.2.2.1.calls hb))); clear B6 BB hb
          cases hbb : bq with
          | false =>
            have hg5 : getG magic (capN most) l = .no 4 := by
              have h1 := P.out.2.2.2.2.2.1
              rw [hbb] at h1
              have h2 := of_decide_eq_false h1
              rw [P.out.2.2.2.2.2.2.1, if_pos h2]
            have G5 := Lib.hid hg5; clear hg5 hbb hb2
            go_wp2
            refine bodyPost_ret (v := .tuple #[.agg #[.string ⟨#[]⟩, .slice none 0 0], .int .i64 0, .int .i64 4]) ?_ rfl ⟨_, rfl, (K.out.2.1.setCell (Nat.le_refl _) _).setCell (Nat.le_refl _) _, GetV.no G5.out⟩
            refine Eq.trans (results_cts rfl _ _ w.heap.size _ _ ?_ (((K.out.1.set_ 0 _).set_ 1 _).to rfl) Tryd.underlying25 i2) ?_ <;> rfl
          | true =>
            have hg5 : getG magic (capN most) l = .yes (cmdG l) (payG l) := by
              have h1 := P.out.2.2.2.2.2.1
              rw [hbb] at h1
              have h2 := of_decide_eq_true h1
              rw [P.out.2.2.2.2.2.2.1, if_neg (not_not_intro h2), O.out.2.2.2.2.2.2.2.2.2.2.1]
            have G5 := Lib.hid hg5; clear hg5 hbb hb2
            go_wp2
            have iM := isMsgR #[.string S, .slice pa4 N c4] rfl
            refine bodyPost_ret (v := .tuple #[.agg #[.string S, .slice pa4 N c4], .int .i64 (E : Nat), .int .i64 0]) ?_ rfl ⟨_, rfl, (K.out.2.1.setCell (Nat.le_refl _) _).setCell (Nat.le_refl _) _, ?_⟩
            · refine Eq.trans (results_cts rfl _ _ w.heap.size _ _ ?_ (((K.out.1.set_ 0 _).set_ 1 _).to rfl) Tryd.underlying25 iM) ?_ <;> rfl
            · unfold GetV
              rw [G5.out]
              have hpl := O.out.2.2.2.2.2.2.1
              rw [O.out.2.2.2.2.2.2.2.2.2.2.1] at hpl
              refine ⟨.slice pa4 N c4, ?_, ⟨pa4, c4, by rw [hpl], ?_, by rw [hpl]; exact P.out.2.2.2.2.2.2.2.2.2.2.2.1, P.out.2.2.2.2.2.2.2.2.2.2.2.2.1, by rw [hpl]; exact P.out.2.2.2.2.2.2.2.2.2.2.2.2.2⟩, fun ad n' c' h => (P.out.2.2.2.2.2.2.2.2.2.2.1 ad (by cases h; rfl)).2⟩
              · rw [hpl, O.out.2.2.2.2.2.2.2.2.2.1, msgC, HN.out.2.2.1, H.out.2.2.2.1]
              · rw [← O.out.2.2.2.2.2.2.2.2.2.2.1]
                exact rds_far (rds_far K.out.2.2 (fun ad h => (P.out.2.2.2.2.2.2.2.2.2.2.1 ad h).1) _) (fun ad h => (P.out.2.2.2.2.2.2.2.2.2.2.1 ad h).1) _
end Go.Proofs.YtlegcceaoglpoaaDoor

namespace Go.Proofs.YtlegcceaoglpoaaDoor
open Go.RowKit
set_option linter.unusedVariables false
theorem capN_in (m : Int) : m = (capN m : Int) ↔ (0 ≤ m ∧ m ≤ 4000000) := by unfold capN; omega
set_option maxRecDepth 100000 in
set_option maxHeartbeats 1000000 in
theorem RFSane_any (magic : Nat) (hm : magic < 4294967296) (m bad : Int) (a : Option Addr) (n c : Nat) (l : List UInt8) (hl : l.length = n) (hc : n ≤ c) (hc2 : n ≤ 1000000 ∧ c ≤ 9223372036854775807) (hno : a = none → n = 0 ∧ c = 0) (w : World) (hr : RdS w a l) :
    Calls Tryd.prog 17 #[.agg #[.int .u32 magic, .int .i64 m, .slice a n c, .int .i64 bad]] w fun e w' => e = .returned (.bool (saneF magic m l bad)) ∧ Below w.heap.size w w' := by
  have cG := fun w' (h : Below w.heap.size w w') => RGet_any magic hm m a n c l hl hc ⟨by omega, hc2.2⟩ hno w' (hr.calls h)
  obtain ⟨k, hk⟩ : ∃ k, k = capN m := ⟨_, rfl⟩
  obtain ⟨s, hs⟩ : ∃ s, s = saneF magic m l bad := ⟨_, rfl⟩
  rw [← hs]
  unfold saneF at hs
  rw [← hk] at cG hs
  have hin := capN_in m
  rw [← hk] at hin
  clear hk
  have F := Lib.hid (And.intro cG (And.intro hs hl)); clear cG hs hl hr hno
  have X0 : Blk (w.alloc (.cells #[.int .u32 magic, .int .i64 m, .slice a n c, .int .i64 bad] 28)) w.heap.size 28 #[.int .u32 magic, .int .i64 m, .slice a n c, .int .i64 bad] := Blk.new _ _ _
  have B0 : Below w.heap.size w (w.alloc (.cells #[.int .u32 magic, .int .i64 m, .slice a n c, .int .i64 bad] 28)) := ba (Below.refl _ _) _
  have c0 : (w.alloc (.cells #[.int .u32 magic, .int .i64 m, .slice a n c, .int .i64 bad] 28)).cell? ⟨w.heap.size, 0, none⟩ = some (.int .u32 magic) := X0.cell 0
  have c1 : (w.alloc (.cells #[.int .u32 magic, .int .i64 m, .slice a n c, .int .i64 bad] 28)).cell? ⟨w.heap.size, 1, none⟩ = some (.int .i64 m) := X0.cell 1
  have c2 : (w.alloc (.cells #[.int .u32 magic, .int .i64 m, .slice a n c, .int .i64 bad] 28)).cell? ⟨w.heap.size, 2, none⟩ = some (.slice a n c) := X0.cell 2
  have c3 : (w.alloc (.cells #[.int .u32 magic, .int .i64 m, .slice a n c, .int .i64 bad] 28)).cell? ⟨w.heap.size, 3, none⟩ = some (.int .i64 bad) := X0.cell 3
  have BB := Lib.hid B0; clear B0 X0
  go_enter Tryd.func17, Tryd.ntmps17
  by_cases h1 : m = (k : Int)
  · have hr1 := hin.1 h1
    have l0 : ¬ m < 0 := by omega
    have l1 : ¬ (4000000 : Int) < m := by omega
    clear hin hr1
    by_cases h2 : bad = 0
    · subst h2
      have H1 := Lib.hid h1; clear h1
      go_wp2_with fail
      refine (F.out.1 _ BB.out).mono ?_
      rintro e w' ⟨v, rfl, hb, hv⟩
      obtain ⟨S, a', n', c', y, rfl⟩ := hv.ek
      obtain ⟨E, hE⟩ : ∃ E, E = ekG (getG magic k l) := ⟨_, rfl⟩
      rw [← hE]
      have HE := Lib.hid (And.intro hE (And.intro hb hv)); clear hE hb hv
      have hbb := bt BB.out HE.out.2.1
      have HB := Lib.hid hbb; clear hbb
      go_wp2_with fail
      refine bodyPost_ret (v := .bool s) ?_ rfl ⟨rfl, ba HB.out _⟩
      have es : s = decide (E = 1) := by have := F.out.2.1; rw [← HE.out.1, if_pos H1.out] at this; simpa using this
      rw [es]
      simp [results, Tryd.results17, go_sem]
      exact beqN _ _ 1 rfl
    · have H1 := Lib.hid h1; clear h1
      go_wp2_with fail
      refine bodyPost_ret (v := .bool s) ?_ rfl ⟨rfl, BB.out⟩
      have es : s = decide (n = 0) := by have := F.out.2.1; rw [F.out.2.2, if_pos H1.out] at this; simpa [h2] using this
      rw [es]
      simp [results, Tryd.results17, go_sem]
      exact beqN _ _ 0 rfl
  · have es : s = false := by have := F.out.2.1; simpa [h1] using this
    have hout : ¬ (0 ≤ m ∧ m ≤ 4000000) := fun h => h1 (hin.2 h)
    have ES := Lib.hid es; clear es h1
    by_cases l0 : m < 0
    · clear hin hout
      go_wp2_with fail
      refine bodyPost_ret (v := .bool s) ?_ rfl ⟨rfl, BB.out⟩
      rw [ES.out]
      simp [results, Tryd.results17, go_sem]
    · have l1 : (4000000 : Int) < m := by omega
      clear hin hout
      go_wp2_with fail
      refine bodyPost_ret (v := .bool s) ?_ rfl ⟨rfl, BB.out⟩
      rw [ES.out]
      simp [results, Tryd.results17, go_sem]
end Go.Proofs.YtlegcceaoglpoaaDoor
