/- What sha2.Sum comes to. -/
import Derived.Test.YtfebknplkbeblaaDoorShaM
namespace Go.Proofs.YtfebknplkbeblaaDoor
open Go.RowKit
set_option linter.unusedVariables false

/-- A text's sum. -/
def sumOf (t : List UInt8) : List UInt8 := wbytes (absH HI (t ++ padOf (t.length % W64)))
theorem sumOf_length (t : List UInt8) : (sumOf t).length = 32 := wbytes_length _ (absH_length _ _ HI_length)
theorem End_at (v : Value) (txt : List UInt8) (w : World) (hv : StAt w v txt) (hL : Laid w) :
    Calls Tryd.prog 23 #[v] w fun e w' => e = .returned (.agg (u8cells (sumOf txt))) ∧ Below w.heap.size w w' := by
  obtain ⟨a, c, rfl, hra, h1, h2⟩ := hv
  have hs : (absR txt).length = txt.length % W64 % 64 := by rw [absR_length]; unfold W64; omega
  have h := End_any (absH HI txt) (absH_length _ _ HI_length) a (absR txt) _ c (txt.length % W64) (Nat.mod_lt _ W64_pos) rfl h1 h2 w hra hL
  simp only [effH, effR, effN, if_pos hs] at h
  rw [← absH_app] at h
  exact h
set_option maxRecDepth 100000 in
set_option maxHeartbeats 400000 in
theorem Sum_any (a' : Option Addr) (t : List UInt8) (m c' : Nat) (hm : t.length = m) (hc : m ≤ c') (hc2 : m ≤ 140737488355328 ∧ c' ≤ 9223372036854775807) (hno : a' = none → m = 0 ∧ c' = 0) (w : World) (hr : RdS w a' t) (hL : Laid w) :
    Calls Tryd.prog 24 #[.slice a' m c'] w fun e w' => e = .returned (.agg (u8cells (sumOf t))) ∧ Below w.heap.size w w' := by
  obtain ⟨C, hC⟩ : ∃ C, C = u8cells (sumOf t) := ⟨_, rfl⟩
  have sC : C.size = 32 := by rw [hC, u8cells_size]; exact sumOf_length t
  have iC : (Tryd.prog.info? 38).map (·.size) = some C.size := by rw [sC]; kernel_rfl
  have aC : C.all (·.oneCell') = true := by rw [hC]; exact u8cells_one _
  obtain ⟨H0, hH0⟩ : ∃ H0, H0 = Array.replicate 32 (Value.int .u8 0) := ⟨_, rfl⟩
  have s1 : H0.size = C.size := by rw [sC, hH0]; simp
  rw [← hC]
  have F := Lib.hid (And.intro hm (And.intro hr (And.intro hL (And.intro hC hH0)))); clear hm hr hL hC hH0 sC
  go_enter Tryd.func24, Tryd.ntmps24
  go_wp2_with fail
  refine (Start_any _ (F.out.2.2.1.below (ba (Below.refl _ _) _) (Nat.le_refl _))).mono ?_
  rintro e w1 ⟨rfl, hb1⟩
  have A0 : Blk w1 w.heap.size 38 H0 := by rw [F.out.2.2.2.2]; exact (Blk.new w _ _).calls hb1
  have AB : Below w.heap.size w w1 := bt (ba (Below.refl _ _) _) hb1
  have A := Lib.hid (And.intro A0 AB); clear A0 AB hb1
  go_wp2_with fail
  refine (Write_at _ [] a' t m c' F.out.1 hc hc2 hno w1 (StAt.start w1) (F.out.2.1.below A.out.2 (Nat.le_refl _)) (F.out.2.2.1.below A.out.2 (Nat.le_refl _))).mono ?_
  rintro e w2 ⟨v2, rfl, hv2, hb2⟩
  rw [List.nil_append] at hv2
  have B := Lib.hid (And.intro (A.out.1.calls hb2) (And.intro (bt A.out.2 hb2) hv2)); clear hb2 hv2 A
  go_wp2_with fail
  refine (End_at v2 t w2 B.out.2.2 (F.out.2.2.1.below B.out.2.1 (Nat.le_refl _))).mono ?_
  rintro e w3 ⟨rfl, hb3⟩
  rw [← F.out.2.2.2.1]
  have D := Lib.hid (And.intro (B.out.1.calls hb3) (bt B.out.2.1 hb3)); clear hb3 B
  go_wp2_with (with_reducible refine ws_row D.out.1 _ _ _ _ rfl rfl rfl rfl iC s1 aC ?_)
  refine bodyPost_ret (v := .agg C) ?_ rfl ⟨rfl, setRow_below D.out.2 (Nat.le_refl _) _⟩
  exact results_cell_row rfl _ _ _ _ _ (0, 0) _ rfl (D.out.1.row _) Tryd.underlying38 rfl iC
end Go.Proofs.YtfebknplkbeblaaDoor
