/- The document's SHA-2: a word turned. -/
import Derived.Test.YtfebknplkbeblaaDoorShaB
namespace Go.Proofs.YtfebknplkbeblaaDoor
open Go.RowKit
set_option linter.unusedVariables false
set_option maxHeartbeats 400000 in
theorem rturn_any (x : Wd) (n : Nat) (h0 : 0 < n) (h1 : n < 32) (w : World) :
    Calls Tryd.prog 65 #[.int .u32 (wn x), .int .u64 n] w fun e w' => e = .returned (.int .u32 (wn (rr x n))) ∧ w' = w := by
  obtain ⟨m, hm⟩ : ∃ m, m = 32 - n := ⟨_, rfl⟩
  have e1 : IntKind.u64.wrap (32 - (n : Int)) = (m : Int) := by rw [IntKind.wrap_u64]; omega
  have e1' : (32 : Int) - (n : Int) = (m : Int) := by omega
  have hm32 : m < 32 := by omega
  have v1 := shl_wd x m
  have v2 := shr_wd x n
  have v3 := bor_wd (x >>> n) (x <<< m)
  have e5 : x >>> n ||| x <<< m = rr x n := by unfold rr; rw [← hm]
  rw [e5] at v3
  have H := Lib.hid (And.intro hm e5); clear hm e5
  go_enter Tryd.func65, Tryd.ntmps65
  go_wp2
  go_ret
  exact ⟨rfl, rfl⟩
theorem rturn_is (x : Wd) (k : Int) (n : Nat) (hk : k = n) (h0 : 0 < n) (h1 : n < 32) (w : World) :
    Calls Tryd.prog 65 #[.int .u32 (wn x), .int .u64 k] w fun e w' => e = .returned (.int .u32 (wn (rr x n))) ∧ w' = w := by
  subst hk
  exact rturn_any x n h0 h1 w
end Go.Proofs.YtfebknplkbeblaaDoor
