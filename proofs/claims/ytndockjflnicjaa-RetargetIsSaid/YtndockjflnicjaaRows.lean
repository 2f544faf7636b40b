/-
  No cell of these rows narrows 'for every input' (looked for: loops, veiled, ifaces, maps, wideKeys, modest, calm, conditions, laid).
  DERIVED. THE GIVEN ROWS OF THIS SEAT. 5 by the template 'for every input the law returns true; each argument reads behind the call as it read before'; 0 by the template 'total and deterministic' (their statements: YtndockjflnicjaaTotals.lean).
  GIVEN WITH THE SEED: the statements are not yours to turn. If you find one false, say at which input.
  Laid BY PROGRAM, IN A SANDBOX (cutbox-rows.mjs): the forced cells as the released guide's own fill.sh prints them over the translation 2dd5e210b7865157… (all of the seat's roots in one cut). By AI agents, Wed Nov 11 2026. No macro, syntax, notation, axiom, sorry.
-/
import Derived.Test.YtndockjflnicjaaChecked
import GoSem.Claim
import GoSem.ClaimJoined
import GoSem.ClaimMapViews
import Derived.JoinedTies
import Derived.KernelRfl
namespace Go.Proofs.Ytndockjflnicjaa
/- THE CELL 'sum', in the pinned program and in every row, IS THE sha256 OF THE DUMP (.gsa) THAT YtndockjflnicjaaProg.lean LOADS. Nothing in Lean hashes anything: it is a label: what it is worth is what the hold of that sum in a sandbox is worth. -/
noncomputable def Try.pinned : Pinned := { name := "ytndockjflnicjaa", sum := "2dd5e210b78651573a32177837dd17986ea5ecea8e78a57414db736a8bbda440", checked := Try.checked }
namespace Rows
def none {H : Type} : Left H := { results := [], args := [] }

/-- 'florinlaw13.RetargetHolds': WHATEVER THE INPUT: true; the input reads as it did. -/
def retargetHoldsSpec : ChangeSpec := { name := "retargetHolds", fn := fun _ => fun
  | [d1, d2, d3, d4] => { results := [.lit (.bool true)], args := [d1, d2, d3, d4] }
  | _ => none }
def retargetHoldsRow : OpenClaim := { program := "ytndockjflnicjaa", sum := "2dd5e210b78651573a32177837dd17986ea5ecea8e78a57414db736a8bbda440", func := "florin/florinlaw13.RetargetHolds", spec := "retargetHolds", inPlace := ["math/bits.Add64"], named := ["math/bits.divideError", "math/bits.overflowError"], apart := false }
def RetargetHoldsSaid : Prop := retargetHoldsRow.holds Try.pinned (OpenSpec.ofChange retargetHoldsSpec)

/-- ITS FALSE NEIGHBOUR: 'it returns false'. Refute it at one input. -/
def retargetHoldsWrong : ChangeSpec := { name := "retargetHolds", fn := fun _ => fun
  | [d1, d2, d3, d4] => { results := [.lit (.bool false)], args := [d1, d2, d3, d4] }
  | _ => none }
def RetargetHoldsWrongFalsely : Prop := retargetHoldsRow.holds Try.pinned (OpenSpec.ofChange retargetHoldsWrong)

/-- 'florinlaw13.RetargetClamp': WHATEVER THE INPUT: true; the input reads as it did. -/
def retargetClampSpec : ChangeSpec := { name := "retargetClamp", fn := fun _ => fun
  | [d1, d2, d3, d4, d5] => { results := [.lit (.bool true)], args := [d1, d2, d3, d4, d5] }
  | _ => none }
def retargetClampRow : OpenClaim := { program := "ytndockjflnicjaa", sum := "2dd5e210b78651573a32177837dd17986ea5ecea8e78a57414db736a8bbda440", func := "florin/florinlaw13.RetargetClamp", spec := "retargetClamp", inPlace := ["math/bits.Add64"], named := ["math/bits.divideError", "math/bits.overflowError"], apart := false }
def RetargetClampSaid : Prop := retargetClampRow.holds Try.pinned (OpenSpec.ofChange retargetClampSpec)

/-- ITS FALSE NEIGHBOUR: 'it returns false'. Refute it at one input. -/
def retargetClampWrong : ChangeSpec := { name := "retargetClamp", fn := fun _ => fun
  | [d1, d2, d3, d4, d5] => { results := [.lit (.bool false)], args := [d1, d2, d3, d4, d5] }
  | _ => none }
def RetargetClampWrongFalsely : Prop := retargetClampRow.holds Try.pinned (OpenSpec.ofChange retargetClampWrong)

/-- 'florinlaw13.RetargetFold': WHATEVER THE INPUT: true; the input reads as it did. -/
def retargetFoldSpec : ChangeSpec := { name := "retargetFold", fn := fun _ => fun
  | [d1, d2, d3] => { results := [.lit (.bool true)], args := [d1, d2, d3] }
  | _ => none }
def retargetFoldRow : OpenClaim := { program := "ytndockjflnicjaa", sum := "2dd5e210b78651573a32177837dd17986ea5ecea8e78a57414db736a8bbda440", func := "florin/florinlaw13.RetargetFold", spec := "retargetFold", inPlace := ["math/bits.Add64"], named := ["math/bits.divideError", "math/bits.overflowError"], apart := false }
def RetargetFoldSaid : Prop := retargetFoldRow.holds Try.pinned (OpenSpec.ofChange retargetFoldSpec)

/-- ITS FALSE NEIGHBOUR: 'it returns false'. Refute it at one input. -/
def retargetFoldWrong : ChangeSpec := { name := "retargetFold", fn := fun _ => fun
  | [d1, d2, d3] => { results := [.lit (.bool false)], args := [d1, d2, d3] }
  | _ => none }
def RetargetFoldWrongFalsely : Prop := retargetFoldRow.holds Try.pinned (OpenSpec.ofChange retargetFoldWrong)

/-- 'florinlaw13.RetargetIs': WHATEVER THE INPUT: true; the input reads as it did. -/
def retargetIsSpec : ChangeSpec := { name := "retargetIs", fn := fun _ => fun
  | [d1, d2, d3, d4, d5, d6] => { results := [.lit (.bool true)], args := [d1, d2, d3, d4, d5, d6] }
  | _ => none }
def retargetIsRow : OpenClaim := { program := "ytndockjflnicjaa", sum := "2dd5e210b78651573a32177837dd17986ea5ecea8e78a57414db736a8bbda440", func := "florin/florinlaw13.RetargetIs", spec := "retargetIs", inPlace := ["math/bits.Add64"], named := ["math/bits.divideError", "math/bits.overflowError"], apart := false }
def RetargetIsSaid : Prop := retargetIsRow.holds Try.pinned (OpenSpec.ofChange retargetIsSpec)

/-- ITS FALSE NEIGHBOUR: 'it returns false'. Refute it at one input. -/
def retargetIsWrong : ChangeSpec := { name := "retargetIs", fn := fun _ => fun
  | [d1, d2, d3, d4, d5, d6] => { results := [.lit (.bool false)], args := [d1, d2, d3, d4, d5, d6] }
  | _ => none }
def RetargetIsWrongFalsely : Prop := retargetIsRow.holds Try.pinned (OpenSpec.ofChange retargetIsWrong)

/-- 'florinlaw13.RetargetChain': WHATEVER THE INPUT: true; the input reads as it did. -/
def retargetChainSpec : ChangeSpec := { name := "retargetChain", fn := fun _ => fun
  | [d1, d2] => { results := [.lit (.bool true)], args := [d1, d2] }
  | _ => none }
def retargetChainRow : OpenClaim := { program := "ytndockjflnicjaa", sum := "2dd5e210b78651573a32177837dd17986ea5ecea8e78a57414db736a8bbda440", func := "florin/florinlaw13.RetargetChain", spec := "retargetChain", inPlace := ["math/bits.Add64"], named := ["math/bits.divideError", "math/bits.overflowError"], apart := false }
def RetargetChainSaid : Prop := retargetChainRow.holds Try.pinned (OpenSpec.ofChange retargetChainSpec)

/-- ITS FALSE NEIGHBOUR: 'it returns false'. Refute it at one input. -/
def retargetChainWrong : ChangeSpec := { name := "retargetChain", fn := fun _ => fun
  | [d1, d2] => { results := [.lit (.bool false)], args := [d1, d2] }
  | _ => none }
def RetargetChainWrongFalsely : Prop := retargetChainRow.holds Try.pinned (OpenSpec.ofChange retargetChainWrong)

/- THE SECOND FORM. 'bulk': how many values and letters a reading holds, each counted each time it is reached (what is shared counts as often as it is met; a slice's spare places count too). A statement '..UptoSaid' is the law's where the arguments, and the package variables that the reading takes, are together of bulk at most 1048576: NARROWER than '..Said'. Prove '..Said' where nothing that the law and all that it calls make is longer than what came in: it says more and counts as full. Else prove '..UptoSaid'. A law counts once. -/
mutual
def uptoBulk {H : Type} : DataW H → Nat
  | .lit (.string bytes) => bytes.length + 1
  | .lit _ => 1
  | .nil => 1
  | .ptr d => uptoBulk d + 1
  | .slice elems spare => uptoBulkAll elems + uptoBulkAll spare + 1
  | .agg parts => uptoBulkAll parts + 1
  | .iface _ d => uptoBulk d + 1
  | .map entries => uptoBulkEntries entries + 1
  | .held _ => 1
def uptoBulkAll {H : Type} : List (DataW H) → Nat
  | [] => 0
  | d :: r => uptoBulk d + uptoBulkAll r
def uptoBulkEntries {H : Type} : List (Lit × DataW H) → Nat
  | [] => 0
  | x :: r => uptoBulkEntry x + uptoBulkEntries r
def uptoBulkEntry {H : Type} : Lit × DataW H → Nat
  | (.string bytes, d) => bytes.length + uptoBulk d + 1
  | (_, d) => uptoBulk d + 1
 end
def uptoSmall : (H : Type) → List (DataW H) → Bool := fun _ ds => decide (uptoBulkAll ds ≤ 1048576)
def OpenSpec.upto (s : _root_.Go.ChangeSpec) : _root_.Go.OpenSpec := { _root_.Go.OpenSpec.ofChange s with cond := some uptoSmall }

/-- 'florinlaw13.RetargetHolds', WHERE WHAT IT READS IS OF BULK AT MOST 1048576: true; the input reads as it did. -/
def retargetHoldsUptoRow : OpenClaim := { program := "ytndockjflnicjaa", sum := "2dd5e210b78651573a32177837dd17986ea5ecea8e78a57414db736a8bbda440", func := "florin/florinlaw13.RetargetHolds", spec := "retargetHolds", inPlace := ["math/bits.Add64"], named := ["math/bits.divideError", "math/bits.overflowError"], apart := false, narrowed := true }
def RetargetHoldsUptoSaid : Prop := retargetHoldsUptoRow.holds Try.pinned (OpenSpec.upto retargetHoldsSpec)

/-- 'florinlaw13.RetargetClamp', WHERE WHAT IT READS IS OF BULK AT MOST 1048576: true; the input reads as it did. -/
def retargetClampUptoRow : OpenClaim := { program := "ytndockjflnicjaa", sum := "2dd5e210b78651573a32177837dd17986ea5ecea8e78a57414db736a8bbda440", func := "florin/florinlaw13.RetargetClamp", spec := "retargetClamp", inPlace := ["math/bits.Add64"], named := ["math/bits.divideError", "math/bits.overflowError"], apart := false, narrowed := true }
def RetargetClampUptoSaid : Prop := retargetClampUptoRow.holds Try.pinned (OpenSpec.upto retargetClampSpec)

/-- 'florinlaw13.RetargetFold', WHERE WHAT IT READS IS OF BULK AT MOST 1048576: true; the input reads as it did. -/
def retargetFoldUptoRow : OpenClaim := { program := "ytndockjflnicjaa", sum := "2dd5e210b78651573a32177837dd17986ea5ecea8e78a57414db736a8bbda440", func := "florin/florinlaw13.RetargetFold", spec := "retargetFold", inPlace := ["math/bits.Add64"], named := ["math/bits.divideError", "math/bits.overflowError"], apart := false, narrowed := true }
def RetargetFoldUptoSaid : Prop := retargetFoldUptoRow.holds Try.pinned (OpenSpec.upto retargetFoldSpec)

/-- 'florinlaw13.RetargetIs', WHERE WHAT IT READS IS OF BULK AT MOST 1048576: true; the input reads as it did. -/
def retargetIsUptoRow : OpenClaim := { program := "ytndockjflnicjaa", sum := "2dd5e210b78651573a32177837dd17986ea5ecea8e78a57414db736a8bbda440", func := "florin/florinlaw13.RetargetIs", spec := "retargetIs", inPlace := ["math/bits.Add64"], named := ["math/bits.divideError", "math/bits.overflowError"], apart := false, narrowed := true }
def RetargetIsUptoSaid : Prop := retargetIsUptoRow.holds Try.pinned (OpenSpec.upto retargetIsSpec)

/-- 'florinlaw13.RetargetChain', WHERE WHAT IT READS IS OF BULK AT MOST 1048576: true; the input reads as it did. -/
def retargetChainUptoRow : OpenClaim := { program := "ytndockjflnicjaa", sum := "2dd5e210b78651573a32177837dd17986ea5ecea8e78a57414db736a8bbda440", func := "florin/florinlaw13.RetargetChain", spec := "retargetChain", inPlace := ["math/bits.Add64"], named := ["math/bits.divideError", "math/bits.overflowError"], apart := false, narrowed := true }
def RetargetChainUptoSaid : Prop := retargetChainUptoRow.holds Try.pinned (OpenSpec.upto retargetChainSpec)

end Rows
end Go.Proofs.Ytndockjflnicjaa
