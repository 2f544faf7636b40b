/-
  No cell of these rows narrows 'for every input' (looked for: loops, veiled, ifaces, maps, wideKeys, modest, calm, conditions, laid).
  DERIVED. THE GIVEN ROWS OF THIS SEAT. 7 by the template 'for every input the law returns true; each argument reads behind the call as it read before'; 0 by the template 'total and deterministic' (their statements: YtlnognioflfknaaTotals.lean).
  GIVEN WITH THE SEED: the statements are not yours to turn. If you find one false, say at which input.
  Laid BY PROGRAM, IN A SANDBOX (cutbox-rows.mjs): the forced cells as the released guide's own fill.sh prints them over the translation c7f11a60829cb516… (all of the seat's roots in one cut). By AI agents, Wed Nov 11 2026. No macro, syntax, notation, axiom, sorry.
-/
import Derived.Test.YtlnognioflfknaaChecked
import GoSem.Claim
import GoSem.ClaimJoined
import GoSem.ClaimMapViews
import Derived.JoinedTies
import Derived.KernelRfl
namespace Go.Proofs.Ytlnognioflfknaa
/- THE CELL 'sum', in the pinned program and in every row, IS THE sha256 OF THE DUMP (.gsa) THAT YtlnognioflfknaaProg.lean LOADS. Nothing in Lean hashes anything: it is a label: what it is worth is what the hold of that sum in a sandbox is worth. -/
noncomputable def Try.pinned : Pinned := { name := "ytlnognioflfknaa", sum := "c7f11a60829cb516c0df59e789cfbb6802d05182c179f6d4e87b171cb8585f5f", checked := Try.checked }
namespace Rows
def none {H : Type} : Left H := { results := [], args := [] }

/-- 'florinlaw01.U256Order': WHATEVER THE INPUT: true; the input reads as it did. -/
def u256OrderSpec : ChangeSpec := { name := "u256Order", fn := fun _ => fun
  | [d1, d2, d3] => { results := [.lit (.bool true)], args := [d1, d2, d3] }
  | _ => none }
def u256OrderRow : OpenClaim := { program := "ytlnognioflfknaa", sum := "c7f11a60829cb516c0df59e789cfbb6802d05182c179f6d4e87b171cb8585f5f", func := "florin/florinlaw01.U256Order", spec := "u256Order", inPlace := ["math/bits.Add64", "math/bits.Sub64"], apart := false }
def U256OrderSaid : Prop := u256OrderRow.holds Try.pinned (OpenSpec.ofChange u256OrderSpec)

/-- ITS FALSE NEIGHBOUR: 'it returns false'. Refute it at one input. -/
def u256OrderWrong : ChangeSpec := { name := "u256Order", fn := fun _ => fun
  | [d1, d2, d3] => { results := [.lit (.bool false)], args := [d1, d2, d3] }
  | _ => none }
def U256OrderWrongFalsely : Prop := u256OrderRow.holds Try.pinned (OpenSpec.ofChange u256OrderWrong)

/-- 'florinlaw01.U256Is': WHATEVER THE INPUT: true; the input reads as it did. -/
def u256IsSpec : ChangeSpec := { name := "u256Is", fn := fun _ => fun
  | [d1, d2, d3] => { results := [.lit (.bool true)], args := [d1, d2, d3] }
  | _ => none }
def u256IsRow : OpenClaim := { program := "ytlnognioflfknaa", sum := "c7f11a60829cb516c0df59e789cfbb6802d05182c179f6d4e87b171cb8585f5f", func := "florin/florinlaw01.U256Is", spec := "u256Is", inPlace := ["math/bits.Add64", "math/bits.Sub64"], apart := false }
def U256IsSaid : Prop := u256IsRow.holds Try.pinned (OpenSpec.ofChange u256IsSpec)

/-- ITS FALSE NEIGHBOUR: 'it returns false'. Refute it at one input. -/
def u256IsWrong : ChangeSpec := { name := "u256Is", fn := fun _ => fun
  | [d1, d2, d3] => { results := [.lit (.bool false)], args := [d1, d2, d3] }
  | _ => none }
def U256IsWrongFalsely : Prop := u256IsRow.holds Try.pinned (OpenSpec.ofChange u256IsWrong)

/-- 'florinlaw01.U256Texts': WHATEVER THE INPUT: true; the input reads as it did. -/
def u256TextsSpec : ChangeSpec := { name := "u256Texts", fn := fun _ => fun
  | [d1, d2, d3] => { results := [.lit (.bool true)], args := [d1, d2, d3] }
  | _ => none }
def u256TextsRow : OpenClaim := { program := "ytlnognioflfknaa", sum := "c7f11a60829cb516c0df59e789cfbb6802d05182c179f6d4e87b171cb8585f5f", func := "florin/florinlaw01.U256Texts", spec := "u256Texts", inPlace := ["math/bits.Add64"], apart := false }
def U256TextsSaid : Prop := u256TextsRow.holds Try.pinned (OpenSpec.ofChange u256TextsSpec)

/-- ITS FALSE NEIGHBOUR: 'it returns false'. Refute it at one input. -/
def u256TextsWrong : ChangeSpec := { name := "u256Texts", fn := fun _ => fun
  | [d1, d2, d3] => { results := [.lit (.bool false)], args := [d1, d2, d3] }
  | _ => none }
def U256TextsWrongFalsely : Prop := u256TextsRow.holds Try.pinned (OpenSpec.ofChange u256TextsWrong)

/-- 'florinlaw01.U256Back': WHATEVER THE INPUT: true; the input reads as it did. -/
def u256BackSpec : ChangeSpec := { name := "u256Back", fn := fun _ => fun
  | [d] => { results := [.lit (.bool true)], args := [d] }
  | _ => none }
def u256BackRow : OpenClaim := { program := "ytlnognioflfknaa", sum := "c7f11a60829cb516c0df59e789cfbb6802d05182c179f6d4e87b171cb8585f5f", func := "florin/florinlaw01.U256Back", spec := "u256Back", inPlace := ["math/bits.Add64"], apart := false }
def U256BackSaid : Prop := u256BackRow.holds Try.pinned (OpenSpec.ofChange u256BackSpec)

/-- ITS FALSE NEIGHBOUR: 'it returns false'. Refute it at one input. -/
def u256BackWrong : ChangeSpec := { name := "u256Back", fn := fun _ => fun
  | [d] => { results := [.lit (.bool false)], args := [d] }
  | _ => none }
def U256BackWrongFalsely : Prop := u256BackRow.holds Try.pinned (OpenSpec.ofChange u256BackWrong)

/-- 'florinlaw01.U256Divides': WHATEVER THE INPUT: true; the input reads as it did. -/
def u256DividesSpec : ChangeSpec := { name := "u256Divides", fn := fun _ => fun
  | [d1, d2, d3] => { results := [.lit (.bool true)], args := [d1, d2, d3] }
  | _ => none }
def u256DividesRow : OpenClaim := { program := "ytlnognioflfknaa", sum := "c7f11a60829cb516c0df59e789cfbb6802d05182c179f6d4e87b171cb8585f5f", func := "florin/florinlaw01.U256Divides", spec := "u256Divides", inPlace := ["math/bits.Add64", "math/bits.Sub64"], apart := false }
def U256DividesSaid : Prop := u256DividesRow.holds Try.pinned (OpenSpec.ofChange u256DividesSpec)

/-- ITS FALSE NEIGHBOUR: 'it returns false'. Refute it at one input. -/
def u256DividesWrong : ChangeSpec := { name := "u256Divides", fn := fun _ => fun
  | [d1, d2, d3] => { results := [.lit (.bool false)], args := [d1, d2, d3] }
  | _ => none }
def U256DividesWrongFalsely : Prop := u256DividesRow.holds Try.pinned (OpenSpec.ofChange u256DividesWrong)

/-- 'florinlaw01.U256Parts': WHATEVER THE INPUT: true; the input reads as it did. -/
def u256PartsSpec : ChangeSpec := { name := "u256Parts", fn := fun _ => fun
  | [d1, d2, d3] => { results := [.lit (.bool true)], args := [d1, d2, d3] }
  | _ => none }
def u256PartsRow : OpenClaim := { program := "ytlnognioflfknaa", sum := "c7f11a60829cb516c0df59e789cfbb6802d05182c179f6d4e87b171cb8585f5f", func := "florin/florinlaw01.U256Parts", spec := "u256Parts", inPlace := ["math/bits.Add64", "math/bits.Sub64"], apart := false }
def U256PartsSaid : Prop := u256PartsRow.holds Try.pinned (OpenSpec.ofChange u256PartsSpec)

/-- ITS FALSE NEIGHBOUR: 'it returns false'. Refute it at one input. -/
def u256PartsWrong : ChangeSpec := { name := "u256Parts", fn := fun _ => fun
  | [d1, d2, d3] => { results := [.lit (.bool false)], args := [d1, d2, d3] }
  | _ => none }
def U256PartsWrongFalsely : Prop := u256PartsRow.holds Try.pinned (OpenSpec.ofChange u256PartsWrong)

/-- 'florinlaw01.U256Shifts': WHATEVER THE INPUT: true; the input reads as it did. -/
def u256ShiftsSpec : ChangeSpec := { name := "u256Shifts", fn := fun _ => fun
  | [d1, d2] => { results := [.lit (.bool true)], args := [d1, d2] }
  | _ => none }
def u256ShiftsRow : OpenClaim := { program := "ytlnognioflfknaa", sum := "c7f11a60829cb516c0df59e789cfbb6802d05182c179f6d4e87b171cb8585f5f", func := "florin/florinlaw01.U256Shifts", spec := "u256Shifts", inPlace := ["math/bits.Add64", "math/bits.Sub64"], apart := false }
def U256ShiftsSaid : Prop := u256ShiftsRow.holds Try.pinned (OpenSpec.ofChange u256ShiftsSpec)

/-- ITS FALSE NEIGHBOUR: 'it returns false'. Refute it at one input. -/
def u256ShiftsWrong : ChangeSpec := { name := "u256Shifts", fn := fun _ => fun
  | [d1, d2] => { results := [.lit (.bool false)], args := [d1, d2] }
  | _ => none }
def U256ShiftsWrongFalsely : Prop := u256ShiftsRow.holds Try.pinned (OpenSpec.ofChange u256ShiftsWrong)

/- THE SECOND FORM. 'bulk': how many values and letters a reading holds, each counted each time it is reached (what is shared counts as often as it is met; a slice's spare places count too). A statement '..UptoSaid' is the law's where the arguments, and the package variables that the reading takes, are together of bulk at most 1048576: NARROWER than '..Said'. Prove '..Said' where nothing that the law and all that it calls make is longer than what came in: it says more and counts as full. Else prove '..UptoSaid'. A law counts once. -/
mutual
def uptoBulk {H : Type} : DataW H → Nat
  | .lit (.string bytes) => bytes.length + 1
  | .lit _ => 1
  | .nil => 1
  | .ptr d => uptoBulk d + 1
  | .slice elems spare => uptoBulkAll elems + uptoBulkAll spare + 1
  | .agg parts => uptoBulkAll parts + 1
  | .iface _ d => uptoBulk d + 1
  | .map entries => uptoBulkEntries entries + 1
  | .held _ => 1
def uptoBulkAll {H : Type} : List (DataW H) → Nat
  | [] => 0
  | d :: r => uptoBulk d + uptoBulkAll r
def uptoBulkEntries {H : Type} : List (Lit × DataW H) → Nat
  | [] => 0
  | x :: r => uptoBulkEntry x + uptoBulkEntries r
def uptoBulkEntry {H : Type} : Lit × DataW H → Nat
  | (.string bytes, d) => bytes.length + uptoBulk d + 1
  | (_, d) => uptoBulk d + 1
 end
def uptoSmall : (H : Type) → List (DataW H) → Bool := fun _ ds => decide (uptoBulkAll ds ≤ 1048576)
def OpenSpec.upto (s : _root_.Go.ChangeSpec) : _root_.Go.OpenSpec := { _root_.Go.OpenSpec.ofChange s with cond := some uptoSmall }

/-- 'florinlaw01.U256Order', WHERE WHAT IT READS IS OF BULK AT MOST 1048576: true; the input reads as it did. -/
def u256OrderUptoRow : OpenClaim := { program := "ytlnognioflfknaa", sum := "c7f11a60829cb516c0df59e789cfbb6802d05182c179f6d4e87b171cb8585f5f", func := "florin/florinlaw01.U256Order", spec := "u256Order", inPlace := ["math/bits.Add64", "math/bits.Sub64"], apart := false, narrowed := true }
def U256OrderUptoSaid : Prop := u256OrderUptoRow.holds Try.pinned (OpenSpec.upto u256OrderSpec)

/-- 'florinlaw01.U256Is', WHERE WHAT IT READS IS OF BULK AT MOST 1048576: true; the input reads as it did. -/
def u256IsUptoRow : OpenClaim := { program := "ytlnognioflfknaa", sum := "c7f11a60829cb516c0df59e789cfbb6802d05182c179f6d4e87b171cb8585f5f", func := "florin/florinlaw01.U256Is", spec := "u256Is", inPlace := ["math/bits.Add64", "math/bits.Sub64"], apart := false, narrowed := true }
def U256IsUptoSaid : Prop := u256IsUptoRow.holds Try.pinned (OpenSpec.upto u256IsSpec)

/-- 'florinlaw01.U256Texts', WHERE WHAT IT READS IS OF BULK AT MOST 1048576: true; the input reads as it did. -/
def u256TextsUptoRow : OpenClaim := { program := "ytlnognioflfknaa", sum := "c7f11a60829cb516c0df59e789cfbb6802d05182c179f6d4e87b171cb8585f5f", func := "florin/florinlaw01.U256Texts", spec := "u256Texts", inPlace := ["math/bits.Add64"], apart := false, narrowed := true }
def U256TextsUptoSaid : Prop := u256TextsUptoRow.holds Try.pinned (OpenSpec.upto u256TextsSpec)

/-- 'florinlaw01.U256Back', WHERE WHAT IT READS IS OF BULK AT MOST 1048576: true; the input reads as it did. -/
def u256BackUptoRow : OpenClaim := { program := "ytlnognioflfknaa", sum := "c7f11a60829cb516c0df59e789cfbb6802d05182c179f6d4e87b171cb8585f5f", func := "florin/florinlaw01.U256Back", spec := "u256Back", inPlace := ["math/bits.Add64"], apart := false, narrowed := true }
def U256BackUptoSaid : Prop := u256BackUptoRow.holds Try.pinned (OpenSpec.upto u256BackSpec)

/-- 'florinlaw01.U256Divides', WHERE WHAT IT READS IS OF BULK AT MOST 1048576: true; the input reads as it did. -/
def u256DividesUptoRow : OpenClaim := { program := "ytlnognioflfknaa", sum := "c7f11a60829cb516c0df59e789cfbb6802d05182c179f6d4e87b171cb8585f5f", func := "florin/florinlaw01.U256Divides", spec := "u256Divides", inPlace := ["math/bits.Add64", "math/bits.Sub64"], apart := false, narrowed := true }
def U256DividesUptoSaid : Prop := u256DividesUptoRow.holds Try.pinned (OpenSpec.upto u256DividesSpec)

/-- 'florinlaw01.U256Parts', WHERE WHAT IT READS IS OF BULK AT MOST 1048576: true; the input reads as it did. -/
def u256PartsUptoRow : OpenClaim := { program := "ytlnognioflfknaa", sum := "c7f11a60829cb516c0df59e789cfbb6802d05182c179f6d4e87b171cb8585f5f", func := "florin/florinlaw01.U256Parts", spec := "u256Parts", inPlace := ["math/bits.Add64", "math/bits.Sub64"], apart := false, narrowed := true }
def U256PartsUptoSaid : Prop := u256PartsUptoRow.holds Try.pinned (OpenSpec.upto u256PartsSpec)

/-- 'florinlaw01.U256Shifts', WHERE WHAT IT READS IS OF BULK AT MOST 1048576: true; the input reads as it did. -/
def u256ShiftsUptoRow : OpenClaim := { program := "ytlnognioflfknaa", sum := "c7f11a60829cb516c0df59e789cfbb6802d05182c179f6d4e87b171cb8585f5f", func := "florin/florinlaw01.U256Shifts", spec := "u256Shifts", inPlace := ["math/bits.Add64", "math/bits.Sub64"], apart := false, narrowed := true }
def U256ShiftsUptoSaid : Prop := u256ShiftsUptoRow.holds Try.pinned (OpenSpec.upto u256ShiftsSpec)

end Rows
end Go.Proofs.Ytlnognioflfknaa
