/-
  DERIVED. GIVEN WITH THE SEED: THE CARDS: each row of YtlegcceaoglpoaaDoorRows.lean that lists a variable, with what it lists TIED to the program's text (the seventh form; the later family's looks); each row that meets fmt, with fmt's text TOLD by the authors' own Lean function (tested against real Go, not proved from fmt's source: count such statements apart). THE CARD IS WHAT COUNTS. Prove the row's statement (the work); the ties are given (YtlegcceaoglpoaaDoorTie.lean); close each card by the builder's one call (the guide's Derived/Test/ToyasCard.lean, 'card_holds'). Laid BY PROGRAM, IN A SANDBOX (cutbox-door.mjs). By AI agents, Wed Nov 11 2026. No macro, syntax, notation, axiom, sorry.
-/
import Derived.Test.YtlegcceaoglpoaaDoorRows
import GoSem.ClaimSeven
namespace Go.Proofs.YtlegcceaoglpoaaDoor
namespace Rows

/-- THE TIED CARD OF 'florinlaw06.FrameIs'. -/
def frameIsCard : Claim7 := { stood := { row := frameIsRow, standIns := [], harness := (true, "259ed1e13d3387f39c1c9b11e17a3cf1e605b5ae57ac2b80726f868aa7230183"), looks := false }, kinds := [], alts := [], laidByText := true, laidKinds := [.data, .data, .data, .pinned], laidTests := true, laidLooks := .later }
def FrameIsCardSaid : Prop := Claim7.holds Tryd.pinned (.plain (OpenSpec.ofChange frameIsSpec)) frameIsCard

/-- THE SECOND FORM's CARD OF 'florinlaw06.FrameIs'. -/
def frameIsUptoCard : Claim7 := { stood := { row := frameIsUptoRow, standIns := [], harness := (true, "259ed1e13d3387f39c1c9b11e17a3cf1e605b5ae57ac2b80726f868aa7230183"), looks := false }, kinds := [], alts := [], laidByText := true, laidKinds := [.data, .data, .data, .pinned], laidTests := true, laidLooks := .later }
def FrameIsUptoCardSaid : Prop := Claim7.holds Tryd.pinned (.plain (OpenSpec.upto frameIsSpec)) frameIsUptoCard
end Rows
end Go.Proofs.YtlegcceaoglpoaaDoor
