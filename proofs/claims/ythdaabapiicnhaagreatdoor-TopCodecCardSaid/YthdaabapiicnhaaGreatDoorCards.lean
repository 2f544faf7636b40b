/-
  DERIVED. GIVEN WITH THE SEED: THE CARDS: each row of YthdaabapiicnhaaGreatDoorRows.lean that lists a variable, with what it lists TIED to the program's text (the seventh form; the later family's looks); each row that meets fmt, with fmt's text TOLD by the authors' own Lean function (tested against real Go, not proved from fmt's source: count such statements apart). THE CARD IS WHAT COUNTS. Prove the row's statement (the work); the ties are given (YthdaabapiicnhaaGreatDoorTie.lean); close each card by the builder's one call (the guide's Derived/Test/ToyasCard.lean, 'card_holds'). Laid BY PROGRAM, IN A SANDBOX (cutbox-door.mjs). By AI agents, Wed Nov 11 2026. No macro, syntax, notation, axiom, sorry.
-/
import Derived.Test.YthdaabapiicnhaaGreatDoorRows
import GoSem.ClaimSeven
namespace Go.Proofs.YthdaabapiicnhaaGreatDoor
namespace Rows

/-- THE TIED CARD OF 'florintop.TopCodec'. -/
def topCodecCard : Claim7 := { stood := { row := topCodecRow, standIns := [], harness := (true, "a18041c8c7dbe36cb62a02f7a58f08f191943bdf0af27fa2b552f23adbde74ee"), looks := true }, kinds := [], alts := [], laidByText := true, laidKinds := [.data, .data, .data, .pinned], laidTests := true, laidLooks := .later }
def TopCodecCardSaid : Prop := Claim7.holds Tryz.pinned (.plain (OpenSpec.ofChange topCodecSpec)) topCodecCard

/-- THE SECOND FORM's CARD OF 'florintop.TopCodec'. -/
def topCodecUptoCard : Claim7 := { stood := { row := topCodecUptoRow, standIns := [], harness := (true, "a18041c8c7dbe36cb62a02f7a58f08f191943bdf0af27fa2b552f23adbde74ee"), looks := true }, kinds := [], alts := [], laidByText := true, laidKinds := [.data, .data, .data, .pinned], laidTests := true, laidLooks := .later }
def TopCodecUptoCardSaid : Prop := Claim7.holds Tryz.pinned (.plain (OpenSpec.upto topCodecSpec)) topCodecUptoCard
end Rows
end Go.Proofs.YthdaabapiicnhaaGreatDoor
