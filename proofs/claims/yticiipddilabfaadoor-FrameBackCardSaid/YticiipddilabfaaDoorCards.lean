/-
  DERIVED. GIVEN WITH THE SEED: THE CARDS: each row of YticiipddilabfaaDoorRows.lean that lists a variable, with what it lists TIED to the program's text (the seventh form; the later family's looks); each row that meets fmt, with fmt's text TOLD by the authors' own Lean function (tested against real Go, not proved from fmt's source: count such statements apart). THE CARD IS WHAT COUNTS. Prove the row's statement (the work); the ties are given (YticiipddilabfaaDoorTie.lean); close each card by the builder's one call (the guide's Derived/Test/ToyasCard.lean, 'card_holds'). Laid BY PROGRAM, IN A SANDBOX (cutbox-door.mjs). By AI agents, Wed Nov 11 2026. No macro, syntax, notation, axiom, sorry.
-/
import Derived.Test.YticiipddilabfaaDoorRows
import GoSem.ClaimSeven
namespace Go.Proofs.YticiipddilabfaaDoor
namespace Rows

/-- THE TIED CARD OF 'florinlaw06.FrameIs'. -/
def frameIsCard : Claim7 := { stood := { row := frameIsRow, standIns := [], harness := (true, "7b1145832fe9f68d2c64bf3d6d06472d75274513c25207ac4681f760392de828"), looks := false }, kinds := [], alts := [], laidByText := true, laidKinds := [.data, .data, .data, .pinned], laidTests := true, laidLooks := .later }
def FrameIsCardSaid : Prop := Claim7.holds Tryd.pinned (.plain (OpenSpec.ofChange frameIsSpec)) frameIsCard

/-- THE TIED CARD OF 'florinlaw06.FrameBack'. -/
def frameBackCard : Claim7 := { stood := { row := frameBackRow, standIns := [], harness := (true, "7b1145832fe9f68d2c64bf3d6d06472d75274513c25207ac4681f760392de828"), looks := false }, kinds := [], alts := [], laidByText := true, laidKinds := [.data, .data, .data, .pinned], laidTests := true, laidLooks := .later }
def FrameBackCardSaid : Prop := Claim7.holds Tryd.pinned (.plain (OpenSpec.ofChange frameBackSpec)) frameBackCard

/-- THE TIED CARD OF 'florinlaw06.FrameCut'. -/
def frameCutCard : Claim7 := { stood := { row := frameCutRow, standIns := [], harness := (true, "7b1145832fe9f68d2c64bf3d6d06472d75274513c25207ac4681f760392de828"), looks := false }, kinds := [], alts := [], laidByText := true, laidKinds := [.data, .data, .data, .pinned], laidTests := true, laidLooks := .later }
def FrameCutCardSaid : Prop := Claim7.holds Tryd.pinned (.plain (OpenSpec.ofChange frameCutSpec)) frameCutCard

/-- THE TIED CARD OF 'florinlaw06.FrameKept'. -/
def frameKeptCard : Claim7 := { stood := { row := frameKeptRow, standIns := [], harness := (true, "7b1145832fe9f68d2c64bf3d6d06472d75274513c25207ac4681f760392de828"), looks := false }, kinds := [], alts := [], laidByText := true, laidKinds := [.data, .data, .data, .pinned], laidTests := true, laidLooks := .later }
def FrameKeptCardSaid : Prop := Claim7.holds Tryd.pinned (.plain (OpenSpec.ofChange frameKeptSpec)) frameKeptCard

/-- THE TIED CARD OF 'florinlaw06.FrameRows'. -/
def frameRowsCard : Claim7 := { stood := { row := frameRowsRow, standIns := [], harness := (true, "7b1145832fe9f68d2c64bf3d6d06472d75274513c25207ac4681f760392de828"), looks := false }, kinds := [], alts := [], laidByText := true, laidKinds := [.data, .data, .data, .pinned], laidTests := true, laidLooks := .later }
def FrameRowsCardSaid : Prop := Claim7.holds Tryd.pinned (.plain (OpenSpec.ofChange frameRowsSpec)) frameRowsCard

/-- THE SECOND FORM's CARD OF 'florinlaw06.FrameIs'. -/
def frameIsUptoCard : Claim7 := { stood := { row := frameIsUptoRow, standIns := [], harness := (true, "7b1145832fe9f68d2c64bf3d6d06472d75274513c25207ac4681f760392de828"), looks := false }, kinds := [], alts := [], laidByText := true, laidKinds := [.data, .data, .data, .pinned], laidTests := true, laidLooks := .later }
def FrameIsUptoCardSaid : Prop := Claim7.holds Tryd.pinned (.plain (OpenSpec.upto frameIsSpec)) frameIsUptoCard

/-- THE SECOND FORM's CARD OF 'florinlaw06.FrameBack'. -/
def frameBackUptoCard : Claim7 := { stood := { row := frameBackUptoRow, standIns := [], harness := (true, "7b1145832fe9f68d2c64bf3d6d06472d75274513c25207ac4681f760392de828"), looks := false }, kinds := [], alts := [], laidByText := true, laidKinds := [.data, .data, .data, .pinned], laidTests := true, laidLooks := .later }
def FrameBackUptoCardSaid : Prop := Claim7.holds Tryd.pinned (.plain (OpenSpec.upto frameBackSpec)) frameBackUptoCard

/-- THE SECOND FORM's CARD OF 'florinlaw06.FrameCut'. -/
def frameCutUptoCard : Claim7 := { stood := { row := frameCutUptoRow, standIns := [], harness := (true, "7b1145832fe9f68d2c64bf3d6d06472d75274513c25207ac4681f760392de828"), looks := false }, kinds := [], alts := [], laidByText := true, laidKinds := [.data, .data, .data, .pinned], laidTests := true, laidLooks := .later }
def FrameCutUptoCardSaid : Prop := Claim7.holds Tryd.pinned (.plain (OpenSpec.upto frameCutSpec)) frameCutUptoCard

/-- THE SECOND FORM's CARD OF 'florinlaw06.FrameKept'. -/
def frameKeptUptoCard : Claim7 := { stood := { row := frameKeptUptoRow, standIns := [], harness := (true, "7b1145832fe9f68d2c64bf3d6d06472d75274513c25207ac4681f760392de828"), looks := false }, kinds := [], alts := [], laidByText := true, laidKinds := [.data, .data, .data, .pinned], laidTests := true, laidLooks := .later }
def FrameKeptUptoCardSaid : Prop := Claim7.holds Tryd.pinned (.plain (OpenSpec.upto frameKeptSpec)) frameKeptUptoCard

/-- THE SECOND FORM's CARD OF 'florinlaw06.FrameRows'. -/
def frameRowsUptoCard : Claim7 := { stood := { row := frameRowsUptoRow, standIns := [], harness := (true, "7b1145832fe9f68d2c64bf3d6d06472d75274513c25207ac4681f760392de828"), looks := false }, kinds := [], alts := [], laidByText := true, laidKinds := [.data, .data, .data, .pinned], laidTests := true, laidLooks := .later }
def FrameRowsUptoCardSaid : Prop := Claim7.holds Tryd.pinned (.plain (OpenSpec.upto frameRowsSpec)) frameRowsUptoCard
end Rows
end Go.Proofs.YticiipddilabfaaDoor
