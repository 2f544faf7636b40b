/-
  DERIVED. GIVEN WITH THE SEED: THE CARDS: each row of YtfebknplkbeblaaDoorRows.lean that lists a variable, with what it lists TIED to the program's text (the seventh form; the later family's looks); each row that meets fmt, with fmt's text TOLD by the authors' own Lean function (tested against real Go, not proved from fmt's source: count such statements apart). THE CARD IS WHAT COUNTS. Prove the row's statement (the work); the ties are given (YtfebknplkbeblaaDoorTie.lean); close each card by the builder's one call (the guide's Derived/Test/ToyasCard.lean, 'card_holds'). Laid BY PROGRAM, IN A SANDBOX (cutbox-door.mjs). By AI agents, Wed Nov 11 2026. No macro, syntax, notation, axiom, sorry.
-/
import Derived.Test.YtfebknplkbeblaaDoorRows
import GoSem.ClaimSeven
namespace Go.Proofs.YtfebknplkbeblaaDoor
namespace Rows

/-- THE TIED CARD OF 'florinlaw02.Sha2Start'. -/
def sha2StartCard : Claim7 := { stood := { row := sha2StartRow, standIns := [], harness := (true, "f736075a97e589f3525e59601430db27884bf8d9f51b02cc378a14649dddbdf4"), looks := false }, kinds := [], alts := [], laidByText := true, laidKinds := [.data, .data], laidTests := true, laidLooks := .later }
def Sha2StartCardSaid : Prop := Claim7.holds Tryd.pinned (.plain (OpenSpec.ofChange sha2StartSpec)) sha2StartCard

/-- THE TIED CARD OF 'florinlaw02.Sha2Cut'. -/
def sha2CutCard : Claim7 := { stood := { row := sha2CutRow, standIns := [], harness := (true, "f736075a97e589f3525e59601430db27884bf8d9f51b02cc378a14649dddbdf4"), looks := false }, kinds := [], alts := [], laidByText := true, laidKinds := [.data, .data], laidTests := true, laidLooks := .later }
def Sha2CutCardSaid : Prop := Claim7.holds Tryd.pinned (.plain (OpenSpec.ofChange sha2CutSpec)) sha2CutCard

/-- THE TIED CARD OF 'florinlaw02.Sha2Pads'. -/
def sha2PadsCard : Claim7 := { stood := { row := sha2PadsRow, standIns := [], harness := (true, "f736075a97e589f3525e59601430db27884bf8d9f51b02cc378a14649dddbdf4"), looks := false }, kinds := [], alts := [], laidByText := true, laidKinds := [.data, .data], laidTests := true, laidLooks := .later }
def Sha2PadsCardSaid : Prop := Claim7.holds Tryd.pinned (.plain (OpenSpec.ofChange sha2PadsSpec)) sha2PadsCard

/-- THE TIED CARD OF 'florinlaw02.Sha2Blocks'. -/
def sha2BlocksCard : Claim7 := { stood := { row := sha2BlocksRow, standIns := [], harness := (true, "f736075a97e589f3525e59601430db27884bf8d9f51b02cc378a14649dddbdf4"), looks := false }, kinds := [], alts := [], laidByText := true, laidKinds := [.data, .data], laidTests := true, laidLooks := .later }
def Sha2BlocksCardSaid : Prop := Claim7.holds Tryd.pinned (.plain (OpenSpec.ofChange sha2BlocksSpec)) sha2BlocksCard

/-- THE TIED CARD OF 'florinlaw02.Sha2Is'. -/
def sha2IsCard : Claim7 := { stood := { row := sha2IsRow, standIns := [], harness := (true, "f736075a97e589f3525e59601430db27884bf8d9f51b02cc378a14649dddbdf4"), looks := false }, kinds := [], alts := [], laidByText := true, laidKinds := [.data, .data], laidTests := true, laidLooks := .later }
def Sha2IsCardSaid : Prop := Claim7.holds Tryd.pinned (.plain (OpenSpec.ofChange sha2IsSpec)) sha2IsCard

/-- THE TIED CARD OF 'florinlaw03.HashNone'. -/
def hashNoneCard : Claim7 := { stood := { row := hashNoneRow, standIns := [], harness := (true, "f736075a97e589f3525e59601430db27884bf8d9f51b02cc378a14649dddbdf4"), looks := false }, kinds := [], alts := [], laidByText := true, laidKinds := [.data, .data], laidTests := true, laidLooks := .later }
def HashNoneCardSaid : Prop := Claim7.holds Tryd.pinned (.plain (OpenSpec.ofChange hashNoneSpec)) hashNoneCard

/-- THE TIED CARD OF 'florinlaw03.HashOrder'. -/
def hashOrderCard : Claim7 := { stood := { row := hashOrderRow, standIns := [], harness := (true, "f736075a97e589f3525e59601430db27884bf8d9f51b02cc378a14649dddbdf4"), looks := false }, kinds := [], alts := [], laidByText := true, laidKinds := [.data, .data], laidTests := true, laidLooks := .later }
def HashOrderCardSaid : Prop := Claim7.holds Tryd.pinned (.plain (OpenSpec.ofChange hashOrderSpec)) hashOrderCard

/-- THE TIED CARD OF 'florinlaw03.HashIs'. -/
def hashIsCard : Claim7 := { stood := { row := hashIsRow, standIns := [], harness := (true, "f736075a97e589f3525e59601430db27884bf8d9f51b02cc378a14649dddbdf4"), looks := false }, kinds := [], alts := [], laidByText := true, laidKinds := [.data, .data], laidTests := true, laidLooks := .later }
def HashIsCardSaid : Prop := Claim7.holds Tryd.pinned (.plain (OpenSpec.ofChange hashIsSpec)) hashIsCard

/-- THE TIED CARD OF 'florinlaw02.Sha2Roots'. -/
def sha2RootsCard : Claim7 := { stood := { row := sha2RootsRow, standIns := [], harness := (true, "f736075a97e589f3525e59601430db27884bf8d9f51b02cc378a14649dddbdf4"), looks := false }, kinds := [], alts := [], laidByText := true, laidKinds := [.data, .data], laidTests := true, laidLooks := .later }
def Sha2RootsCardSaid : Prop := Claim7.holds Tryd.pinned (.plain (OpenSpec.ofChange sha2RootsSpec)) sha2RootsCard

/-- THE TIED CARD OF 'florinlaw03.HashPairs'. -/
def hashPairsCard : Claim7 := { stood := { row := hashPairsRow, standIns := [], harness := (true, "f736075a97e589f3525e59601430db27884bf8d9f51b02cc378a14649dddbdf4"), looks := false }, kinds := [], alts := [], laidByText := true, laidKinds := [.data, .data], laidTests := true, laidLooks := .later }
def HashPairsCardSaid : Prop := Claim7.holds Tryd.pinned (.plain (OpenSpec.ofChange hashPairsSpec)) hashPairsCard

/-- THE SECOND FORM's CARD OF 'florinlaw02.Sha2Start'. -/
def sha2StartUptoCard : Claim7 := { stood := { row := sha2StartUptoRow, standIns := [], harness := (true, "f736075a97e589f3525e59601430db27884bf8d9f51b02cc378a14649dddbdf4"), looks := false }, kinds := [], alts := [], laidByText := true, laidKinds := [.data, .data], laidTests := true, laidLooks := .later }
def Sha2StartUptoCardSaid : Prop := Claim7.holds Tryd.pinned (.plain (OpenSpec.upto sha2StartSpec)) sha2StartUptoCard

/-- THE SECOND FORM's CARD OF 'florinlaw02.Sha2Cut'. -/
def sha2CutUptoCard : Claim7 := { stood := { row := sha2CutUptoRow, standIns := [], harness := (true, "f736075a97e589f3525e59601430db27884bf8d9f51b02cc378a14649dddbdf4"), looks := false }, kinds := [], alts := [], laidByText := true, laidKinds := [.data, .data], laidTests := true, laidLooks := .later }
def Sha2CutUptoCardSaid : Prop := Claim7.holds Tryd.pinned (.plain (OpenSpec.upto sha2CutSpec)) sha2CutUptoCard

/-- THE SECOND FORM's CARD OF 'florinlaw02.Sha2Pads'. -/
def sha2PadsUptoCard : Claim7 := { stood := { row := sha2PadsUptoRow, standIns := [], harness := (true, "f736075a97e589f3525e59601430db27884bf8d9f51b02cc378a14649dddbdf4"), looks := false }, kinds := [], alts := [], laidByText := true, laidKinds := [.data, .data], laidTests := true, laidLooks := .later }
def Sha2PadsUptoCardSaid : Prop := Claim7.holds Tryd.pinned (.plain (OpenSpec.upto sha2PadsSpec)) sha2PadsUptoCard

/-- THE SECOND FORM's CARD OF 'florinlaw02.Sha2Blocks'. -/
def sha2BlocksUptoCard : Claim7 := { stood := { row := sha2BlocksUptoRow, standIns := [], harness := (true, "f736075a97e589f3525e59601430db27884bf8d9f51b02cc378a14649dddbdf4"), looks := false }, kinds := [], alts := [], laidByText := true, laidKinds := [.data, .data], laidTests := true, laidLooks := .later }
def Sha2BlocksUptoCardSaid : Prop := Claim7.holds Tryd.pinned (.plain (OpenSpec.upto sha2BlocksSpec)) sha2BlocksUptoCard

/-- THE SECOND FORM's CARD OF 'florinlaw02.Sha2Is'. -/
def sha2IsUptoCard : Claim7 := { stood := { row := sha2IsUptoRow, standIns := [], harness := (true, "f736075a97e589f3525e59601430db27884bf8d9f51b02cc378a14649dddbdf4"), looks := false }, kinds := [], alts := [], laidByText := true, laidKinds := [.data, .data], laidTests := true, laidLooks := .later }
def Sha2IsUptoCardSaid : Prop := Claim7.holds Tryd.pinned (.plain (OpenSpec.upto sha2IsSpec)) sha2IsUptoCard

/-- THE SECOND FORM's CARD OF 'florinlaw03.HashNone'. -/
def hashNoneUptoCard : Claim7 := { stood := { row := hashNoneUptoRow, standIns := [], harness := (true, "f736075a97e589f3525e59601430db27884bf8d9f51b02cc378a14649dddbdf4"), looks := false }, kinds := [], alts := [], laidByText := true, laidKinds := [.data, .data], laidTests := true, laidLooks := .later }
def HashNoneUptoCardSaid : Prop := Claim7.holds Tryd.pinned (.plain (OpenSpec.upto hashNoneSpec)) hashNoneUptoCard

/-- THE SECOND FORM's CARD OF 'florinlaw03.HashOrder'. -/
def hashOrderUptoCard : Claim7 := { stood := { row := hashOrderUptoRow, standIns := [], harness := (true, "f736075a97e589f3525e59601430db27884bf8d9f51b02cc378a14649dddbdf4"), looks := false }, kinds := [], alts := [], laidByText := true, laidKinds := [.data, .data], laidTests := true, laidLooks := .later }
def HashOrderUptoCardSaid : Prop := Claim7.holds Tryd.pinned (.plain (OpenSpec.upto hashOrderSpec)) hashOrderUptoCard

/-- THE SECOND FORM's CARD OF 'florinlaw03.HashIs'. -/
def hashIsUptoCard : Claim7 := { stood := { row := hashIsUptoRow, standIns := [], harness := (true, "f736075a97e589f3525e59601430db27884bf8d9f51b02cc378a14649dddbdf4"), looks := false }, kinds := [], alts := [], laidByText := true, laidKinds := [.data, .data], laidTests := true, laidLooks := .later }
def HashIsUptoCardSaid : Prop := Claim7.holds Tryd.pinned (.plain (OpenSpec.upto hashIsSpec)) hashIsUptoCard

/-- THE SECOND FORM's CARD OF 'florinlaw02.Sha2Roots'. -/
def sha2RootsUptoCard : Claim7 := { stood := { row := sha2RootsUptoRow, standIns := [], harness := (true, "f736075a97e589f3525e59601430db27884bf8d9f51b02cc378a14649dddbdf4"), looks := false }, kinds := [], alts := [], laidByText := true, laidKinds := [.data, .data], laidTests := true, laidLooks := .later }
def Sha2RootsUptoCardSaid : Prop := Claim7.holds Tryd.pinned (.plain (OpenSpec.upto sha2RootsSpec)) sha2RootsUptoCard

/-- THE SECOND FORM's CARD OF 'florinlaw03.HashPairs'. -/
def hashPairsUptoCard : Claim7 := { stood := { row := hashPairsUptoRow, standIns := [], harness := (true, "f736075a97e589f3525e59601430db27884bf8d9f51b02cc378a14649dddbdf4"), looks := false }, kinds := [], alts := [], laidByText := true, laidKinds := [.data, .data], laidTests := true, laidLooks := .later }
def HashPairsUptoCardSaid : Prop := Claim7.holds Tryd.pinned (.plain (OpenSpec.upto hashPairsSpec)) hashPairsUptoCard
end Rows
end Go.Proofs.YtfebknplkbeblaaDoor
