/-
  NARROWER THAN 'FOR EVERY INPUT', by the rows' own cells (each row's printed sentence says how): Sha2Start: laid · Sha2Cut: laid · Sha2Pads: laid · Sha2Blocks: laid · Sha2Is: laid · HashNone: laid · HashOrder: laid · HashIs: laid · Sha2Roots: laid · HashPairs: laid.
  DERIVED. THE GIVEN ROWS OF THIS SEAT. 10 by the template 'for every input the law returns true; each argument reads behind the call as it read before'; 0 by the template 'total and deterministic' (their statements: YtfebknplkbeblaaDoorTotals.lean).
  GIVEN WITH THE SEED: the statements are not yours to turn. If you find one false, say at which input.
  Laid BY PROGRAM, IN A SANDBOX (cutbox-rows.mjs): the forced cells as the released guide's own fill.sh prints them over the translation e425e6761e343b6e… (all of the seat's roots in one cut). By AI agents, Wed Nov 11 2026. No macro, syntax, notation, axiom, sorry.
-/
import Derived.Test.YtfebknplkbeblaaDoorChecked
import GoSem.Claim
import GoSem.ClaimJoined
import GoSem.ClaimMapViews
import Derived.JoinedTies
import Derived.KernelRfl
namespace Go.Proofs.YtfebknplkbeblaaDoor
/- THE CELL 'sum', in the pinned program and in every row, IS THE sha256 OF THE DUMP (.gsa) THAT YtfebknplkbeblaaDoorProg.lean LOADS. Nothing in Lean hashes anything: it is a label: what it is worth is what the hold of that sum in a sandbox is worth. -/
noncomputable def Tryd.pinned : Pinned := { name := "ytfebknplkbeblaadoor", sum := "e425e6761e343b6e9a6900076502511f30069b6a602677855769973e362a7b72", checked := Tryd.checked }
namespace Rows
def none {H : Type} : Left H := { results := [], args := [] }

/- WHAT THE LISTED PACKAGE-LEVEL VARIABLES READ AS WHEN THE CALL BEGINS. Each datum BY PROGRAM (the guide's laid-datum.mjs) off the statement by which the dump's own 'gosem.cut.vars' lays the variable. In a bare row this is a premise. The card (YtfebknplkbeblaaDoorCards.lean) ties it to the program's text. -/
def laid_florin_sha2_constants {H : Type} : DataW H := .agg [.lit (.int .u32 1116352408), .lit (.int .u32 1899447441), .lit (.int .u32 3049323471), .lit (.int .u32 3921009573), .lit (.int .u32 961987163), .lit (.int .u32 1508970993), .lit (.int .u32 2453635748), .lit (.int .u32 2870763221), .lit (.int .u32 3624381080), .lit (.int .u32 310598401), .lit (.int .u32 607225278), .lit (.int .u32 1426881987), .lit (.int .u32 1925078388), .lit (.int .u32 2162078206), .lit (.int .u32 2614888103), .lit (.int .u32 3248222580), .lit (.int .u32 3835390401), .lit (.int .u32 4022224774), .lit (.int .u32 264347078), .lit (.int .u32 604807628), .lit (.int .u32 770255983), .lit (.int .u32 1249150122), .lit (.int .u32 1555081692), .lit (.int .u32 1996064986), .lit (.int .u32 2554220882), .lit (.int .u32 2821834349), .lit (.int .u32 2952996808), .lit (.int .u32 3210313671), .lit (.int .u32 3336571891), .lit (.int .u32 3584528711), .lit (.int .u32 113926993), .lit (.int .u32 338241895), .lit (.int .u32 666307205), .lit (.int .u32 773529912), .lit (.int .u32 1294757372), .lit (.int .u32 1396182291), .lit (.int .u32 1695183700), .lit (.int .u32 1986661051), .lit (.int .u32 2177026350), .lit (.int .u32 2456956037), .lit (.int .u32 2730485921), .lit (.int .u32 2820302411), .lit (.int .u32 3259730800), .lit (.int .u32 3345764771), .lit (.int .u32 3516065817), .lit (.int .u32 3600352804), .lit (.int .u32 4094571909), .lit (.int .u32 275423344), .lit (.int .u32 430227734), .lit (.int .u32 506948616), .lit (.int .u32 659060556), .lit (.int .u32 883997877), .lit (.int .u32 958139571), .lit (.int .u32 1322822218), .lit (.int .u32 1537002063), .lit (.int .u32 1747873779), .lit (.int .u32 1955562222), .lit (.int .u32 2024104815), .lit (.int .u32 2227730452), .lit (.int .u32 2361852424), .lit (.int .u32 2428436474), .lit (.int .u32 2756734187), .lit (.int .u32 3204031479), .lit (.int .u32 3329325298)]
def laid_florin_sha2_initials {H : Type} : DataW H := .agg [.lit (.int .u32 1779033703), .lit (.int .u32 3144134277), .lit (.int .u32 1013904242), .lit (.int .u32 2773480762), .lit (.int .u32 1359893119), .lit (.int .u32 2600822924), .lit (.int .u32 528734635), .lit (.int .u32 1541459225)]

/-- 'florinlaw02.Sha2Start': WHATEVER THE INPUT: true; the input reads as it did. -/
def sha2StartSpec : ChangeSpec := { name := "sha2Start", fn := fun _ => fun
  | [d] => { results := [.lit (.bool true)], args := [d] }
  | _ => none }
def sha2StartRow : OpenClaim := { program := "ytfebknplkbeblaadoor", sum := "e425e6761e343b6e9a6900076502511f30069b6a602677855769973e362a7b72", func := "florin/florinlaw02.Sha2Start", spec := "sha2Start", named := ["florin/sha2.initials", "florin/sha2.constants"], apart := false, laid := [("florin/sha2.constants", laid_florin_sha2_constants), ("florin/sha2.initials", laid_florin_sha2_initials)] }
def Sha2StartSaid : Prop := sha2StartRow.holds Tryd.pinned (OpenSpec.ofChange sha2StartSpec)

/-- ITS FALSE NEIGHBOUR: 'it returns false'. Refute it at one input. -/
def sha2StartWrong : ChangeSpec := { name := "sha2Start", fn := fun _ => fun
  | [d] => { results := [.lit (.bool false)], args := [d] }
  | _ => none }
def Sha2StartWrongFalsely : Prop := sha2StartRow.holds Tryd.pinned (OpenSpec.ofChange sha2StartWrong)

/-- 'florinlaw02.Sha2Cut': WHATEVER THE INPUT: true; the input reads as it did. -/
def sha2CutSpec : ChangeSpec := { name := "sha2Cut", fn := fun _ => fun
  | [d1, d2, d3] => { results := [.lit (.bool true)], args := [d1, d2, d3] }
  | _ => none }
def sha2CutRow : OpenClaim := { program := "ytfebknplkbeblaadoor", sum := "e425e6761e343b6e9a6900076502511f30069b6a602677855769973e362a7b72", func := "florin/florinlaw02.Sha2Cut", spec := "sha2Cut", named := ["florin/sha2.initials", "florin/sha2.constants"], apart := false, laid := [("florin/sha2.constants", laid_florin_sha2_constants), ("florin/sha2.initials", laid_florin_sha2_initials)] }
def Sha2CutSaid : Prop := sha2CutRow.holds Tryd.pinned (OpenSpec.ofChange sha2CutSpec)

/-- ITS FALSE NEIGHBOUR: 'it returns false'. Refute it at one input. -/
def sha2CutWrong : ChangeSpec := { name := "sha2Cut", fn := fun _ => fun
  | [d1, d2, d3] => { results := [.lit (.bool false)], args := [d1, d2, d3] }
  | _ => none }
def Sha2CutWrongFalsely : Prop := sha2CutRow.holds Tryd.pinned (OpenSpec.ofChange sha2CutWrong)

/-- 'florinlaw02.Sha2Pads': WHATEVER THE INPUT: true; the input reads as it did. -/
def sha2PadsSpec : ChangeSpec := { name := "sha2Pads", fn := fun _ => fun
  | [d] => { results := [.lit (.bool true)], args := [d] }
  | _ => none }
def sha2PadsRow : OpenClaim := { program := "ytfebknplkbeblaadoor", sum := "e425e6761e343b6e9a6900076502511f30069b6a602677855769973e362a7b72", func := "florin/florinlaw02.Sha2Pads", spec := "sha2Pads", named := ["florin/sha2.initials", "florin/sha2.constants"], apart := false, laid := [("florin/sha2.constants", laid_florin_sha2_constants), ("florin/sha2.initials", laid_florin_sha2_initials)] }
def Sha2PadsSaid : Prop := sha2PadsRow.holds Tryd.pinned (OpenSpec.ofChange sha2PadsSpec)

/-- ITS FALSE NEIGHBOUR: 'it returns false'. Refute it at one input. -/
def sha2PadsWrong : ChangeSpec := { name := "sha2Pads", fn := fun _ => fun
  | [d] => { results := [.lit (.bool false)], args := [d] }
  | _ => none }
def Sha2PadsWrongFalsely : Prop := sha2PadsRow.holds Tryd.pinned (OpenSpec.ofChange sha2PadsWrong)

/-- 'florinlaw02.Sha2Blocks': WHATEVER THE INPUT: true; the input reads as it did. -/
def sha2BlocksSpec : ChangeSpec := { name := "sha2Blocks", fn := fun _ => fun
  | [d1, d2] => { results := [.lit (.bool true)], args := [d1, d2] }
  | _ => none }
def sha2BlocksRow : OpenClaim := { program := "ytfebknplkbeblaadoor", sum := "e425e6761e343b6e9a6900076502511f30069b6a602677855769973e362a7b72", func := "florin/florinlaw02.Sha2Blocks", spec := "sha2Blocks", named := ["florin/sha2.initials", "florin/sha2.constants"], apart := false, laid := [("florin/sha2.constants", laid_florin_sha2_constants), ("florin/sha2.initials", laid_florin_sha2_initials)] }
def Sha2BlocksSaid : Prop := sha2BlocksRow.holds Tryd.pinned (OpenSpec.ofChange sha2BlocksSpec)

/-- ITS FALSE NEIGHBOUR: 'it returns false'. Refute it at one input. -/
def sha2BlocksWrong : ChangeSpec := { name := "sha2Blocks", fn := fun _ => fun
  | [d1, d2] => { results := [.lit (.bool false)], args := [d1, d2] }
  | _ => none }
def Sha2BlocksWrongFalsely : Prop := sha2BlocksRow.holds Tryd.pinned (OpenSpec.ofChange sha2BlocksWrong)

/-- 'florinlaw02.Sha2Is': WHATEVER THE INPUT: true; the input reads as it did. -/
def sha2IsSpec : ChangeSpec := { name := "sha2Is", fn := fun _ => fun
  | [d1, d2, d3] => { results := [.lit (.bool true)], args := [d1, d2, d3] }
  | _ => none }
def sha2IsRow : OpenClaim := { program := "ytfebknplkbeblaadoor", sum := "e425e6761e343b6e9a6900076502511f30069b6a602677855769973e362a7b72", func := "florin/florinlaw02.Sha2Is", spec := "sha2Is", named := ["florin/sha2.initials", "florin/sha2.constants"], apart := false, laid := [("florin/sha2.constants", laid_florin_sha2_constants), ("florin/sha2.initials", laid_florin_sha2_initials)] }
def Sha2IsSaid : Prop := sha2IsRow.holds Tryd.pinned (OpenSpec.ofChange sha2IsSpec)

/-- ITS FALSE NEIGHBOUR: 'it returns false'. Refute it at one input. -/
def sha2IsWrong : ChangeSpec := { name := "sha2Is", fn := fun _ => fun
  | [d1, d2, d3] => { results := [.lit (.bool false)], args := [d1, d2, d3] }
  | _ => none }
def Sha2IsWrongFalsely : Prop := sha2IsRow.holds Tryd.pinned (OpenSpec.ofChange sha2IsWrong)

/-- 'florinlaw03.HashNone': WHATEVER THE INPUT: true; the input reads as it did. -/
def hashNoneSpec : ChangeSpec := { name := "hashNone", fn := fun _ => fun
  | [d1, d2] => { results := [.lit (.bool true)], args := [d1, d2] }
  | _ => none }
def hashNoneRow : OpenClaim := { program := "ytfebknplkbeblaadoor", sum := "e425e6761e343b6e9a6900076502511f30069b6a602677855769973e362a7b72", func := "florin/florinlaw03.HashNone", spec := "hashNone", named := ["florin/sha2.initials", "florin/sha2.constants"], apart := false, laid := [("florin/sha2.constants", laid_florin_sha2_constants), ("florin/sha2.initials", laid_florin_sha2_initials)] }
def HashNoneSaid : Prop := hashNoneRow.holds Tryd.pinned (OpenSpec.ofChange hashNoneSpec)

/-- ITS FALSE NEIGHBOUR: 'it returns false'. Refute it at one input. -/
def hashNoneWrong : ChangeSpec := { name := "hashNone", fn := fun _ => fun
  | [d1, d2] => { results := [.lit (.bool false)], args := [d1, d2] }
  | _ => none }
def HashNoneWrongFalsely : Prop := hashNoneRow.holds Tryd.pinned (OpenSpec.ofChange hashNoneWrong)

/-- 'florinlaw03.HashOrder': WHATEVER THE INPUT: true; the input reads as it did. -/
def hashOrderSpec : ChangeSpec := { name := "hashOrder", fn := fun _ => fun
  | [d1, d2, d3] => { results := [.lit (.bool true)], args := [d1, d2, d3] }
  | _ => none }
def hashOrderRow : OpenClaim := { program := "ytfebknplkbeblaadoor", sum := "e425e6761e343b6e9a6900076502511f30069b6a602677855769973e362a7b72", func := "florin/florinlaw03.HashOrder", spec := "hashOrder", named := ["florin/sha2.initials", "florin/sha2.constants"], apart := false, laid := [("florin/sha2.constants", laid_florin_sha2_constants), ("florin/sha2.initials", laid_florin_sha2_initials)] }
def HashOrderSaid : Prop := hashOrderRow.holds Tryd.pinned (OpenSpec.ofChange hashOrderSpec)

/-- ITS FALSE NEIGHBOUR: 'it returns false'. Refute it at one input. -/
def hashOrderWrong : ChangeSpec := { name := "hashOrder", fn := fun _ => fun
  | [d1, d2, d3] => { results := [.lit (.bool false)], args := [d1, d2, d3] }
  | _ => none }
def HashOrderWrongFalsely : Prop := hashOrderRow.holds Tryd.pinned (OpenSpec.ofChange hashOrderWrong)

/-- 'florinlaw03.HashIs': WHATEVER THE INPUT: true; the input reads as it did. -/
def hashIsSpec : ChangeSpec := { name := "hashIs", fn := fun _ => fun
  | [d1, d2, d3, d4, d5, d6] => { results := [.lit (.bool true)], args := [d1, d2, d3, d4, d5, d6] }
  | _ => none }
def hashIsRow : OpenClaim := { program := "ytfebknplkbeblaadoor", sum := "e425e6761e343b6e9a6900076502511f30069b6a602677855769973e362a7b72", func := "florin/florinlaw03.HashIs", spec := "hashIs", named := ["florin/sha2.initials", "florin/sha2.constants"], apart := false, laid := [("florin/sha2.constants", laid_florin_sha2_constants), ("florin/sha2.initials", laid_florin_sha2_initials)] }
def HashIsSaid : Prop := hashIsRow.holds Tryd.pinned (OpenSpec.ofChange hashIsSpec)

/-- ITS FALSE NEIGHBOUR: 'it returns false'. Refute it at one input. -/
def hashIsWrong : ChangeSpec := { name := "hashIs", fn := fun _ => fun
  | [d1, d2, d3, d4, d5, d6] => { results := [.lit (.bool false)], args := [d1, d2, d3, d4, d5, d6] }
  | _ => none }
def HashIsWrongFalsely : Prop := hashIsRow.holds Tryd.pinned (OpenSpec.ofChange hashIsWrong)

/-- 'florinlaw02.Sha2Roots': WHATEVER THE INPUT: true; the input reads as it did. -/
def sha2RootsSpec : ChangeSpec := { name := "sha2Roots", fn := fun _ => fun
  | [d] => { results := [.lit (.bool true)], args := [d] }
  | _ => none }
def sha2RootsRow : OpenClaim := { program := "ytfebknplkbeblaadoor", sum := "e425e6761e343b6e9a6900076502511f30069b6a602677855769973e362a7b72", func := "florin/florinlaw02.Sha2Roots", spec := "sha2Roots", inPlace := ["math/bits.Add64"], named := ["florin/sha2.initials", "florin/sha2.constants"], apart := false, laid := [("florin/sha2.constants", laid_florin_sha2_constants), ("florin/sha2.initials", laid_florin_sha2_initials)] }
def Sha2RootsSaid : Prop := sha2RootsRow.holds Tryd.pinned (OpenSpec.ofChange sha2RootsSpec)

/-- ITS FALSE NEIGHBOUR: 'it returns false'. Refute it at one input. -/
def sha2RootsWrong : ChangeSpec := { name := "sha2Roots", fn := fun _ => fun
  | [d] => { results := [.lit (.bool false)], args := [d] }
  | _ => none }
def Sha2RootsWrongFalsely : Prop := sha2RootsRow.holds Tryd.pinned (OpenSpec.ofChange sha2RootsWrong)

/-- 'florinlaw03.HashPairs': WHATEVER THE INPUT: true; the input reads as it did. -/
def hashPairsSpec : ChangeSpec := { name := "hashPairs", fn := fun _ => fun
  | [d1, d2] => { results := [.lit (.bool true)], args := [d1, d2] }
  | _ => none }
def hashPairsRow : OpenClaim := { program := "ytfebknplkbeblaadoor", sum := "e425e6761e343b6e9a6900076502511f30069b6a602677855769973e362a7b72", func := "florin/florinlaw03.HashPairs", spec := "hashPairs", named := ["florin/sha2.initials", "florin/sha2.constants"], apart := false, laid := [("florin/sha2.constants", laid_florin_sha2_constants), ("florin/sha2.initials", laid_florin_sha2_initials)] }
def HashPairsSaid : Prop := hashPairsRow.holds Tryd.pinned (OpenSpec.ofChange hashPairsSpec)

/-- ITS FALSE NEIGHBOUR: 'it returns false'. Refute it at one input. -/
def hashPairsWrong : ChangeSpec := { name := "hashPairs", fn := fun _ => fun
  | [d1, d2] => { results := [.lit (.bool false)], args := [d1, d2] }
  | _ => none }
def HashPairsWrongFalsely : Prop := hashPairsRow.holds Tryd.pinned (OpenSpec.ofChange hashPairsWrong)

/- THE SECOND FORM. 'bulk': how many values and letters a reading holds, each counted each time it is reached (what is shared counts as often as it is met; a slice's spare places count too). A statement '..UptoSaid' is the law's where the arguments, and the package variables that the reading takes, are together of bulk at most 1048576: NARROWER than '..Said'. Prove '..Said' where nothing that the law and all that it calls make is longer than what came in: it says more and counts as full. Else prove '..UptoSaid'. A law counts once. -/
mutual
def uptoBulk {H : Type} : DataW H → Nat
  | .lit (.string bytes) => bytes.length + 1
  | .lit _ => 1
  | .nil => 1
  | .ptr d => uptoBulk d + 1
  | .slice elems spare => uptoBulkAll elems + uptoBulkAll spare + 1
  | .agg parts => uptoBulkAll parts + 1
  | .iface _ d => uptoBulk d + 1
  | .map entries => uptoBulkEntries entries + 1
  | .held _ => 1
def uptoBulkAll {H : Type} : List (DataW H) → Nat
  | [] => 0
  | d :: r => uptoBulk d + uptoBulkAll r
def uptoBulkEntries {H : Type} : List (Lit × DataW H) → Nat
  | [] => 0
  | x :: r => uptoBulkEntry x + uptoBulkEntries r
def uptoBulkEntry {H : Type} : Lit × DataW H → Nat
  | (.string bytes, d) => bytes.length + uptoBulk d + 1
  | (_, d) => uptoBulk d + 1
 end
def uptoSmall : (H : Type) → List (DataW H) → Bool := fun _ ds => decide (uptoBulkAll ds ≤ 1048576)
def OpenSpec.upto (s : _root_.Go.ChangeSpec) : _root_.Go.OpenSpec := { _root_.Go.OpenSpec.ofChange s with cond := some uptoSmall }

/-- 'florinlaw02.Sha2Start', WHERE WHAT IT READS IS OF BULK AT MOST 1048576: true; the input reads as it did. -/
def sha2StartUptoRow : OpenClaim := { program := "ytfebknplkbeblaadoor", sum := "e425e6761e343b6e9a6900076502511f30069b6a602677855769973e362a7b72", func := "florin/florinlaw02.Sha2Start", spec := "sha2Start", named := ["florin/sha2.initials", "florin/sha2.constants"], apart := false, laid := [("florin/sha2.constants", laid_florin_sha2_constants), ("florin/sha2.initials", laid_florin_sha2_initials)], narrowed := true }
def Sha2StartUptoSaid : Prop := sha2StartUptoRow.holds Tryd.pinned (OpenSpec.upto sha2StartSpec)

/-- 'florinlaw02.Sha2Cut', WHERE WHAT IT READS IS OF BULK AT MOST 1048576: true; the input reads as it did. -/
def sha2CutUptoRow : OpenClaim := { program := "ytfebknplkbeblaadoor", sum := "e425e6761e343b6e9a6900076502511f30069b6a602677855769973e362a7b72", func := "florin/florinlaw02.Sha2Cut", spec := "sha2Cut", named := ["florin/sha2.initials", "florin/sha2.constants"], apart := false, laid := [("florin/sha2.constants", laid_florin_sha2_constants), ("florin/sha2.initials", laid_florin_sha2_initials)], narrowed := true }
def Sha2CutUptoSaid : Prop := sha2CutUptoRow.holds Tryd.pinned (OpenSpec.upto sha2CutSpec)

/-- 'florinlaw02.Sha2Pads', WHERE WHAT IT READS IS OF BULK AT MOST 1048576: true; the input reads as it did. -/
def sha2PadsUptoRow : OpenClaim := { program := "ytfebknplkbeblaadoor", sum := "e425e6761e343b6e9a6900076502511f30069b6a602677855769973e362a7b72", func := "florin/florinlaw02.Sha2Pads", spec := "sha2Pads", named := ["florin/sha2.initials", "florin/sha2.constants"], apart := false, laid := [("florin/sha2.constants", laid_florin_sha2_constants), ("florin/sha2.initials", laid_florin_sha2_initials)], narrowed := true }
def Sha2PadsUptoSaid : Prop := sha2PadsUptoRow.holds Tryd.pinned (OpenSpec.upto sha2PadsSpec)

/-- 'florinlaw02.Sha2Blocks', WHERE WHAT IT READS IS OF BULK AT MOST 1048576: true; the input reads as it did. -/
def sha2BlocksUptoRow : OpenClaim := { program := "ytfebknplkbeblaadoor", sum := "e425e6761e343b6e9a6900076502511f30069b6a602677855769973e362a7b72", func := "florin/florinlaw02.Sha2Blocks", spec := "sha2Blocks", named := ["florin/sha2.initials", "florin/sha2.constants"], apart := false, laid := [("florin/sha2.constants", laid_florin_sha2_constants), ("florin/sha2.initials", laid_florin_sha2_initials)], narrowed := true }
def Sha2BlocksUptoSaid : Prop := sha2BlocksUptoRow.holds Tryd.pinned (OpenSpec.upto sha2BlocksSpec)

/-- 'florinlaw02.Sha2Is', WHERE WHAT IT READS IS OF BULK AT MOST 1048576: true; the input reads as it did. -/
def sha2IsUptoRow : OpenClaim := { program := "ytfebknplkbeblaadoor", sum := "e425e6761e343b6e9a6900076502511f30069b6a602677855769973e362a7b72", func := "florin/florinlaw02.Sha2Is", spec := "sha2Is", named := ["florin/sha2.initials", "florin/sha2.constants"], apart := false, laid := [("florin/sha2.constants", laid_florin_sha2_constants), ("florin/sha2.initials", laid_florin_sha2_initials)], narrowed := true }
def Sha2IsUptoSaid : Prop := sha2IsUptoRow.holds Tryd.pinned (OpenSpec.upto sha2IsSpec)

/-- 'florinlaw03.HashNone', WHERE WHAT IT READS IS OF BULK AT MOST 1048576: true; the input reads as it did. -/
def hashNoneUptoRow : OpenClaim := { program := "ytfebknplkbeblaadoor", sum := "e425e6761e343b6e9a6900076502511f30069b6a602677855769973e362a7b72", func := "florin/florinlaw03.HashNone", spec := "hashNone", named := ["florin/sha2.initials", "florin/sha2.constants"], apart := false, laid := [("florin/sha2.constants", laid_florin_sha2_constants), ("florin/sha2.initials", laid_florin_sha2_initials)], narrowed := true }
def HashNoneUptoSaid : Prop := hashNoneUptoRow.holds Tryd.pinned (OpenSpec.upto hashNoneSpec)

/-- 'florinlaw03.HashOrder', WHERE WHAT IT READS IS OF BULK AT MOST 1048576: true; the input reads as it did. -/
def hashOrderUptoRow : OpenClaim := { program := "ytfebknplkbeblaadoor", sum := "e425e6761e343b6e9a6900076502511f30069b6a602677855769973e362a7b72", func := "florin/florinlaw03.HashOrder", spec := "hashOrder", named := ["florin/sha2.initials", "florin/sha2.constants"], apart := false, laid := [("florin/sha2.constants", laid_florin_sha2_constants), ("florin/sha2.initials", laid_florin_sha2_initials)], narrowed := true }
def HashOrderUptoSaid : Prop := hashOrderUptoRow.holds Tryd.pinned (OpenSpec.upto hashOrderSpec)

/-- 'florinlaw03.HashIs', WHERE WHAT IT READS IS OF BULK AT MOST 1048576: true; the input reads as it did. -/
def hashIsUptoRow : OpenClaim := { program := "ytfebknplkbeblaadoor", sum := "e425e6761e343b6e9a6900076502511f30069b6a602677855769973e362a7b72", func := "florin/florinlaw03.HashIs", spec := "hashIs", named := ["florin/sha2.initials", "florin/sha2.constants"], apart := false, laid := [("florin/sha2.constants", laid_florin_sha2_constants), ("florin/sha2.initials", laid_florin_sha2_initials)], narrowed := true }
def HashIsUptoSaid : Prop := hashIsUptoRow.holds Tryd.pinned (OpenSpec.upto hashIsSpec)

/-- 'florinlaw02.Sha2Roots', WHERE WHAT IT READS IS OF BULK AT MOST 1048576: true; the input reads as it did. -/
def sha2RootsUptoRow : OpenClaim := { program := "ytfebknplkbeblaadoor", sum := "e425e6761e343b6e9a6900076502511f30069b6a602677855769973e362a7b72", func := "florin/florinlaw02.Sha2Roots", spec := "sha2Roots", inPlace := ["math/bits.Add64"], named := ["florin/sha2.initials", "florin/sha2.constants"], apart := false, laid := [("florin/sha2.constants", laid_florin_sha2_constants), ("florin/sha2.initials", laid_florin_sha2_initials)], narrowed := true }
def Sha2RootsUptoSaid : Prop := sha2RootsUptoRow.holds Tryd.pinned (OpenSpec.upto sha2RootsSpec)

/-- 'florinlaw03.HashPairs', WHERE WHAT IT READS IS OF BULK AT MOST 1048576: true; the input reads as it did. -/
def hashPairsUptoRow : OpenClaim := { program := "ytfebknplkbeblaadoor", sum := "e425e6761e343b6e9a6900076502511f30069b6a602677855769973e362a7b72", func := "florin/florinlaw03.HashPairs", spec := "hashPairs", named := ["florin/sha2.initials", "florin/sha2.constants"], apart := false, laid := [("florin/sha2.constants", laid_florin_sha2_constants), ("florin/sha2.initials", laid_florin_sha2_initials)], narrowed := true }
def HashPairsUptoSaid : Prop := hashPairsUptoRow.holds Tryd.pinned (OpenSpec.upto hashPairsSpec)

end Rows
end Go.Proofs.YtfebknplkbeblaaDoor
