/-
  No cell of these rows narrows 'for every input' (looked for: loops, veiled, ifaces, maps, wideKeys, modest, calm, conditions, laid).
  DERIVED. THE GIVEN ROWS OF THIS SEAT. 16 by the template 'for every input the law returns true; each argument reads behind the call as it read before'; 0 by the template 'total and deterministic' (their statements: YtlanefdeeanpnaaTotals.lean).
  GIVEN WITH THE SEED: the statements are not yours to turn. If you find one false, say at which input.
  Laid BY PROGRAM, IN A SANDBOX (cutbox-rows.mjs): the forced cells as the released guide's own fill.sh prints them over the translation a6ca996a6580dc0b… (all of the seat's roots in one cut). By AI agents, Wed Nov 11 2026. No macro, syntax, notation, axiom, sorry.
-/
import Derived.Test.YtlanefdeeanpnaaChecked
import GoSem.Claim
import GoSem.ClaimJoined
import GoSem.ClaimMapViews
import Derived.JoinedTies
import Derived.KernelRfl
namespace Go.Proofs.Ytlanefdeeanpnaa
/- THE CELL 'sum', in the pinned program and in every row, IS THE sha256 OF THE DUMP (.gsa) THAT YtlanefdeeanpnaaProg.lean LOADS. Nothing in Lean hashes anything: it is a label: what it is worth is what the hold of that sum in a sandbox is worth. -/
noncomputable def Try.pinned : Pinned := { name := "ytlanefdeeanpnaa", sum := "a6ca996a6580dc0bba05fb1ddbc15bbf6f2339d23df8c8f566316fbe444a40dd", checked := Try.checked }
namespace Rows
def none {H : Type} : Left H := { results := [], args := [] }

/-- 'indeliblelaw21.ReaderSees': WHATEVER THE INPUT: true; the input reads as it did. -/
def readerSeesSpec : ChangeSpec := { name := "readerSees", fn := fun _ => fun
  | [d1, d2, d3] => { results := [.lit (.bool true)], args := [d1, d2, d3] }
  | _ => none }
def readerSeesRow : OpenClaim := { program := "ytlanefdeeanpnaa", sum := "a6ca996a6580dc0bba05fb1ddbc15bbf6f2339d23df8c8f566316fbe444a40dd", func := "indelible/indeliblelaw21.ReaderSees", spec := "readerSees", unfollowed := true, recurses := true, apart := false }
def ReaderSeesSaid : Prop := readerSeesRow.holds Try.pinned (OpenSpec.ofChange readerSeesSpec)

/-- ITS FALSE NEIGHBOUR: 'it returns false'. Refute it at one input. -/
def readerSeesWrong : ChangeSpec := { name := "readerSees", fn := fun _ => fun
  | [d1, d2, d3] => { results := [.lit (.bool false)], args := [d1, d2, d3] }
  | _ => none }
def ReaderSeesWrongFalsely : Prop := readerSeesRow.holds Try.pinned (OpenSpec.ofChange readerSeesWrong)

/-- 'indeliblelaw21.ReaderDiffers': WHATEVER THE INPUT: true; the input reads as it did. -/
def readerDiffersSpec : ChangeSpec := { name := "readerDiffers", fn := fun _ => fun
  | [d1, d2, d3] => { results := [.lit (.bool true)], args := [d1, d2, d3] }
  | _ => none }
def readerDiffersRow : OpenClaim := { program := "ytlanefdeeanpnaa", sum := "a6ca996a6580dc0bba05fb1ddbc15bbf6f2339d23df8c8f566316fbe444a40dd", func := "indelible/indeliblelaw21.ReaderDiffers", spec := "readerDiffers", unfollowed := true, recurses := true, apart := false }
def ReaderDiffersSaid : Prop := readerDiffersRow.holds Try.pinned (OpenSpec.ofChange readerDiffersSpec)

/-- ITS FALSE NEIGHBOUR: 'it returns false'. Refute it at one input. -/
def readerDiffersWrong : ChangeSpec := { name := "readerDiffers", fn := fun _ => fun
  | [d1, d2, d3] => { results := [.lit (.bool false)], args := [d1, d2, d3] }
  | _ => none }
def ReaderDiffersWrongFalsely : Prop := readerDiffersRow.holds Try.pinned (OpenSpec.ofChange readerDiffersWrong)

/-- 'indeliblelaw21.ReaderDistance': WHATEVER THE INPUT: true; the input reads as it did. -/
def readerDistanceSpec : ChangeSpec := { name := "readerDistance", fn := fun _ => fun
  | [d1, d2] => { results := [.lit (.bool true)], args := [d1, d2] }
  | _ => none }
def readerDistanceRow : OpenClaim := { program := "ytlanefdeeanpnaa", sum := "a6ca996a6580dc0bba05fb1ddbc15bbf6f2339d23df8c8f566316fbe444a40dd", func := "indelible/indeliblelaw21.ReaderDistance", spec := "readerDistance", unfollowed := true, recurses := true, apart := false }
def ReaderDistanceSaid : Prop := readerDistanceRow.holds Try.pinned (OpenSpec.ofChange readerDistanceSpec)

/-- ITS FALSE NEIGHBOUR: 'it returns false'. Refute it at one input. -/
def readerDistanceWrong : ChangeSpec := { name := "readerDistance", fn := fun _ => fun
  | [d1, d2] => { results := [.lit (.bool false)], args := [d1, d2] }
  | _ => none }
def ReaderDistanceWrongFalsely : Prop := readerDistanceRow.holds Try.pinned (OpenSpec.ofChange readerDistanceWrong)

/-- 'indeliblelaw21.ReaderNear': WHATEVER THE INPUT: true; the input reads as it did. -/
def readerNearSpec : ChangeSpec := { name := "readerNear", fn := fun _ => fun
  | [d1, d2] => { results := [.lit (.bool true)], args := [d1, d2] }
  | _ => none }
def readerNearRow : OpenClaim := { program := "ytlanefdeeanpnaa", sum := "a6ca996a6580dc0bba05fb1ddbc15bbf6f2339d23df8c8f566316fbe444a40dd", func := "indelible/indeliblelaw21.ReaderNear", spec := "readerNear", unfollowed := true, recurses := true, apart := false }
def ReaderNearSaid : Prop := readerNearRow.holds Try.pinned (OpenSpec.ofChange readerNearSpec)

/-- ITS FALSE NEIGHBOUR: 'it returns false'. Refute it at one input. -/
def readerNearWrong : ChangeSpec := { name := "readerNear", fn := fun _ => fun
  | [d1, d2] => { results := [.lit (.bool false)], args := [d1, d2] }
  | _ => none }
def ReaderNearWrongFalsely : Prop := readerNearRow.holds Try.pinned (OpenSpec.ofChange readerNearWrong)

/-- 'indeliblelaw21.ReaderPlain': WHATEVER THE INPUT: true; the input reads as it did. -/
def readerPlainSpec : ChangeSpec := { name := "readerPlain", fn := fun _ => fun
  | [d] => { results := [.lit (.bool true)], args := [d] }
  | _ => none }
def readerPlainRow : OpenClaim := { program := "ytlanefdeeanpnaa", sum := "a6ca996a6580dc0bba05fb1ddbc15bbf6f2339d23df8c8f566316fbe444a40dd", func := "indelible/indeliblelaw21.ReaderPlain", spec := "readerPlain", unfollowed := true, recurses := true, apart := false }
def ReaderPlainSaid : Prop := readerPlainRow.holds Try.pinned (OpenSpec.ofChange readerPlainSpec)

/-- ITS FALSE NEIGHBOUR: 'it returns false'. Refute it at one input. -/
def readerPlainWrong : ChangeSpec := { name := "readerPlain", fn := fun _ => fun
  | [d] => { results := [.lit (.bool false)], args := [d] }
  | _ => none }
def ReaderPlainWrongFalsely : Prop := readerPlainRow.holds Try.pinned (OpenSpec.ofChange readerPlainWrong)

/-- 'indeliblelaw21.ReaderMore': WHATEVER THE INPUT: true; the input reads as it did. -/
def readerMoreSpec : ChangeSpec := { name := "readerMore", fn := fun _ => fun
  | [d] => { results := [.lit (.bool true)], args := [d] }
  | _ => none }
def readerMoreRow : OpenClaim := { program := "ytlanefdeeanpnaa", sum := "a6ca996a6580dc0bba05fb1ddbc15bbf6f2339d23df8c8f566316fbe444a40dd", func := "indelible/indeliblelaw21.ReaderMore", spec := "readerMore", unfollowed := true, recurses := true, apart := false }
def ReaderMoreSaid : Prop := readerMoreRow.holds Try.pinned (OpenSpec.ofChange readerMoreSpec)

/-- ITS FALSE NEIGHBOUR: 'it returns false'. Refute it at one input. -/
def readerMoreWrong : ChangeSpec := { name := "readerMore", fn := fun _ => fun
  | [d] => { results := [.lit (.bool false)], args := [d] }
  | _ => none }
def ReaderMoreWrongFalsely : Prop := readerMoreRow.holds Try.pinned (OpenSpec.ofChange readerMoreWrong)

/-- 'indeliblelaw37.HeadPrints': WHATEVER THE INPUT: true; the input reads as it did. -/
def headPrintsSpec : ChangeSpec := { name := "headPrints", fn := fun _ => fun
  | [d1, d2, d3] => { results := [.lit (.bool true)], args := [d1, d2, d3] }
  | _ => none }
def headPrintsRow : OpenClaim := { program := "ytlanefdeeanpnaa", sum := "a6ca996a6580dc0bba05fb1ddbc15bbf6f2339d23df8c8f566316fbe444a40dd", func := "indelible/indeliblelaw37.HeadPrints", spec := "headPrints", inPlace := ["internal/abi.NoEscape"], unfollowed := true, recurses := true, apart := false }
def HeadPrintsSaid : Prop := headPrintsRow.holds Try.pinned (OpenSpec.ofChange headPrintsSpec)

/-- ITS FALSE NEIGHBOUR: 'it returns false'. Refute it at one input. -/
def headPrintsWrong : ChangeSpec := { name := "headPrints", fn := fun _ => fun
  | [d1, d2, d3] => { results := [.lit (.bool false)], args := [d1, d2, d3] }
  | _ => none }
def HeadPrintsWrongFalsely : Prop := headPrintsRow.holds Try.pinned (OpenSpec.ofChange headPrintsWrong)

/-- 'indeliblelaw37.HeadRows': WHATEVER THE INPUT: true; the input reads as it did. -/
def headRowsSpec : ChangeSpec := { name := "headRows", fn := fun _ => fun
  | [d1, d2] => { results := [.lit (.bool true)], args := [d1, d2] }
  | _ => none }
def headRowsRow : OpenClaim := { program := "ytlanefdeeanpnaa", sum := "a6ca996a6580dc0bba05fb1ddbc15bbf6f2339d23df8c8f566316fbe444a40dd", func := "indelible/indeliblelaw37.HeadRows", spec := "headRows", inPlace := ["internal/abi.NoEscape"], unfollowed := true, recurses := true, apart := false }
def HeadRowsSaid : Prop := headRowsRow.holds Try.pinned (OpenSpec.ofChange headRowsSpec)

/-- ITS FALSE NEIGHBOUR: 'it returns false'. Refute it at one input. -/
def headRowsWrong : ChangeSpec := { name := "headRows", fn := fun _ => fun
  | [d1, d2] => { results := [.lit (.bool false)], args := [d1, d2] }
  | _ => none }
def HeadRowsWrongFalsely : Prop := headRowsRow.holds Try.pinned (OpenSpec.ofChange headRowsWrong)

/-- 'indeliblelaw37.HeadExact': WHATEVER THE INPUT: true; the input reads as it did. -/
def headExactSpec : ChangeSpec := { name := "headExact", fn := fun _ => fun
  | [d] => { results := [.lit (.bool true)], args := [d] }
  | _ => none }
def headExactRow : OpenClaim := { program := "ytlanefdeeanpnaa", sum := "a6ca996a6580dc0bba05fb1ddbc15bbf6f2339d23df8c8f566316fbe444a40dd", func := "indelible/indeliblelaw37.HeadExact", spec := "headExact", inPlace := ["internal/abi.NoEscape"], unfollowed := true, recurses := true, apart := false }
def HeadExactSaid : Prop := headExactRow.holds Try.pinned (OpenSpec.ofChange headExactSpec)

/-- ITS FALSE NEIGHBOUR: 'it returns false'. Refute it at one input. -/
def headExactWrong : ChangeSpec := { name := "headExact", fn := fun _ => fun
  | [d] => { results := [.lit (.bool false)], args := [d] }
  | _ => none }
def HeadExactWrongFalsely : Prop := headExactRow.holds Try.pinned (OpenSpec.ofChange headExactWrong)

/-- 'indeliblelaw37.HeadParts': WHATEVER THE INPUT: true; the input reads as it did. -/
def headPartsSpec : ChangeSpec := { name := "headParts", fn := fun _ => fun
  | [d1, d2] => { results := [.lit (.bool true)], args := [d1, d2] }
  | _ => none }
def headPartsRow : OpenClaim := { program := "ytlanefdeeanpnaa", sum := "a6ca996a6580dc0bba05fb1ddbc15bbf6f2339d23df8c8f566316fbe444a40dd", func := "indelible/indeliblelaw37.HeadParts", spec := "headParts", inPlace := ["internal/abi.NoEscape"], unfollowed := true, recurses := true, apart := false }
def HeadPartsSaid : Prop := headPartsRow.holds Try.pinned (OpenSpec.ofChange headPartsSpec)

/-- ITS FALSE NEIGHBOUR: 'it returns false'. Refute it at one input. -/
def headPartsWrong : ChangeSpec := { name := "headParts", fn := fun _ => fun
  | [d1, d2] => { results := [.lit (.bool false)], args := [d1, d2] }
  | _ => none }
def HeadPartsWrongFalsely : Prop := headPartsRow.holds Try.pinned (OpenSpec.ofChange headPartsWrong)

/-- 'indeliblelaw37.HeadWorn': WHATEVER THE INPUT: true; the input reads as it did. -/
def headWornSpec : ChangeSpec := { name := "headWorn", fn := fun _ => fun
  | [d1, d2] => { results := [.lit (.bool true)], args := [d1, d2] }
  | _ => none }
def headWornRow : OpenClaim := { program := "ytlanefdeeanpnaa", sum := "a6ca996a6580dc0bba05fb1ddbc15bbf6f2339d23df8c8f566316fbe444a40dd", func := "indelible/indeliblelaw37.HeadWorn", spec := "headWorn", inPlace := ["internal/abi.NoEscape"], unfollowed := true, recurses := true, apart := false }
def HeadWornSaid : Prop := headWornRow.holds Try.pinned (OpenSpec.ofChange headWornSpec)

/-- ITS FALSE NEIGHBOUR: 'it returns false'. Refute it at one input. -/
def headWornWrong : ChangeSpec := { name := "headWorn", fn := fun _ => fun
  | [d1, d2] => { results := [.lit (.bool false)], args := [d1, d2] }
  | _ => none }
def HeadWornWrongFalsely : Prop := headWornRow.holds Try.pinned (OpenSpec.ofChange headWornWrong)

/-- 'indeliblelaw07.RasterWinds': WHATEVER THE INPUT: true; the input reads as it did. -/
def rasterWindsSpec : ChangeSpec := { name := "rasterWinds", fn := fun _ => fun
  | [d1, d2, d3] => { results := [.lit (.bool true)], args := [d1, d2, d3] }
  | _ => none }
def rasterWindsRow : OpenClaim := { program := "ytlanefdeeanpnaa", sum := "a6ca996a6580dc0bba05fb1ddbc15bbf6f2339d23df8c8f566316fbe444a40dd", func := "indelible/indeliblelaw07.RasterWinds", spec := "rasterWinds", inPlace := ["internal/abi.NoEscape"], apart := false }
def RasterWindsSaid : Prop := rasterWindsRow.holds Try.pinned (OpenSpec.ofChange rasterWindsSpec)

/-- ITS FALSE NEIGHBOUR: 'it returns false'. Refute it at one input. -/
def rasterWindsWrong : ChangeSpec := { name := "rasterWinds", fn := fun _ => fun
  | [d1, d2, d3] => { results := [.lit (.bool false)], args := [d1, d2, d3] }
  | _ => none }
def RasterWindsWrongFalsely : Prop := rasterWindsRow.holds Try.pinned (OpenSpec.ofChange rasterWindsWrong)

/-- 'indeliblelaw07.RasterDraws': WHATEVER THE INPUT: true; the input reads as it did. -/
def rasterDrawsSpec : ChangeSpec := { name := "rasterDraws", fn := fun _ => fun
  | [d1, d2, d3] => { results := [.lit (.bool true)], args := [d1, d2, d3] }
  | _ => none }
def rasterDrawsRow : OpenClaim := { program := "ytlanefdeeanpnaa", sum := "a6ca996a6580dc0bba05fb1ddbc15bbf6f2339d23df8c8f566316fbe444a40dd", func := "indelible/indeliblelaw07.RasterDraws", spec := "rasterDraws", inPlace := ["internal/abi.NoEscape"], apart := false }
def RasterDrawsSaid : Prop := rasterDrawsRow.holds Try.pinned (OpenSpec.ofChange rasterDrawsSpec)

/-- ITS FALSE NEIGHBOUR: 'it returns false'. Refute it at one input. -/
def rasterDrawsWrong : ChangeSpec := { name := "rasterDraws", fn := fun _ => fun
  | [d1, d2, d3] => { results := [.lit (.bool false)], args := [d1, d2, d3] }
  | _ => none }
def RasterDrawsWrongFalsely : Prop := rasterDrawsRow.holds Try.pinned (OpenSpec.ofChange rasterDrawsWrong)

/-- 'indeliblelaw07.RasterSums': WHATEVER THE INPUT: true; the input reads as it did. -/
def rasterSumsSpec : ChangeSpec := { name := "rasterSums", fn := fun _ => fun
  | [d1, d2, d3] => { results := [.lit (.bool true)], args := [d1, d2, d3] }
  | _ => none }
def rasterSumsRow : OpenClaim := { program := "ytlanefdeeanpnaa", sum := "a6ca996a6580dc0bba05fb1ddbc15bbf6f2339d23df8c8f566316fbe444a40dd", func := "indelible/indeliblelaw07.RasterSums", spec := "rasterSums", inPlace := ["internal/abi.NoEscape"], apart := false }
def RasterSumsSaid : Prop := rasterSumsRow.holds Try.pinned (OpenSpec.ofChange rasterSumsSpec)

/-- ITS FALSE NEIGHBOUR: 'it returns false'. Refute it at one input. -/
def rasterSumsWrong : ChangeSpec := { name := "rasterSums", fn := fun _ => fun
  | [d1, d2, d3] => { results := [.lit (.bool false)], args := [d1, d2, d3] }
  | _ => none }
def RasterSumsWrongFalsely : Prop := rasterSumsRow.holds Try.pinned (OpenSpec.ofChange rasterSumsWrong)

/-- 'indeliblelaw07.RasterMoves': WHATEVER THE INPUT: true; the input reads as it did. -/
def rasterMovesSpec : ChangeSpec := { name := "rasterMoves", fn := fun _ => fun
  | [d1, d2, d3] => { results := [.lit (.bool true)], args := [d1, d2, d3] }
  | _ => none }
def rasterMovesRow : OpenClaim := { program := "ytlanefdeeanpnaa", sum := "a6ca996a6580dc0bba05fb1ddbc15bbf6f2339d23df8c8f566316fbe444a40dd", func := "indelible/indeliblelaw07.RasterMoves", spec := "rasterMoves", inPlace := ["internal/abi.NoEscape"], apart := false }
def RasterMovesSaid : Prop := rasterMovesRow.holds Try.pinned (OpenSpec.ofChange rasterMovesSpec)

/-- ITS FALSE NEIGHBOUR: 'it returns false'. Refute it at one input. -/
def rasterMovesWrong : ChangeSpec := { name := "rasterMoves", fn := fun _ => fun
  | [d1, d2, d3] => { results := [.lit (.bool false)], args := [d1, d2, d3] }
  | _ => none }
def RasterMovesWrongFalsely : Prop := rasterMovesRow.holds Try.pinned (OpenSpec.ofChange rasterMovesWrong)

/-- 'indeliblelaw07.RasterBoxes': WHATEVER THE INPUT: true; the input reads as it did. -/
def rasterBoxesSpec : ChangeSpec := { name := "rasterBoxes", fn := fun _ => fun
  | [d1, d2, d3] => { results := [.lit (.bool true)], args := [d1, d2, d3] }
  | _ => none }
def rasterBoxesRow : OpenClaim := { program := "ytlanefdeeanpnaa", sum := "a6ca996a6580dc0bba05fb1ddbc15bbf6f2339d23df8c8f566316fbe444a40dd", func := "indelible/indeliblelaw07.RasterBoxes", spec := "rasterBoxes", inPlace := ["internal/abi.NoEscape"], apart := false }
def RasterBoxesSaid : Prop := rasterBoxesRow.holds Try.pinned (OpenSpec.ofChange rasterBoxesSpec)

/-- ITS FALSE NEIGHBOUR: 'it returns false'. Refute it at one input. -/
def rasterBoxesWrong : ChangeSpec := { name := "rasterBoxes", fn := fun _ => fun
  | [d1, d2, d3] => { results := [.lit (.bool false)], args := [d1, d2, d3] }
  | _ => none }
def RasterBoxesWrongFalsely : Prop := rasterBoxesRow.holds Try.pinned (OpenSpec.ofChange rasterBoxesWrong)

/- THE SECOND FORM. 'bulk': how many values and letters a reading holds, each counted each time it is reached (what is shared counts as often as it is met; a slice's spare places count too). A statement '..UptoSaid' is the law's where the arguments, and the package variables that the reading takes, are together of bulk at most 1048576: NARROWER than '..Said'. Prove '..Said' where nothing that the law and all that it calls make is longer than what came in: it says more and counts as full. Else prove '..UptoSaid'. A law counts once. -/
mutual
def uptoBulk {H : Type} : DataW H → Nat
  | .lit (.string bytes) => bytes.length + 1
  | .lit _ => 1
  | .nil => 1
  | .ptr d => uptoBulk d + 1
  | .slice elems spare => uptoBulkAll elems + uptoBulkAll spare + 1
  | .agg parts => uptoBulkAll parts + 1
  | .iface _ d => uptoBulk d + 1
  | .map entries => uptoBulkEntries entries + 1
  | .held _ => 1
def uptoBulkAll {H : Type} : List (DataW H) → Nat
  | [] => 0
  | d :: r => uptoBulk d + uptoBulkAll r
def uptoBulkEntries {H : Type} : List (Lit × DataW H) → Nat
  | [] => 0
  | x :: r => uptoBulkEntry x + uptoBulkEntries r
def uptoBulkEntry {H : Type} : Lit × DataW H → Nat
  | (.string bytes, d) => bytes.length + uptoBulk d + 1
  | (_, d) => uptoBulk d + 1
 end
def uptoSmall : (H : Type) → List (DataW H) → Bool := fun _ ds => decide (uptoBulkAll ds ≤ 1048576)
def OpenSpec.upto (s : _root_.Go.ChangeSpec) : _root_.Go.OpenSpec := { _root_.Go.OpenSpec.ofChange s with cond := some uptoSmall }

/-- 'indeliblelaw21.ReaderSees', WHERE WHAT IT READS IS OF BULK AT MOST 1048576: true; the input reads as it did. -/
def readerSeesUptoRow : OpenClaim := { program := "ytlanefdeeanpnaa", sum := "a6ca996a6580dc0bba05fb1ddbc15bbf6f2339d23df8c8f566316fbe444a40dd", func := "indelible/indeliblelaw21.ReaderSees", spec := "readerSees", unfollowed := true, recurses := true, apart := false, narrowed := true }
def ReaderSeesUptoSaid : Prop := readerSeesUptoRow.holds Try.pinned (OpenSpec.upto readerSeesSpec)

/-- 'indeliblelaw21.ReaderDiffers', WHERE WHAT IT READS IS OF BULK AT MOST 1048576: true; the input reads as it did. -/
def readerDiffersUptoRow : OpenClaim := { program := "ytlanefdeeanpnaa", sum := "a6ca996a6580dc0bba05fb1ddbc15bbf6f2339d23df8c8f566316fbe444a40dd", func := "indelible/indeliblelaw21.ReaderDiffers", spec := "readerDiffers", unfollowed := true, recurses := true, apart := false, narrowed := true }
def ReaderDiffersUptoSaid : Prop := readerDiffersUptoRow.holds Try.pinned (OpenSpec.upto readerDiffersSpec)

/-- 'indeliblelaw21.ReaderDistance', WHERE WHAT IT READS IS OF BULK AT MOST 1048576: true; the input reads as it did. -/
def readerDistanceUptoRow : OpenClaim := { program := "ytlanefdeeanpnaa", sum := "a6ca996a6580dc0bba05fb1ddbc15bbf6f2339d23df8c8f566316fbe444a40dd", func := "indelible/indeliblelaw21.ReaderDistance", spec := "readerDistance", unfollowed := true, recurses := true, apart := false, narrowed := true }
def ReaderDistanceUptoSaid : Prop := readerDistanceUptoRow.holds Try.pinned (OpenSpec.upto readerDistanceSpec)

/-- 'indeliblelaw21.ReaderNear', WHERE WHAT IT READS IS OF BULK AT MOST 1048576: true; the input reads as it did. -/
def readerNearUptoRow : OpenClaim := { program := "ytlanefdeeanpnaa", sum := "a6ca996a6580dc0bba05fb1ddbc15bbf6f2339d23df8c8f566316fbe444a40dd", func := "indelible/indeliblelaw21.ReaderNear", spec := "readerNear", unfollowed := true, recurses := true, apart := false, narrowed := true }
def ReaderNearUptoSaid : Prop := readerNearUptoRow.holds Try.pinned (OpenSpec.upto readerNearSpec)

/-- 'indeliblelaw21.ReaderPlain', WHERE WHAT IT READS IS OF BULK AT MOST 1048576: true; the input reads as it did. -/
def readerPlainUptoRow : OpenClaim := { program := "ytlanefdeeanpnaa", sum := "a6ca996a6580dc0bba05fb1ddbc15bbf6f2339d23df8c8f566316fbe444a40dd", func := "indelible/indeliblelaw21.ReaderPlain", spec := "readerPlain", unfollowed := true, recurses := true, apart := false, narrowed := true }
def ReaderPlainUptoSaid : Prop := readerPlainUptoRow.holds Try.pinned (OpenSpec.upto readerPlainSpec)

/-- 'indeliblelaw21.ReaderMore', WHERE WHAT IT READS IS OF BULK AT MOST 1048576: true; the input reads as it did. -/
def readerMoreUptoRow : OpenClaim := { program := "ytlanefdeeanpnaa", sum := "a6ca996a6580dc0bba05fb1ddbc15bbf6f2339d23df8c8f566316fbe444a40dd", func := "indelible/indeliblelaw21.ReaderMore", spec := "readerMore", unfollowed := true, recurses := true, apart := false, narrowed := true }
def ReaderMoreUptoSaid : Prop := readerMoreUptoRow.holds Try.pinned (OpenSpec.upto readerMoreSpec)

/-- 'indeliblelaw37.HeadPrints', WHERE WHAT IT READS IS OF BULK AT MOST 1048576: true; the input reads as it did. -/
def headPrintsUptoRow : OpenClaim := { program := "ytlanefdeeanpnaa", sum := "a6ca996a6580dc0bba05fb1ddbc15bbf6f2339d23df8c8f566316fbe444a40dd", func := "indelible/indeliblelaw37.HeadPrints", spec := "headPrints", inPlace := ["internal/abi.NoEscape"], unfollowed := true, recurses := true, apart := false, narrowed := true }
def HeadPrintsUptoSaid : Prop := headPrintsUptoRow.holds Try.pinned (OpenSpec.upto headPrintsSpec)

/-- 'indeliblelaw37.HeadRows', WHERE WHAT IT READS IS OF BULK AT MOST 1048576: true; the input reads as it did. -/
def headRowsUptoRow : OpenClaim := { program := "ytlanefdeeanpnaa", sum := "a6ca996a6580dc0bba05fb1ddbc15bbf6f2339d23df8c8f566316fbe444a40dd", func := "indelible/indeliblelaw37.HeadRows", spec := "headRows", inPlace := ["internal/abi.NoEscape"], unfollowed := true, recurses := true, apart := false, narrowed := true }
def HeadRowsUptoSaid : Prop := headRowsUptoRow.holds Try.pinned (OpenSpec.upto headRowsSpec)

/-- 'indeliblelaw37.HeadExact', WHERE WHAT IT READS IS OF BULK AT MOST 1048576: true; the input reads as it did. -/
def headExactUptoRow : OpenClaim := { program := "ytlanefdeeanpnaa", sum := "a6ca996a6580dc0bba05fb1ddbc15bbf6f2339d23df8c8f566316fbe444a40dd", func := "indelible/indeliblelaw37.HeadExact", spec := "headExact", inPlace := ["internal/abi.NoEscape"], unfollowed := true, recurses := true, apart := false, narrowed := true }
def HeadExactUptoSaid : Prop := headExactUptoRow.holds Try.pinned (OpenSpec.upto headExactSpec)

/-- 'indeliblelaw37.HeadParts', WHERE WHAT IT READS IS OF BULK AT MOST 1048576: true; the input reads as it did. -/
def headPartsUptoRow : OpenClaim := { program := "ytlanefdeeanpnaa", sum := "a6ca996a6580dc0bba05fb1ddbc15bbf6f2339d23df8c8f566316fbe444a40dd", func := "indelible/indeliblelaw37.HeadParts", spec := "headParts", inPlace := ["internal/abi.NoEscape"], unfollowed := true, recurses := true, apart := false, narrowed := true }
def HeadPartsUptoSaid : Prop := headPartsUptoRow.holds Try.pinned (OpenSpec.upto headPartsSpec)

/-- 'indeliblelaw37.HeadWorn', WHERE WHAT IT READS IS OF BULK AT MOST 1048576: true; the input reads as it did. -/
def headWornUptoRow : OpenClaim := { program := "ytlanefdeeanpnaa", sum := "a6ca996a6580dc0bba05fb1ddbc15bbf6f2339d23df8c8f566316fbe444a40dd", func := "indelible/indeliblelaw37.HeadWorn", spec := "headWorn", inPlace := ["internal/abi.NoEscape"], unfollowed := true, recurses := true, apart := false, narrowed := true }
def HeadWornUptoSaid : Prop := headWornUptoRow.holds Try.pinned (OpenSpec.upto headWornSpec)

/-- 'indeliblelaw07.RasterWinds', WHERE WHAT IT READS IS OF BULK AT MOST 1048576: true; the input reads as it did. -/
def rasterWindsUptoRow : OpenClaim := { program := "ytlanefdeeanpnaa", sum := "a6ca996a6580dc0bba05fb1ddbc15bbf6f2339d23df8c8f566316fbe444a40dd", func := "indelible/indeliblelaw07.RasterWinds", spec := "rasterWinds", inPlace := ["internal/abi.NoEscape"], apart := false, narrowed := true }
def RasterWindsUptoSaid : Prop := rasterWindsUptoRow.holds Try.pinned (OpenSpec.upto rasterWindsSpec)

/-- 'indeliblelaw07.RasterDraws', WHERE WHAT IT READS IS OF BULK AT MOST 1048576: true; the input reads as it did. -/
def rasterDrawsUptoRow : OpenClaim := { program := "ytlanefdeeanpnaa", sum := "a6ca996a6580dc0bba05fb1ddbc15bbf6f2339d23df8c8f566316fbe444a40dd", func := "indelible/indeliblelaw07.RasterDraws", spec := "rasterDraws", inPlace := ["internal/abi.NoEscape"], apart := false, narrowed := true }
def RasterDrawsUptoSaid : Prop := rasterDrawsUptoRow.holds Try.pinned (OpenSpec.upto rasterDrawsSpec)

/-- 'indeliblelaw07.RasterSums', WHERE WHAT IT READS IS OF BULK AT MOST 1048576: true; the input reads as it did. -/
def rasterSumsUptoRow : OpenClaim := { program := "ytlanefdeeanpnaa", sum := "a6ca996a6580dc0bba05fb1ddbc15bbf6f2339d23df8c8f566316fbe444a40dd", func := "indelible/indeliblelaw07.RasterSums", spec := "rasterSums", inPlace := ["internal/abi.NoEscape"], apart := false, narrowed := true }
def RasterSumsUptoSaid : Prop := rasterSumsUptoRow.holds Try.pinned (OpenSpec.upto rasterSumsSpec)

/-- 'indeliblelaw07.RasterMoves', WHERE WHAT IT READS IS OF BULK AT MOST 1048576: true; the input reads as it did. -/
def rasterMovesUptoRow : OpenClaim := { program := "ytlanefdeeanpnaa", sum := "a6ca996a6580dc0bba05fb1ddbc15bbf6f2339d23df8c8f566316fbe444a40dd", func := "indelible/indeliblelaw07.RasterMoves", spec := "rasterMoves", inPlace := ["internal/abi.NoEscape"], apart := false, narrowed := true }
def RasterMovesUptoSaid : Prop := rasterMovesUptoRow.holds Try.pinned (OpenSpec.upto rasterMovesSpec)

/-- 'indeliblelaw07.RasterBoxes', WHERE WHAT IT READS IS OF BULK AT MOST 1048576: true; the input reads as it did. -/
def rasterBoxesUptoRow : OpenClaim := { program := "ytlanefdeeanpnaa", sum := "a6ca996a6580dc0bba05fb1ddbc15bbf6f2339d23df8c8f566316fbe444a40dd", func := "indelible/indeliblelaw07.RasterBoxes", spec := "rasterBoxes", inPlace := ["internal/abi.NoEscape"], apart := false, narrowed := true }
def RasterBoxesUptoSaid : Prop := rasterBoxesUptoRow.holds Try.pinned (OpenSpec.upto rasterBoxesSpec)

end Rows
end Go.Proofs.Ytlanefdeeanpnaa
