/-
  NARROWER THAN 'FOR EVERY INPUT', by the rows' own cells (each row's printed sentence says how): CellrowCheck: laid · CellrowPut: laid · CellrowPutReads: laid · CellrowShift: laid · CellrowFits: laid · CellrowErases: laid · CellrowInsertDelete: laid · CellrowErase: laid · CellrowProper: laid.
  DERIVED. THE GIVEN ROWS OF THIS SEAT. 9 by the template 'for every input the law returns true; each argument reads behind the call as it read before'; 0 by the template 'total and deterministic' (their statements: YtckglkbbdbmdkaaDoorTotals.lean).
  GIVEN WITH THE SEED: the statements are not yours to turn. If you find one false, say at which input.
  Laid BY PROGRAM, IN A SANDBOX (cutbox-rows.mjs): the forced cells as the released guide's own fill.sh prints them over the translation 93a30a3ebaf4db32… (all of the seat's roots in one cut). By AI agents, Wed Nov 11 2026. No macro, syntax, notation, axiom, sorry.
-/
import Derived.Test.YtckglkbbdbmdkaaDoorChecked
import GoSem.PinnedTables
import GoSem.Claim
import GoSem.ClaimJoined
import GoSem.ClaimMapViews
import Derived.JoinedTies
import Derived.KernelRfl
namespace Go.Proofs.YtckglkbbdbmdkaaDoor
/- THE CELL 'sum', in the pinned program and in every row, IS THE sha256 OF THE DUMP (.gsa) THAT YtckglkbbdbmdkaaDoorProg.lean LOADS. Nothing in Lean hashes anything: it is a label: what it is worth is what the hold of that sum in a sandbox is worth. -/
noncomputable def Tryd.pinned : Pinned := { name := "ytckglkbbdbmdkaadoor", sum := "93a30a3ebaf4db326c442b22c2b53253e0d88f2efa2c848cca254987ccf67074", checked := Tryd.checked }
namespace Rows
def none {H : Type} : Left H := { results := [], args := [] }

/- WHAT THE LISTED PACKAGE-LEVEL VARIABLES READ AS WHEN THE CALL BEGINS. Each datum BY PROGRAM (the guide's laid-datum.mjs) off the statement by which the dump's own 'gosem.cut.vars' lays the variable. In a bare row this is a premise. The card (YtckglkbbdbmdkaaDoorCards.lean) ties it to the program's text. -/
def laid_unicode_utf8_acceptRanges {H : Type} : DataW H := .agg [.agg [.lit (.int .u8 128), .lit (.int .u8 191)], .agg [.lit (.int .u8 160), .lit (.int .u8 191)], .agg [.lit (.int .u8 128), .lit (.int .u8 159)], .agg [.lit (.int .u8 144), .lit (.int .u8 191)], .agg [.lit (.int .u8 128), .lit (.int .u8 143)], .agg [.lit (.int .u8 0), .lit (.int .u8 0)], .agg [.lit (.int .u8 0), .lit (.int .u8 0)], .agg [.lit (.int .u8 0), .lit (.int .u8 0)], .agg [.lit (.int .u8 0), .lit (.int .u8 0)], .agg [.lit (.int .u8 0), .lit (.int .u8 0)], .agg [.lit (.int .u8 0), .lit (.int .u8 0)], .agg [.lit (.int .u8 0), .lit (.int .u8 0)], .agg [.lit (.int .u8 0), .lit (.int .u8 0)], .agg [.lit (.int .u8 0), .lit (.int .u8 0)], .agg [.lit (.int .u8 0), .lit (.int .u8 0)], .agg [.lit (.int .u8 0), .lit (.int .u8 0)]]
/-- One of Go's own tables, pinned by name: the form's constant. -/
def laid_unicode_utf8_first : DataW Unit := Go.Pinned.utf8First

/-- 'narratorlaw07.CellrowCheck': WHATEVER THE INPUT: true; the input reads as it did. -/
def cellrowCheckSpec : ChangeSpec := { name := "cellrowCheck", fn := fun _ => fun
  | [d1, d2, d3] => { results := [.lit (.bool true)], args := [d1, d2, d3] }
  | _ => none }
def cellrowCheckRow : OpenClaim := { program := "ytckglkbbdbmdkaadoor", sum := "93a30a3ebaf4db326c442b22c2b53253e0d88f2efa2c848cca254987ccf67074", func := "narrator/narratorlaw07.CellrowCheck", spec := "cellrowCheck", inPlace := ["internal/abi.NoEscape"], unfollowed := true, recurses := true, named := ["unicode/utf8.first", "unicode/utf8.acceptRanges"], apart := false, laid := [("unicode/utf8.acceptRanges", laid_unicode_utf8_acceptRanges), ("unicode/utf8.first", laid_unicode_utf8_first)] }
def CellrowCheckSaid : Prop := cellrowCheckRow.holds Tryd.pinned (OpenSpec.ofChange cellrowCheckSpec)

/-- ITS FALSE NEIGHBOUR: 'it returns false'. Refute it at one input. -/
def cellrowCheckWrong : ChangeSpec := { name := "cellrowCheck", fn := fun _ => fun
  | [d1, d2, d3] => { results := [.lit (.bool false)], args := [d1, d2, d3] }
  | _ => none }
def CellrowCheckWrongFalsely : Prop := cellrowCheckRow.holds Tryd.pinned (OpenSpec.ofChange cellrowCheckWrong)

/-- 'narratorlaw07.CellrowPut': WHATEVER THE INPUT: true; the input reads as it did. -/
def cellrowPutSpec : ChangeSpec := { name := "cellrowPut", fn := fun _ => fun
  | [d1, d2, d3, d4] => { results := [.lit (.bool true)], args := [d1, d2, d3, d4] }
  | _ => none }
def cellrowPutRow : OpenClaim := { program := "ytckglkbbdbmdkaadoor", sum := "93a30a3ebaf4db326c442b22c2b53253e0d88f2efa2c848cca254987ccf67074", func := "narrator/narratorlaw07.CellrowPut", spec := "cellrowPut", inPlace := ["internal/abi.NoEscape"], unfollowed := true, recurses := true, named := ["unicode/utf8.first", "unicode/utf8.acceptRanges"], apart := false, laid := [("unicode/utf8.acceptRanges", laid_unicode_utf8_acceptRanges), ("unicode/utf8.first", laid_unicode_utf8_first)] }
def CellrowPutSaid : Prop := cellrowPutRow.holds Tryd.pinned (OpenSpec.ofChange cellrowPutSpec)

/-- ITS FALSE NEIGHBOUR: 'it returns false'. Refute it at one input. -/
def cellrowPutWrong : ChangeSpec := { name := "cellrowPut", fn := fun _ => fun
  | [d1, d2, d3, d4] => { results := [.lit (.bool false)], args := [d1, d2, d3, d4] }
  | _ => none }
def CellrowPutWrongFalsely : Prop := cellrowPutRow.holds Tryd.pinned (OpenSpec.ofChange cellrowPutWrong)

/-- 'narratorlaw07.CellrowPutReads': WHATEVER THE INPUT: true; the input reads as it did. -/
def cellrowPutReadsSpec : ChangeSpec := { name := "cellrowPutReads", fn := fun _ => fun
  | [d1, d2, d3, d4] => { results := [.lit (.bool true)], args := [d1, d2, d3, d4] }
  | _ => none }
def cellrowPutReadsRow : OpenClaim := { program := "ytckglkbbdbmdkaadoor", sum := "93a30a3ebaf4db326c442b22c2b53253e0d88f2efa2c848cca254987ccf67074", func := "narrator/narratorlaw07.CellrowPutReads", spec := "cellrowPutReads", inPlace := ["internal/abi.NoEscape"], unfollowed := true, recurses := true, named := ["unicode/utf8.first", "unicode/utf8.acceptRanges"], apart := false, laid := [("unicode/utf8.acceptRanges", laid_unicode_utf8_acceptRanges), ("unicode/utf8.first", laid_unicode_utf8_first)] }
def CellrowPutReadsSaid : Prop := cellrowPutReadsRow.holds Tryd.pinned (OpenSpec.ofChange cellrowPutReadsSpec)

/-- ITS FALSE NEIGHBOUR: 'it returns false'. Refute it at one input. -/
def cellrowPutReadsWrong : ChangeSpec := { name := "cellrowPutReads", fn := fun _ => fun
  | [d1, d2, d3, d4] => { results := [.lit (.bool false)], args := [d1, d2, d3, d4] }
  | _ => none }
def CellrowPutReadsWrongFalsely : Prop := cellrowPutReadsRow.holds Tryd.pinned (OpenSpec.ofChange cellrowPutReadsWrong)

/-- 'narratorlaw07.CellrowShift': WHATEVER THE INPUT: true; the input reads as it did. -/
def cellrowShiftSpec : ChangeSpec := { name := "cellrowShift", fn := fun _ => fun
  | [d1, d2, d3, d4] => { results := [.lit (.bool true)], args := [d1, d2, d3, d4] }
  | _ => none }
def cellrowShiftRow : OpenClaim := { program := "ytckglkbbdbmdkaadoor", sum := "93a30a3ebaf4db326c442b22c2b53253e0d88f2efa2c848cca254987ccf67074", func := "narrator/narratorlaw07.CellrowShift", spec := "cellrowShift", inPlace := ["internal/abi.NoEscape"], unfollowed := true, recurses := true, named := ["unicode/utf8.first", "unicode/utf8.acceptRanges"], apart := false, laid := [("unicode/utf8.acceptRanges", laid_unicode_utf8_acceptRanges), ("unicode/utf8.first", laid_unicode_utf8_first)] }
def CellrowShiftSaid : Prop := cellrowShiftRow.holds Tryd.pinned (OpenSpec.ofChange cellrowShiftSpec)

/-- ITS FALSE NEIGHBOUR: 'it returns false'. Refute it at one input. -/
def cellrowShiftWrong : ChangeSpec := { name := "cellrowShift", fn := fun _ => fun
  | [d1, d2, d3, d4] => { results := [.lit (.bool false)], args := [d1, d2, d3, d4] }
  | _ => none }
def CellrowShiftWrongFalsely : Prop := cellrowShiftRow.holds Tryd.pinned (OpenSpec.ofChange cellrowShiftWrong)

/-- 'narratorlaw07.CellrowFits': WHATEVER THE INPUT: true; the input reads as it did. -/
def cellrowFitsSpec : ChangeSpec := { name := "cellrowFits", fn := fun _ => fun
  | [d1, d2, d3] => { results := [.lit (.bool true)], args := [d1, d2, d3] }
  | _ => none }
def cellrowFitsRow : OpenClaim := { program := "ytckglkbbdbmdkaadoor", sum := "93a30a3ebaf4db326c442b22c2b53253e0d88f2efa2c848cca254987ccf67074", func := "narrator/narratorlaw07.CellrowFits", spec := "cellrowFits", inPlace := ["internal/abi.NoEscape"], unfollowed := true, recurses := true, named := ["unicode/utf8.first", "unicode/utf8.acceptRanges"], apart := false, laid := [("unicode/utf8.acceptRanges", laid_unicode_utf8_acceptRanges), ("unicode/utf8.first", laid_unicode_utf8_first)] }
def CellrowFitsSaid : Prop := cellrowFitsRow.holds Tryd.pinned (OpenSpec.ofChange cellrowFitsSpec)

/-- ITS FALSE NEIGHBOUR: 'it returns false'. Refute it at one input. -/
def cellrowFitsWrong : ChangeSpec := { name := "cellrowFits", fn := fun _ => fun
  | [d1, d2, d3] => { results := [.lit (.bool false)], args := [d1, d2, d3] }
  | _ => none }
def CellrowFitsWrongFalsely : Prop := cellrowFitsRow.holds Tryd.pinned (OpenSpec.ofChange cellrowFitsWrong)

/-- 'narratorlaw07.CellrowErases': WHATEVER THE INPUT: true; the input reads as it did. -/
def cellrowErasesSpec : ChangeSpec := { name := "cellrowErases", fn := fun _ => fun
  | [d1, d2, d3, d4, d5] => { results := [.lit (.bool true)], args := [d1, d2, d3, d4, d5] }
  | _ => none }
def cellrowErasesRow : OpenClaim := { program := "ytckglkbbdbmdkaadoor", sum := "93a30a3ebaf4db326c442b22c2b53253e0d88f2efa2c848cca254987ccf67074", func := "narrator/narratorlaw07.CellrowErases", spec := "cellrowErases", inPlace := ["internal/abi.NoEscape"], unfollowed := true, recurses := true, named := ["unicode/utf8.first", "unicode/utf8.acceptRanges"], apart := false, laid := [("unicode/utf8.acceptRanges", laid_unicode_utf8_acceptRanges), ("unicode/utf8.first", laid_unicode_utf8_first)] }
def CellrowErasesSaid : Prop := cellrowErasesRow.holds Tryd.pinned (OpenSpec.ofChange cellrowErasesSpec)

/-- ITS FALSE NEIGHBOUR: 'it returns false'. Refute it at one input. -/
def cellrowErasesWrong : ChangeSpec := { name := "cellrowErases", fn := fun _ => fun
  | [d1, d2, d3, d4, d5] => { results := [.lit (.bool false)], args := [d1, d2, d3, d4, d5] }
  | _ => none }
def CellrowErasesWrongFalsely : Prop := cellrowErasesRow.holds Tryd.pinned (OpenSpec.ofChange cellrowErasesWrong)

/-- 'narratorlaw07.CellrowInsertDelete': WHATEVER THE INPUT: true; the input reads as it did. -/
def cellrowInsertDeleteSpec : ChangeSpec := { name := "cellrowInsertDelete", fn := fun _ => fun
  | [d1, d2, d3, d4, d5] => { results := [.lit (.bool true)], args := [d1, d2, d3, d4, d5] }
  | _ => none }
def cellrowInsertDeleteRow : OpenClaim := { program := "ytckglkbbdbmdkaadoor", sum := "93a30a3ebaf4db326c442b22c2b53253e0d88f2efa2c848cca254987ccf67074", func := "narrator/narratorlaw07.CellrowInsertDelete", spec := "cellrowInsertDelete", inPlace := ["internal/abi.NoEscape"], unfollowed := true, recurses := true, named := ["unicode/utf8.first", "unicode/utf8.acceptRanges"], apart := false, laid := [("unicode/utf8.acceptRanges", laid_unicode_utf8_acceptRanges), ("unicode/utf8.first", laid_unicode_utf8_first)] }
def CellrowInsertDeleteSaid : Prop := cellrowInsertDeleteRow.holds Tryd.pinned (OpenSpec.ofChange cellrowInsertDeleteSpec)

/-- ITS FALSE NEIGHBOUR: 'it returns false'. Refute it at one input. -/
def cellrowInsertDeleteWrong : ChangeSpec := { name := "cellrowInsertDelete", fn := fun _ => fun
  | [d1, d2, d3, d4, d5] => { results := [.lit (.bool false)], args := [d1, d2, d3, d4, d5] }
  | _ => none }
def CellrowInsertDeleteWrongFalsely : Prop := cellrowInsertDeleteRow.holds Tryd.pinned (OpenSpec.ofChange cellrowInsertDeleteWrong)

/-- 'narratorlaw07.CellrowErase': WHATEVER THE INPUT: true; the input reads as it did. -/
def cellrowEraseSpec : ChangeSpec := { name := "cellrowErase", fn := fun _ => fun
  | [d1, d2, d3, d4, d5] => { results := [.lit (.bool true)], args := [d1, d2, d3, d4, d5] }
  | _ => none }
def cellrowEraseRow : OpenClaim := { program := "ytckglkbbdbmdkaadoor", sum := "93a30a3ebaf4db326c442b22c2b53253e0d88f2efa2c848cca254987ccf67074", func := "narrator/narratorlaw07.CellrowErase", spec := "cellrowErase", inPlace := ["internal/abi.NoEscape"], unfollowed := true, recurses := true, named := ["unicode/utf8.first", "unicode/utf8.acceptRanges"], apart := false, laid := [("unicode/utf8.acceptRanges", laid_unicode_utf8_acceptRanges), ("unicode/utf8.first", laid_unicode_utf8_first)] }
def CellrowEraseSaid : Prop := cellrowEraseRow.holds Tryd.pinned (OpenSpec.ofChange cellrowEraseSpec)

/-- ITS FALSE NEIGHBOUR: 'it returns false'. Refute it at one input. -/
def cellrowEraseWrong : ChangeSpec := { name := "cellrowErase", fn := fun _ => fun
  | [d1, d2, d3, d4, d5] => { results := [.lit (.bool false)], args := [d1, d2, d3, d4, d5] }
  | _ => none }
def CellrowEraseWrongFalsely : Prop := cellrowEraseRow.holds Tryd.pinned (OpenSpec.ofChange cellrowEraseWrong)

/-- 'narratorlaw07.CellrowProper': WHATEVER THE INPUT: true; the input reads as it did. -/
def cellrowProperSpec : ChangeSpec := { name := "cellrowProper", fn := fun _ => fun
  | [d1, d2, d3, d4, d5] => { results := [.lit (.bool true)], args := [d1, d2, d3, d4, d5] }
  | _ => none }
def cellrowProperRow : OpenClaim := { program := "ytckglkbbdbmdkaadoor", sum := "93a30a3ebaf4db326c442b22c2b53253e0d88f2efa2c848cca254987ccf67074", func := "narrator/narratorlaw07.CellrowProper", spec := "cellrowProper", inPlace := ["internal/abi.NoEscape"], unfollowed := true, recurses := true, named := ["unicode/utf8.first", "unicode/utf8.acceptRanges"], apart := false, laid := [("unicode/utf8.acceptRanges", laid_unicode_utf8_acceptRanges), ("unicode/utf8.first", laid_unicode_utf8_first)] }
def CellrowProperSaid : Prop := cellrowProperRow.holds Tryd.pinned (OpenSpec.ofChange cellrowProperSpec)

/-- ITS FALSE NEIGHBOUR: 'it returns false'. Refute it at one input. -/
def cellrowProperWrong : ChangeSpec := { name := "cellrowProper", fn := fun _ => fun
  | [d1, d2, d3, d4, d5] => { results := [.lit (.bool false)], args := [d1, d2, d3, d4, d5] }
  | _ => none }
def CellrowProperWrongFalsely : Prop := cellrowProperRow.holds Tryd.pinned (OpenSpec.ofChange cellrowProperWrong)

/- THE SECOND FORM. 'bulk': how many values and letters a reading holds, each counted each time it is reached (what is shared counts as often as it is met; a slice's spare places count too). A statement '..UptoSaid' is the law's where the arguments, and the package variables that the reading takes, are together of bulk at most 1048576: NARROWER than '..Said'. Prove '..Said' where nothing that the law and all that it calls make is longer than what came in: it says more and counts as full. Else prove '..UptoSaid'. A law counts once. -/
mutual
def uptoBulk {H : Type} : DataW H → Nat
  | .lit (.string bytes) => bytes.length + 1
  | .lit _ => 1
  | .nil => 1
  | .ptr d => uptoBulk d + 1
  | .slice elems spare => uptoBulkAll elems + uptoBulkAll spare + 1
  | .agg parts => uptoBulkAll parts + 1
  | .iface _ d => uptoBulk d + 1
  | .map entries => uptoBulkEntries entries + 1
  | .held _ => 1
def uptoBulkAll {H : Type} : List (DataW H) → Nat
  | [] => 0
  | d :: r => uptoBulk d + uptoBulkAll r
def uptoBulkEntries {H : Type} : List (Lit × DataW H) → Nat
  | [] => 0
  | x :: r => uptoBulkEntry x + uptoBulkEntries r
def uptoBulkEntry {H : Type} : Lit × DataW H → Nat
  | (.string bytes, d) => bytes.length + uptoBulk d + 1
  | (_, d) => uptoBulk d + 1
 end
def uptoSmall : (H : Type) → List (DataW H) → Bool := fun _ ds => decide (uptoBulkAll ds ≤ 1048576)
def OpenSpec.upto (s : _root_.Go.ChangeSpec) : _root_.Go.OpenSpec := { _root_.Go.OpenSpec.ofChange s with cond := some uptoSmall }

/-- 'narratorlaw07.CellrowCheck', WHERE WHAT IT READS IS OF BULK AT MOST 1048576: true; the input reads as it did. -/
def cellrowCheckUptoRow : OpenClaim := { program := "ytckglkbbdbmdkaadoor", sum := "93a30a3ebaf4db326c442b22c2b53253e0d88f2efa2c848cca254987ccf67074", func := "narrator/narratorlaw07.CellrowCheck", spec := "cellrowCheck", inPlace := ["internal/abi.NoEscape"], unfollowed := true, recurses := true, named := ["unicode/utf8.first", "unicode/utf8.acceptRanges"], apart := false, laid := [("unicode/utf8.acceptRanges", laid_unicode_utf8_acceptRanges), ("unicode/utf8.first", laid_unicode_utf8_first)], narrowed := true }
def CellrowCheckUptoSaid : Prop := cellrowCheckUptoRow.holds Tryd.pinned (OpenSpec.upto cellrowCheckSpec)

/-- 'narratorlaw07.CellrowPut', WHERE WHAT IT READS IS OF BULK AT MOST 1048576: true; the input reads as it did. -/
def cellrowPutUptoRow : OpenClaim := { program := "ytckglkbbdbmdkaadoor", sum := "93a30a3ebaf4db326c442b22c2b53253e0d88f2efa2c848cca254987ccf67074", func := "narrator/narratorlaw07.CellrowPut", spec := "cellrowPut", inPlace := ["internal/abi.NoEscape"], unfollowed := true, recurses := true, named := ["unicode/utf8.first", "unicode/utf8.acceptRanges"], apart := false, laid := [("unicode/utf8.acceptRanges", laid_unicode_utf8_acceptRanges), ("unicode/utf8.first", laid_unicode_utf8_first)], narrowed := true }
def CellrowPutUptoSaid : Prop := cellrowPutUptoRow.holds Tryd.pinned (OpenSpec.upto cellrowPutSpec)

/-- 'narratorlaw07.CellrowPutReads', WHERE WHAT IT READS IS OF BULK AT MOST 1048576: true; the input reads as it did. -/
def cellrowPutReadsUptoRow : OpenClaim := { program := "ytckglkbbdbmdkaadoor", sum := "93a30a3ebaf4db326c442b22c2b53253e0d88f2efa2c848cca254987ccf67074", func := "narrator/narratorlaw07.CellrowPutReads", spec := "cellrowPutReads", inPlace := ["internal/abi.NoEscape"], unfollowed := true, recurses := true, named := ["unicode/utf8.first", "unicode/utf8.acceptRanges"], apart := false, laid := [("unicode/utf8.acceptRanges", laid_unicode_utf8_acceptRanges), ("unicode/utf8.first", laid_unicode_utf8_first)], narrowed := true }
def CellrowPutReadsUptoSaid : Prop := cellrowPutReadsUptoRow.holds Tryd.pinned (OpenSpec.upto cellrowPutReadsSpec)

/-- 'narratorlaw07.CellrowShift', WHERE WHAT IT READS IS OF BULK AT MOST 1048576: true; the input reads as it did. -/
def cellrowShiftUptoRow : OpenClaim := { program := "ytckglkbbdbmdkaadoor", sum := "93a30a3ebaf4db326c442b22c2b53253e0d88f2efa2c848cca254987ccf67074", func := "narrator/narratorlaw07.CellrowShift", spec := "cellrowShift", inPlace := ["internal/abi.NoEscape"], unfollowed := true, recurses := true, named := ["unicode/utf8.first", "unicode/utf8.acceptRanges"], apart := false, laid := [("unicode/utf8.acceptRanges", laid_unicode_utf8_acceptRanges), ("unicode/utf8.first", laid_unicode_utf8_first)], narrowed := true }
def CellrowShiftUptoSaid : Prop := cellrowShiftUptoRow.holds Tryd.pinned (OpenSpec.upto cellrowShiftSpec)

/-- 'narratorlaw07.CellrowFits', WHERE WHAT IT READS IS OF BULK AT MOST 1048576: true; the input reads as it did. -/
def cellrowFitsUptoRow : OpenClaim := { program := "ytckglkbbdbmdkaadoor", sum := "93a30a3ebaf4db326c442b22c2b53253e0d88f2efa2c848cca254987ccf67074", func := "narrator/narratorlaw07.CellrowFits", spec := "cellrowFits", inPlace := ["internal/abi.NoEscape"], unfollowed := true, recurses := true, named := ["unicode/utf8.first", "unicode/utf8.acceptRanges"], apart := false, laid := [("unicode/utf8.acceptRanges", laid_unicode_utf8_acceptRanges), ("unicode/utf8.first", laid_unicode_utf8_first)], narrowed := true }
def CellrowFitsUptoSaid : Prop := cellrowFitsUptoRow.holds Tryd.pinned (OpenSpec.upto cellrowFitsSpec)

/-- 'narratorlaw07.CellrowErases', WHERE WHAT IT READS IS OF BULK AT MOST 1048576: true; the input reads as it did. -/
def cellrowErasesUptoRow : OpenClaim := { program := "ytckglkbbdbmdkaadoor", sum := "93a30a3ebaf4db326c442b22c2b53253e0d88f2efa2c848cca254987ccf67074", func := "narrator/narratorlaw07.CellrowErases", spec := "cellrowErases", inPlace := ["internal/abi.NoEscape"], unfollowed := true, recurses := true, named := ["unicode/utf8.first", "unicode/utf8.acceptRanges"], apart := false, laid := [("unicode/utf8.acceptRanges", laid_unicode_utf8_acceptRanges), ("unicode/utf8.first", laid_unicode_utf8_first)], narrowed := true }
def CellrowErasesUptoSaid : Prop := cellrowErasesUptoRow.holds Tryd.pinned (OpenSpec.upto cellrowErasesSpec)

/-- 'narratorlaw07.CellrowInsertDelete', WHERE WHAT IT READS IS OF BULK AT MOST 1048576: true; the input reads as it did. -/
def cellrowInsertDeleteUptoRow : OpenClaim := { program := "ytckglkbbdbmdkaadoor", sum := "93a30a3ebaf4db326c442b22c2b53253e0d88f2efa2c848cca254987ccf67074", func := "narrator/narratorlaw07.CellrowInsertDelete", spec := "cellrowInsertDelete", inPlace := ["internal/abi.NoEscape"], unfollowed := true, recurses := true, named := ["unicode/utf8.first", "unicode/utf8.acceptRanges"], apart := false, laid := [("unicode/utf8.acceptRanges", laid_unicode_utf8_acceptRanges), ("unicode/utf8.first", laid_unicode_utf8_first)], narrowed := true }
def CellrowInsertDeleteUptoSaid : Prop := cellrowInsertDeleteUptoRow.holds Tryd.pinned (OpenSpec.upto cellrowInsertDeleteSpec)

/-- 'narratorlaw07.CellrowErase', WHERE WHAT IT READS IS OF BULK AT MOST 1048576: true; the input reads as it did. -/
def cellrowEraseUptoRow : OpenClaim := { program := "ytckglkbbdbmdkaadoor", sum := "93a30a3ebaf4db326c442b22c2b53253e0d88f2efa2c848cca254987ccf67074", func := "narrator/narratorlaw07.CellrowErase", spec := "cellrowErase", inPlace := ["internal/abi.NoEscape"], unfollowed := true, recurses := true, named := ["unicode/utf8.first", "unicode/utf8.acceptRanges"], apart := false, laid := [("unicode/utf8.acceptRanges", laid_unicode_utf8_acceptRanges), ("unicode/utf8.first", laid_unicode_utf8_first)], narrowed := true }
def CellrowEraseUptoSaid : Prop := cellrowEraseUptoRow.holds Tryd.pinned (OpenSpec.upto cellrowEraseSpec)

/-- 'narratorlaw07.CellrowProper', WHERE WHAT IT READS IS OF BULK AT MOST 1048576: true; the input reads as it did. -/
def cellrowProperUptoRow : OpenClaim := { program := "ytckglkbbdbmdkaadoor", sum := "93a30a3ebaf4db326c442b22c2b53253e0d88f2efa2c848cca254987ccf67074", func := "narrator/narratorlaw07.CellrowProper", spec := "cellrowProper", inPlace := ["internal/abi.NoEscape"], unfollowed := true, recurses := true, named := ["unicode/utf8.first", "unicode/utf8.acceptRanges"], apart := false, laid := [("unicode/utf8.acceptRanges", laid_unicode_utf8_acceptRanges), ("unicode/utf8.first", laid_unicode_utf8_first)], narrowed := true }
def CellrowProperUptoSaid : Prop := cellrowProperUptoRow.holds Tryd.pinned (OpenSpec.upto cellrowProperSpec)

end Rows
end Go.Proofs.YtckglkbbdbmdkaaDoor
