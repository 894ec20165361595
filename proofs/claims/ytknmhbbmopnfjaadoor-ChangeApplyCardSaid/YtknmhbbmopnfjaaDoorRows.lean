/-
  NARROWER THAN 'FOR EVERY INPUT', by the rows' own cells (each row's printed sentence says how): ChangeProper: laid · ChangeCheck: laid · ChangeSingle: laid · ChangeScroll: laid · ChangeApply: laid · ChangeUndo: laid · ChangeConcatenation: laid · ChangeEqual: laid · ChangeExchange: laid · ChangeNothing: laid.
  DERIVED. THE GIVEN ROWS OF THIS SEAT. 10 by the template 'for every input the law returns true; each argument reads behind the call as it read before'; 0 by the template 'total and deterministic' (their statements: YtknmhbbmopnfjaaDoorTotals.lean).
  GIVEN WITH THE SEED: the statements are not yours to turn. If you find one false, say at which input.
  Laid BY PROGRAM, IN A SANDBOX (cutbox-rows.mjs): the forced cells as the released guide's own fill.sh prints them over the translation eb8ae365eaed858c… (all of the seat's roots in one cut). By AI agents, Wed Nov 11 2026. No macro, syntax, notation, axiom, sorry.
-/
import Derived.Test.YtknmhbbmopnfjaaDoorChecked
import GoSem.PinnedTables
import GoSem.Claim
import GoSem.ClaimJoined
import GoSem.ClaimMapViews
import Derived.JoinedTies
import Derived.KernelRfl
namespace Go.Proofs.YtknmhbbmopnfjaaDoor
/- THE CELL 'sum', in the pinned program and in every row, IS THE sha256 OF THE DUMP (.gsa) THAT YtknmhbbmopnfjaaDoorProg.lean LOADS. Nothing in Lean hashes anything: it is a label: what it is worth is what the hold of that sum in a sandbox is worth. -/
noncomputable def Tryd.pinned : Pinned := { name := "ytknmhbbmopnfjaadoor", sum := "eb8ae365eaed858ce2cf48812a5ab879d1095db12a5b4063904dbb61f7223959", checked := Tryd.checked }
namespace Rows
def none {H : Type} : Left H := { results := [], args := [] }

/- WHAT THE LISTED PACKAGE-LEVEL VARIABLES READ AS WHEN THE CALL BEGINS. Each datum BY PROGRAM (the guide's laid-datum.mjs) off the statement by which the dump's own 'gosem.cut.vars' lays the variable. In a bare row this is a premise. The card (YtknmhbbmopnfjaaDoorCards.lean) ties it to the program's text. -/
def laid_unicode_utf8_acceptRanges {H : Type} : DataW H := .agg [.agg [.lit (.int .u8 128), .lit (.int .u8 191)], .agg [.lit (.int .u8 160), .lit (.int .u8 191)], .agg [.lit (.int .u8 128), .lit (.int .u8 159)], .agg [.lit (.int .u8 144), .lit (.int .u8 191)], .agg [.lit (.int .u8 128), .lit (.int .u8 143)], .agg [.lit (.int .u8 0), .lit (.int .u8 0)], .agg [.lit (.int .u8 0), .lit (.int .u8 0)], .agg [.lit (.int .u8 0), .lit (.int .u8 0)], .agg [.lit (.int .u8 0), .lit (.int .u8 0)], .agg [.lit (.int .u8 0), .lit (.int .u8 0)], .agg [.lit (.int .u8 0), .lit (.int .u8 0)], .agg [.lit (.int .u8 0), .lit (.int .u8 0)], .agg [.lit (.int .u8 0), .lit (.int .u8 0)], .agg [.lit (.int .u8 0), .lit (.int .u8 0)], .agg [.lit (.int .u8 0), .lit (.int .u8 0)], .agg [.lit (.int .u8 0), .lit (.int .u8 0)]]
/-- One of Go's own tables, pinned by name: the form's constant. -/
def laid_unicode_utf8_first : DataW Unit := Go.Pinned.utf8First

/-- 'narratorlaw19.ChangeProper': WHATEVER THE INPUT: true; the input reads as it did. -/
def changeProperSpec : ChangeSpec := { name := "changeProper", fn := fun _ => fun
  | [d1, d2] => { results := [.lit (.bool true)], args := [d1, d2] }
  | _ => none }
def changeProperRow : OpenClaim := { program := "ytknmhbbmopnfjaadoor", sum := "eb8ae365eaed858ce2cf48812a5ab879d1095db12a5b4063904dbb61f7223959", func := "narrator/narratorlaw19.ChangeProper", spec := "changeProper", inPlace := ["internal/abi.NoEscape"], unfollowed := true, recurses := true, named := ["unicode/utf8.first", "unicode/utf8.acceptRanges"], apart := false, laid := [("unicode/utf8.acceptRanges", laid_unicode_utf8_acceptRanges), ("unicode/utf8.first", laid_unicode_utf8_first)] }
def ChangeProperSaid : Prop := changeProperRow.holds Tryd.pinned (OpenSpec.ofChange changeProperSpec)

/-- ITS FALSE NEIGHBOUR: 'it returns false'. Refute it at one input. -/
def changeProperWrong : ChangeSpec := { name := "changeProper", fn := fun _ => fun
  | [d1, d2] => { results := [.lit (.bool false)], args := [d1, d2] }
  | _ => none }
def ChangeProperWrongFalsely : Prop := changeProperRow.holds Tryd.pinned (OpenSpec.ofChange changeProperWrong)

/-- 'narratorlaw19.ChangeCheck': WHATEVER THE INPUT: true; the input reads as it did. -/
def changeCheckSpec : ChangeSpec := { name := "changeCheck", fn := fun _ => fun
  | [d1, d2] => { results := [.lit (.bool true)], args := [d1, d2] }
  | _ => none }
def changeCheckRow : OpenClaim := { program := "ytknmhbbmopnfjaadoor", sum := "eb8ae365eaed858ce2cf48812a5ab879d1095db12a5b4063904dbb61f7223959", func := "narrator/narratorlaw19.ChangeCheck", spec := "changeCheck", inPlace := ["internal/abi.NoEscape"], unfollowed := true, recurses := true, named := ["unicode/utf8.first", "unicode/utf8.acceptRanges"], apart := false, laid := [("unicode/utf8.acceptRanges", laid_unicode_utf8_acceptRanges), ("unicode/utf8.first", laid_unicode_utf8_first)] }
def ChangeCheckSaid : Prop := changeCheckRow.holds Tryd.pinned (OpenSpec.ofChange changeCheckSpec)

/-- ITS FALSE NEIGHBOUR: 'it returns false'. Refute it at one input. -/
def changeCheckWrong : ChangeSpec := { name := "changeCheck", fn := fun _ => fun
  | [d1, d2] => { results := [.lit (.bool false)], args := [d1, d2] }
  | _ => none }
def ChangeCheckWrongFalsely : Prop := changeCheckRow.holds Tryd.pinned (OpenSpec.ofChange changeCheckWrong)

/-- 'narratorlaw19.ChangeSingle': WHATEVER THE INPUT: true; the input reads as it did. -/
def changeSingleSpec : ChangeSpec := { name := "changeSingle", fn := fun _ => fun
  | [d1, d2] => { results := [.lit (.bool true)], args := [d1, d2] }
  | _ => none }
def changeSingleRow : OpenClaim := { program := "ytknmhbbmopnfjaadoor", sum := "eb8ae365eaed858ce2cf48812a5ab879d1095db12a5b4063904dbb61f7223959", func := "narrator/narratorlaw19.ChangeSingle", spec := "changeSingle", inPlace := ["internal/abi.NoEscape"], unfollowed := true, recurses := true, named := ["unicode/utf8.first", "unicode/utf8.acceptRanges"], apart := false, laid := [("unicode/utf8.acceptRanges", laid_unicode_utf8_acceptRanges), ("unicode/utf8.first", laid_unicode_utf8_first)] }
def ChangeSingleSaid : Prop := changeSingleRow.holds Tryd.pinned (OpenSpec.ofChange changeSingleSpec)

/-- ITS FALSE NEIGHBOUR: 'it returns false'. Refute it at one input. -/
def changeSingleWrong : ChangeSpec := { name := "changeSingle", fn := fun _ => fun
  | [d1, d2] => { results := [.lit (.bool false)], args := [d1, d2] }
  | _ => none }
def ChangeSingleWrongFalsely : Prop := changeSingleRow.holds Tryd.pinned (OpenSpec.ofChange changeSingleWrong)

/-- 'narratorlaw19.ChangeScroll': WHATEVER THE INPUT: true; the input reads as it did. -/
def changeScrollSpec : ChangeSpec := { name := "changeScroll", fn := fun _ => fun
  | [d1, d2, d3, d4] => { results := [.lit (.bool true)], args := [d1, d2, d3, d4] }
  | _ => none }
def changeScrollRow : OpenClaim := { program := "ytknmhbbmopnfjaadoor", sum := "eb8ae365eaed858ce2cf48812a5ab879d1095db12a5b4063904dbb61f7223959", func := "narrator/narratorlaw19.ChangeScroll", spec := "changeScroll", inPlace := ["internal/abi.NoEscape"], unfollowed := true, recurses := true, named := ["unicode/utf8.first", "unicode/utf8.acceptRanges"], apart := false, laid := [("unicode/utf8.acceptRanges", laid_unicode_utf8_acceptRanges), ("unicode/utf8.first", laid_unicode_utf8_first)] }
def ChangeScrollSaid : Prop := changeScrollRow.holds Tryd.pinned (OpenSpec.ofChange changeScrollSpec)

/-- ITS FALSE NEIGHBOUR: 'it returns false'. Refute it at one input. -/
def changeScrollWrong : ChangeSpec := { name := "changeScroll", fn := fun _ => fun
  | [d1, d2, d3, d4] => { results := [.lit (.bool false)], args := [d1, d2, d3, d4] }
  | _ => none }
def ChangeScrollWrongFalsely : Prop := changeScrollRow.holds Tryd.pinned (OpenSpec.ofChange changeScrollWrong)

/-- 'narratorlaw19.ChangeApply': WHATEVER THE INPUT: true; the input reads as it did. -/
def changeApplySpec : ChangeSpec := { name := "changeApply", fn := fun _ => fun
  | [d1, d2] => { results := [.lit (.bool true)], args := [d1, d2] }
  | _ => none }
def changeApplyRow : OpenClaim := { program := "ytknmhbbmopnfjaadoor", sum := "eb8ae365eaed858ce2cf48812a5ab879d1095db12a5b4063904dbb61f7223959", func := "narrator/narratorlaw19.ChangeApply", spec := "changeApply", inPlace := ["internal/abi.NoEscape"], unfollowed := true, recurses := true, named := ["unicode/utf8.first", "unicode/utf8.acceptRanges"], apart := false, laid := [("unicode/utf8.acceptRanges", laid_unicode_utf8_acceptRanges), ("unicode/utf8.first", laid_unicode_utf8_first)] }
def ChangeApplySaid : Prop := changeApplyRow.holds Tryd.pinned (OpenSpec.ofChange changeApplySpec)

/-- ITS FALSE NEIGHBOUR: 'it returns false'. Refute it at one input. -/
def changeApplyWrong : ChangeSpec := { name := "changeApply", fn := fun _ => fun
  | [d1, d2] => { results := [.lit (.bool false)], args := [d1, d2] }
  | _ => none }
def ChangeApplyWrongFalsely : Prop := changeApplyRow.holds Tryd.pinned (OpenSpec.ofChange changeApplyWrong)

/-- 'narratorlaw19.ChangeUndo': WHATEVER THE INPUT: true; the input reads as it did. -/
def changeUndoSpec : ChangeSpec := { name := "changeUndo", fn := fun _ => fun
  | [d1, d2] => { results := [.lit (.bool true)], args := [d1, d2] }
  | _ => none }
def changeUndoRow : OpenClaim := { program := "ytknmhbbmopnfjaadoor", sum := "eb8ae365eaed858ce2cf48812a5ab879d1095db12a5b4063904dbb61f7223959", func := "narrator/narratorlaw19.ChangeUndo", spec := "changeUndo", inPlace := ["internal/abi.NoEscape"], unfollowed := true, recurses := true, named := ["unicode/utf8.first", "unicode/utf8.acceptRanges"], apart := false, laid := [("unicode/utf8.acceptRanges", laid_unicode_utf8_acceptRanges), ("unicode/utf8.first", laid_unicode_utf8_first)] }
def ChangeUndoSaid : Prop := changeUndoRow.holds Tryd.pinned (OpenSpec.ofChange changeUndoSpec)

/-- ITS FALSE NEIGHBOUR: 'it returns false'. Refute it at one input. -/
def changeUndoWrong : ChangeSpec := { name := "changeUndo", fn := fun _ => fun
  | [d1, d2] => { results := [.lit (.bool false)], args := [d1, d2] }
  | _ => none }
def ChangeUndoWrongFalsely : Prop := changeUndoRow.holds Tryd.pinned (OpenSpec.ofChange changeUndoWrong)

/-- 'narratorlaw19.ChangeConcatenation': WHATEVER THE INPUT: true; the input reads as it did. -/
def changeConcatenationSpec : ChangeSpec := { name := "changeConcatenation", fn := fun _ => fun
  | [d1, d2, d3] => { results := [.lit (.bool true)], args := [d1, d2, d3] }
  | _ => none }
def changeConcatenationRow : OpenClaim := { program := "ytknmhbbmopnfjaadoor", sum := "eb8ae365eaed858ce2cf48812a5ab879d1095db12a5b4063904dbb61f7223959", func := "narrator/narratorlaw19.ChangeConcatenation", spec := "changeConcatenation", inPlace := ["internal/abi.NoEscape"], unfollowed := true, recurses := true, named := ["unicode/utf8.first", "unicode/utf8.acceptRanges"], apart := false, laid := [("unicode/utf8.acceptRanges", laid_unicode_utf8_acceptRanges), ("unicode/utf8.first", laid_unicode_utf8_first)] }
def ChangeConcatenationSaid : Prop := changeConcatenationRow.holds Tryd.pinned (OpenSpec.ofChange changeConcatenationSpec)

/-- ITS FALSE NEIGHBOUR: 'it returns false'. Refute it at one input. -/
def changeConcatenationWrong : ChangeSpec := { name := "changeConcatenation", fn := fun _ => fun
  | [d1, d2, d3] => { results := [.lit (.bool false)], args := [d1, d2, d3] }
  | _ => none }
def ChangeConcatenationWrongFalsely : Prop := changeConcatenationRow.holds Tryd.pinned (OpenSpec.ofChange changeConcatenationWrong)

/-- 'narratorlaw19.ChangeEqual': WHATEVER THE INPUT: true; the input reads as it did. -/
def changeEqualSpec : ChangeSpec := { name := "changeEqual", fn := fun _ => fun
  | [d1, d2] => { results := [.lit (.bool true)], args := [d1, d2] }
  | _ => none }
def changeEqualRow : OpenClaim := { program := "ytknmhbbmopnfjaadoor", sum := "eb8ae365eaed858ce2cf48812a5ab879d1095db12a5b4063904dbb61f7223959", func := "narrator/narratorlaw19.ChangeEqual", spec := "changeEqual", inPlace := ["internal/abi.NoEscape"], unfollowed := true, recurses := true, named := ["unicode/utf8.first", "unicode/utf8.acceptRanges"], apart := false, laid := [("unicode/utf8.acceptRanges", laid_unicode_utf8_acceptRanges), ("unicode/utf8.first", laid_unicode_utf8_first)] }
def ChangeEqualSaid : Prop := changeEqualRow.holds Tryd.pinned (OpenSpec.ofChange changeEqualSpec)

/-- ITS FALSE NEIGHBOUR: 'it returns false'. Refute it at one input. -/
def changeEqualWrong : ChangeSpec := { name := "changeEqual", fn := fun _ => fun
  | [d1, d2] => { results := [.lit (.bool false)], args := [d1, d2] }
  | _ => none }
def ChangeEqualWrongFalsely : Prop := changeEqualRow.holds Tryd.pinned (OpenSpec.ofChange changeEqualWrong)

/-- 'narratorlaw19.ChangeExchange': WHATEVER THE INPUT: true; the input reads as it did. -/
def changeExchangeSpec : ChangeSpec := { name := "changeExchange", fn := fun _ => fun
  | [d1, d2, d3] => { results := [.lit (.bool true)], args := [d1, d2, d3] }
  | _ => none }
def changeExchangeRow : OpenClaim := { program := "ytknmhbbmopnfjaadoor", sum := "eb8ae365eaed858ce2cf48812a5ab879d1095db12a5b4063904dbb61f7223959", func := "narrator/narratorlaw19.ChangeExchange", spec := "changeExchange", inPlace := ["internal/abi.NoEscape"], unfollowed := true, recurses := true, named := ["unicode/utf8.first", "unicode/utf8.acceptRanges"], apart := false, laid := [("unicode/utf8.acceptRanges", laid_unicode_utf8_acceptRanges), ("unicode/utf8.first", laid_unicode_utf8_first)] }
def ChangeExchangeSaid : Prop := changeExchangeRow.holds Tryd.pinned (OpenSpec.ofChange changeExchangeSpec)

/-- ITS FALSE NEIGHBOUR: 'it returns false'. Refute it at one input. -/
def changeExchangeWrong : ChangeSpec := { name := "changeExchange", fn := fun _ => fun
  | [d1, d2, d3] => { results := [.lit (.bool false)], args := [d1, d2, d3] }
  | _ => none }
def ChangeExchangeWrongFalsely : Prop := changeExchangeRow.holds Tryd.pinned (OpenSpec.ofChange changeExchangeWrong)

/-- 'narratorlaw19.ChangeNothing': WHATEVER THE INPUT: true; the input reads as it did. -/
def changeNothingSpec : ChangeSpec := { name := "changeNothing", fn := fun _ => fun
  | [d] => { results := [.lit (.bool true)], args := [d] }
  | _ => none }
def changeNothingRow : OpenClaim := { program := "ytknmhbbmopnfjaadoor", sum := "eb8ae365eaed858ce2cf48812a5ab879d1095db12a5b4063904dbb61f7223959", func := "narrator/narratorlaw19.ChangeNothing", spec := "changeNothing", inPlace := ["internal/abi.NoEscape"], unfollowed := true, recurses := true, named := ["unicode/utf8.first", "unicode/utf8.acceptRanges"], apart := false, laid := [("unicode/utf8.acceptRanges", laid_unicode_utf8_acceptRanges), ("unicode/utf8.first", laid_unicode_utf8_first)] }
def ChangeNothingSaid : Prop := changeNothingRow.holds Tryd.pinned (OpenSpec.ofChange changeNothingSpec)

/-- ITS FALSE NEIGHBOUR: 'it returns false'. Refute it at one input. -/
def changeNothingWrong : ChangeSpec := { name := "changeNothing", fn := fun _ => fun
  | [d] => { results := [.lit (.bool false)], args := [d] }
  | _ => none }
def ChangeNothingWrongFalsely : Prop := changeNothingRow.holds Tryd.pinned (OpenSpec.ofChange changeNothingWrong)

/- THE SECOND FORM. 'bulk': how many values and letters a reading holds, each counted each time it is reached (what is shared counts as often as it is met; a slice's spare places count too). A statement '..UptoSaid' is the law's where the arguments, and the package variables that the reading takes, are together of bulk at most 1048576: NARROWER than '..Said'. Prove '..Said' where nothing that the law and all that it calls make is longer than what came in: it says more and counts as full. Else prove '..UptoSaid'. A law counts once. -/
mutual
def uptoBulk {H : Type} : DataW H → Nat
  | .lit (.string bytes) => bytes.length + 1
  | .lit _ => 1
  | .nil => 1
  | .ptr d => uptoBulk d + 1
  | .slice elems spare => uptoBulkAll elems + uptoBulkAll spare + 1
  | .agg parts => uptoBulkAll parts + 1
  | .iface _ d => uptoBulk d + 1
  | .map entries => uptoBulkEntries entries + 1
  | .held _ => 1
def uptoBulkAll {H : Type} : List (DataW H) → Nat
  | [] => 0
  | d :: r => uptoBulk d + uptoBulkAll r
def uptoBulkEntries {H : Type} : List (Lit × DataW H) → Nat
  | [] => 0
  | x :: r => uptoBulkEntry x + uptoBulkEntries r
def uptoBulkEntry {H : Type} : Lit × DataW H → Nat
  | (.string bytes, d) => bytes.length + uptoBulk d + 1
  | (_, d) => uptoBulk d + 1
 end
def uptoSmall : (H : Type) → List (DataW H) → Bool := fun _ ds => decide (uptoBulkAll ds ≤ 1048576)
def OpenSpec.upto (s : _root_.Go.ChangeSpec) : _root_.Go.OpenSpec := { _root_.Go.OpenSpec.ofChange s with cond := some uptoSmall }

/-- 'narratorlaw19.ChangeProper', WHERE WHAT IT READS IS OF BULK AT MOST 1048576: true; the input reads as it did. -/
def changeProperUptoRow : OpenClaim := { program := "ytknmhbbmopnfjaadoor", sum := "eb8ae365eaed858ce2cf48812a5ab879d1095db12a5b4063904dbb61f7223959", func := "narrator/narratorlaw19.ChangeProper", spec := "changeProper", inPlace := ["internal/abi.NoEscape"], unfollowed := true, recurses := true, named := ["unicode/utf8.first", "unicode/utf8.acceptRanges"], apart := false, laid := [("unicode/utf8.acceptRanges", laid_unicode_utf8_acceptRanges), ("unicode/utf8.first", laid_unicode_utf8_first)], narrowed := true }
def ChangeProperUptoSaid : Prop := changeProperUptoRow.holds Tryd.pinned (OpenSpec.upto changeProperSpec)

/-- 'narratorlaw19.ChangeCheck', WHERE WHAT IT READS IS OF BULK AT MOST 1048576: true; the input reads as it did. -/
def changeCheckUptoRow : OpenClaim := { program := "ytknmhbbmopnfjaadoor", sum := "eb8ae365eaed858ce2cf48812a5ab879d1095db12a5b4063904dbb61f7223959", func := "narrator/narratorlaw19.ChangeCheck", spec := "changeCheck", inPlace := ["internal/abi.NoEscape"], unfollowed := true, recurses := true, named := ["unicode/utf8.first", "unicode/utf8.acceptRanges"], apart := false, laid := [("unicode/utf8.acceptRanges", laid_unicode_utf8_acceptRanges), ("unicode/utf8.first", laid_unicode_utf8_first)], narrowed := true }
def ChangeCheckUptoSaid : Prop := changeCheckUptoRow.holds Tryd.pinned (OpenSpec.upto changeCheckSpec)

/-- 'narratorlaw19.ChangeSingle', WHERE WHAT IT READS IS OF BULK AT MOST 1048576: true; the input reads as it did. -/
def changeSingleUptoRow : OpenClaim := { program := "ytknmhbbmopnfjaadoor", sum := "eb8ae365eaed858ce2cf48812a5ab879d1095db12a5b4063904dbb61f7223959", func := "narrator/narratorlaw19.ChangeSingle", spec := "changeSingle", inPlace := ["internal/abi.NoEscape"], unfollowed := true, recurses := true, named := ["unicode/utf8.first", "unicode/utf8.acceptRanges"], apart := false, laid := [("unicode/utf8.acceptRanges", laid_unicode_utf8_acceptRanges), ("unicode/utf8.first", laid_unicode_utf8_first)], narrowed := true }
def ChangeSingleUptoSaid : Prop := changeSingleUptoRow.holds Tryd.pinned (OpenSpec.upto changeSingleSpec)

/-- 'narratorlaw19.ChangeScroll', WHERE WHAT IT READS IS OF BULK AT MOST 1048576: true; the input reads as it did. -/
def changeScrollUptoRow : OpenClaim := { program := "ytknmhbbmopnfjaadoor", sum := "eb8ae365eaed858ce2cf48812a5ab879d1095db12a5b4063904dbb61f7223959", func := "narrator/narratorlaw19.ChangeScroll", spec := "changeScroll", inPlace := ["internal/abi.NoEscape"], unfollowed := true, recurses := true, named := ["unicode/utf8.first", "unicode/utf8.acceptRanges"], apart := false, laid := [("unicode/utf8.acceptRanges", laid_unicode_utf8_acceptRanges), ("unicode/utf8.first", laid_unicode_utf8_first)], narrowed := true }
def ChangeScrollUptoSaid : Prop := changeScrollUptoRow.holds Tryd.pinned (OpenSpec.upto changeScrollSpec)

/-- 'narratorlaw19.ChangeApply', WHERE WHAT IT READS IS OF BULK AT MOST 1048576: true; the input reads as it did. -/
def changeApplyUptoRow : OpenClaim := { program := "ytknmhbbmopnfjaadoor", sum := "eb8ae365eaed858ce2cf48812a5ab879d1095db12a5b4063904dbb61f7223959", func := "narrator/narratorlaw19.ChangeApply", spec := "changeApply", inPlace := ["internal/abi.NoEscape"], unfollowed := true, recurses := true, named := ["unicode/utf8.first", "unicode/utf8.acceptRanges"], apart := false, laid := [("unicode/utf8.acceptRanges", laid_unicode_utf8_acceptRanges), ("unicode/utf8.first", laid_unicode_utf8_first)], narrowed := true }
def ChangeApplyUptoSaid : Prop := changeApplyUptoRow.holds Tryd.pinned (OpenSpec.upto changeApplySpec)

/-- 'narratorlaw19.ChangeUndo', WHERE WHAT IT READS IS OF BULK AT MOST 1048576: true; the input reads as it did. -/
def changeUndoUptoRow : OpenClaim := { program := "ytknmhbbmopnfjaadoor", sum := "eb8ae365eaed858ce2cf48812a5ab879d1095db12a5b4063904dbb61f7223959", func := "narrator/narratorlaw19.ChangeUndo", spec := "changeUndo", inPlace := ["internal/abi.NoEscape"], unfollowed := true, recurses := true, named := ["unicode/utf8.first", "unicode/utf8.acceptRanges"], apart := false, laid := [("unicode/utf8.acceptRanges", laid_unicode_utf8_acceptRanges), ("unicode/utf8.first", laid_unicode_utf8_first)], narrowed := true }
def ChangeUndoUptoSaid : Prop := changeUndoUptoRow.holds Tryd.pinned (OpenSpec.upto changeUndoSpec)

/-- 'narratorlaw19.ChangeConcatenation', WHERE WHAT IT READS IS OF BULK AT MOST 1048576: true; the input reads as it did. -/
def changeConcatenationUptoRow : OpenClaim := { program := "ytknmhbbmopnfjaadoor", sum := "eb8ae365eaed858ce2cf48812a5ab879d1095db12a5b4063904dbb61f7223959", func := "narrator/narratorlaw19.ChangeConcatenation", spec := "changeConcatenation", inPlace := ["internal/abi.NoEscape"], unfollowed := true, recurses := true, named := ["unicode/utf8.first", "unicode/utf8.acceptRanges"], apart := false, laid := [("unicode/utf8.acceptRanges", laid_unicode_utf8_acceptRanges), ("unicode/utf8.first", laid_unicode_utf8_first)], narrowed := true }
def ChangeConcatenationUptoSaid : Prop := changeConcatenationUptoRow.holds Tryd.pinned (OpenSpec.upto changeConcatenationSpec)

/-- 'narratorlaw19.ChangeEqual', WHERE WHAT IT READS IS OF BULK AT MOST 1048576: true; the input reads as it did. -/
def changeEqualUptoRow : OpenClaim := { program := "ytknmhbbmopnfjaadoor", sum := "eb8ae365eaed858ce2cf48812a5ab879d1095db12a5b4063904dbb61f7223959", func := "narrator/narratorlaw19.ChangeEqual", spec := "changeEqual", inPlace := ["internal/abi.NoEscape"], unfollowed := true, recurses := true, named := ["unicode/utf8.first", "unicode/utf8.acceptRanges"], apart := false, laid := [("unicode/utf8.acceptRanges", laid_unicode_utf8_acceptRanges), ("unicode/utf8.first", laid_unicode_utf8_first)], narrowed := true }
def ChangeEqualUptoSaid : Prop := changeEqualUptoRow.holds Tryd.pinned (OpenSpec.upto changeEqualSpec)

/-- 'narratorlaw19.ChangeExchange', WHERE WHAT IT READS IS OF BULK AT MOST 1048576: true; the input reads as it did. -/
def changeExchangeUptoRow : OpenClaim := { program := "ytknmhbbmopnfjaadoor", sum := "eb8ae365eaed858ce2cf48812a5ab879d1095db12a5b4063904dbb61f7223959", func := "narrator/narratorlaw19.ChangeExchange", spec := "changeExchange", inPlace := ["internal/abi.NoEscape"], unfollowed := true, recurses := true, named := ["unicode/utf8.first", "unicode/utf8.acceptRanges"], apart := false, laid := [("unicode/utf8.acceptRanges", laid_unicode_utf8_acceptRanges), ("unicode/utf8.first", laid_unicode_utf8_first)], narrowed := true }
def ChangeExchangeUptoSaid : Prop := changeExchangeUptoRow.holds Tryd.pinned (OpenSpec.upto changeExchangeSpec)

/-- 'narratorlaw19.ChangeNothing', WHERE WHAT IT READS IS OF BULK AT MOST 1048576: true; the input reads as it did. -/
def changeNothingUptoRow : OpenClaim := { program := "ytknmhbbmopnfjaadoor", sum := "eb8ae365eaed858ce2cf48812a5ab879d1095db12a5b4063904dbb61f7223959", func := "narrator/narratorlaw19.ChangeNothing", spec := "changeNothing", inPlace := ["internal/abi.NoEscape"], unfollowed := true, recurses := true, named := ["unicode/utf8.first", "unicode/utf8.acceptRanges"], apart := false, laid := [("unicode/utf8.acceptRanges", laid_unicode_utf8_acceptRanges), ("unicode/utf8.first", laid_unicode_utf8_first)], narrowed := true }
def ChangeNothingUptoSaid : Prop := changeNothingUptoRow.holds Tryd.pinned (OpenSpec.upto changeNothingSpec)

end Rows
end Go.Proofs.YtknmhbbmopnfjaaDoor
