/-
  NARROWER THAN 'FOR EVERY INPUT', by the rows' own cells (each row's printed sentence says how): ViewOf: laid · ViewTrims: laid · ViewColumns: laid · ViewEqual: laid · ViewConceals: laid · ViewTexts: laid · ViewRows: laid · ViewCheck: laid · ViewProper: laid.
  DERIVED. THE GIVEN ROWS OF THIS SEAT. 9 by the template 'for every input the law returns true; each argument reads behind the call as it read before'; 0 by the template 'total and deterministic' (their statements: YtmagahmklndcgaaDoorTotals.lean).
  GIVEN WITH THE SEED: the statements are not yours to turn. If you find one false, say at which input.
  Laid BY PROGRAM, IN A SANDBOX (cutbox-rows.mjs): the forced cells as the released guide's own fill.sh prints them over the translation 6f503fdc133f094b… (all of the seat's roots in one cut). By AI agents, Wed Nov 11 2026. No macro, syntax, notation, axiom, sorry.
-/
import Derived.Test.YtmagahmklndcgaaDoorChecked
import GoSem.PinnedTables
import GoSem.Claim
import GoSem.ClaimJoined
import GoSem.ClaimMapViews
import Derived.JoinedTies
import Derived.KernelRfl
namespace Go.Proofs.YtmagahmklndcgaaDoor
/- THE CELL 'sum', in the pinned program and in every row, IS THE sha256 OF THE DUMP (.gsa) THAT YtmagahmklndcgaaDoorProg.lean LOADS. Nothing in Lean hashes anything: it is a label: what it is worth is what the hold of that sum in a sandbox is worth. -/
noncomputable def Tryd.pinned : Pinned := { name := "ytmagahmklndcgaadoor", sum := "6f503fdc133f094b2f7d26bf411f704c4e204f6f2d42070317a659c510576bc4", checked := Tryd.checked }
namespace Rows
def none {H : Type} : Left H := { results := [], args := [] }

/- WHAT THE LISTED PACKAGE-LEVEL VARIABLES READ AS WHEN THE CALL BEGINS. Each datum BY PROGRAM (the guide's laid-datum.mjs) off the statement by which the dump's own 'gosem.cut.vars' lays the variable. In a bare row this is a premise. The card (YtmagahmklndcgaaDoorCards.lean) ties it to the program's text. -/
def laid_unicode_utf8_acceptRanges {H : Type} : DataW H := .agg [.agg [.lit (.int .u8 128), .lit (.int .u8 191)], .agg [.lit (.int .u8 160), .lit (.int .u8 191)], .agg [.lit (.int .u8 128), .lit (.int .u8 159)], .agg [.lit (.int .u8 144), .lit (.int .u8 191)], .agg [.lit (.int .u8 128), .lit (.int .u8 143)], .agg [.lit (.int .u8 0), .lit (.int .u8 0)], .agg [.lit (.int .u8 0), .lit (.int .u8 0)], .agg [.lit (.int .u8 0), .lit (.int .u8 0)], .agg [.lit (.int .u8 0), .lit (.int .u8 0)], .agg [.lit (.int .u8 0), .lit (.int .u8 0)], .agg [.lit (.int .u8 0), .lit (.int .u8 0)], .agg [.lit (.int .u8 0), .lit (.int .u8 0)], .agg [.lit (.int .u8 0), .lit (.int .u8 0)], .agg [.lit (.int .u8 0), .lit (.int .u8 0)], .agg [.lit (.int .u8 0), .lit (.int .u8 0)], .agg [.lit (.int .u8 0), .lit (.int .u8 0)]]
/-- One of Go's own tables, pinned by name: the form's constant. -/
def laid_unicode_utf8_first : DataW Unit := Go.Pinned.utf8First

/-- 'narratorlaw15.ViewOf': WHATEVER THE INPUT: true; the input reads as it did. -/
def viewOfSpec : ChangeSpec := { name := "viewOf", fn := fun _ => fun
  | [d] => { results := [.lit (.bool true)], args := [d] }
  | _ => none }
def viewOfRow : OpenClaim := { program := "ytmagahmklndcgaadoor", sum := "6f503fdc133f094b2f7d26bf411f704c4e204f6f2d42070317a659c510576bc4", func := "narrator/narratorlaw15.ViewOf", spec := "viewOf", unfollowed := true, recurses := true, named := ["unicode/utf8.first", "unicode/utf8.acceptRanges"], apart := false, laid := [("unicode/utf8.acceptRanges", laid_unicode_utf8_acceptRanges), ("unicode/utf8.first", laid_unicode_utf8_first)] }
def ViewOfSaid : Prop := viewOfRow.holds Tryd.pinned (OpenSpec.ofChange viewOfSpec)

/-- ITS FALSE NEIGHBOUR: 'it returns false'. Refute it at one input. -/
def viewOfWrong : ChangeSpec := { name := "viewOf", fn := fun _ => fun
  | [d] => { results := [.lit (.bool false)], args := [d] }
  | _ => none }
def ViewOfWrongFalsely : Prop := viewOfRow.holds Tryd.pinned (OpenSpec.ofChange viewOfWrong)

/-- 'narratorlaw15.ViewTrims': WHATEVER THE INPUT: true; the input reads as it did. -/
def viewTrimsSpec : ChangeSpec := { name := "viewTrims", fn := fun _ => fun
  | [d1, d2] => { results := [.lit (.bool true)], args := [d1, d2] }
  | _ => none }
def viewTrimsRow : OpenClaim := { program := "ytmagahmklndcgaadoor", sum := "6f503fdc133f094b2f7d26bf411f704c4e204f6f2d42070317a659c510576bc4", func := "narrator/narratorlaw15.ViewTrims", spec := "viewTrims", unfollowed := true, recurses := true, named := ["unicode/utf8.first", "unicode/utf8.acceptRanges"], apart := false, laid := [("unicode/utf8.acceptRanges", laid_unicode_utf8_acceptRanges), ("unicode/utf8.first", laid_unicode_utf8_first)] }
def ViewTrimsSaid : Prop := viewTrimsRow.holds Tryd.pinned (OpenSpec.ofChange viewTrimsSpec)

/-- ITS FALSE NEIGHBOUR: 'it returns false'. Refute it at one input. -/
def viewTrimsWrong : ChangeSpec := { name := "viewTrims", fn := fun _ => fun
  | [d1, d2] => { results := [.lit (.bool false)], args := [d1, d2] }
  | _ => none }
def ViewTrimsWrongFalsely : Prop := viewTrimsRow.holds Tryd.pinned (OpenSpec.ofChange viewTrimsWrong)

/-- 'narratorlaw15.ViewColumns': WHATEVER THE INPUT: true; the input reads as it did. -/
def viewColumnsSpec : ChangeSpec := { name := "viewColumns", fn := fun _ => fun
  | [d1, d2] => { results := [.lit (.bool true)], args := [d1, d2] }
  | _ => none }
def viewColumnsRow : OpenClaim := { program := "ytmagahmklndcgaadoor", sum := "6f503fdc133f094b2f7d26bf411f704c4e204f6f2d42070317a659c510576bc4", func := "narrator/narratorlaw15.ViewColumns", spec := "viewColumns", unfollowed := true, recurses := true, named := ["unicode/utf8.first", "unicode/utf8.acceptRanges"], apart := false, laid := [("unicode/utf8.acceptRanges", laid_unicode_utf8_acceptRanges), ("unicode/utf8.first", laid_unicode_utf8_first)] }
def ViewColumnsSaid : Prop := viewColumnsRow.holds Tryd.pinned (OpenSpec.ofChange viewColumnsSpec)

/-- ITS FALSE NEIGHBOUR: 'it returns false'. Refute it at one input. -/
def viewColumnsWrong : ChangeSpec := { name := "viewColumns", fn := fun _ => fun
  | [d1, d2] => { results := [.lit (.bool false)], args := [d1, d2] }
  | _ => none }
def ViewColumnsWrongFalsely : Prop := viewColumnsRow.holds Tryd.pinned (OpenSpec.ofChange viewColumnsWrong)

/-- 'narratorlaw15.ViewEqual': WHATEVER THE INPUT: true; the input reads as it did. -/
def viewEqualSpec : ChangeSpec := { name := "viewEqual", fn := fun _ => fun
  | [d1, d2] => { results := [.lit (.bool true)], args := [d1, d2] }
  | _ => none }
def viewEqualRow : OpenClaim := { program := "ytmagahmklndcgaadoor", sum := "6f503fdc133f094b2f7d26bf411f704c4e204f6f2d42070317a659c510576bc4", func := "narrator/narratorlaw15.ViewEqual", spec := "viewEqual", unfollowed := true, recurses := true, named := ["unicode/utf8.first", "unicode/utf8.acceptRanges"], apart := false, laid := [("unicode/utf8.acceptRanges", laid_unicode_utf8_acceptRanges), ("unicode/utf8.first", laid_unicode_utf8_first)] }
def ViewEqualSaid : Prop := viewEqualRow.holds Tryd.pinned (OpenSpec.ofChange viewEqualSpec)

/-- ITS FALSE NEIGHBOUR: 'it returns false'. Refute it at one input. -/
def viewEqualWrong : ChangeSpec := { name := "viewEqual", fn := fun _ => fun
  | [d1, d2] => { results := [.lit (.bool false)], args := [d1, d2] }
  | _ => none }
def ViewEqualWrongFalsely : Prop := viewEqualRow.holds Tryd.pinned (OpenSpec.ofChange viewEqualWrong)

/-- 'narratorlaw15.ViewConceals': WHATEVER THE INPUT: true; the input reads as it did. -/
def viewConcealsSpec : ChangeSpec := { name := "viewConceals", fn := fun _ => fun
  | [d1, d2, d3] => { results := [.lit (.bool true)], args := [d1, d2, d3] }
  | _ => none }
def viewConcealsRow : OpenClaim := { program := "ytmagahmklndcgaadoor", sum := "6f503fdc133f094b2f7d26bf411f704c4e204f6f2d42070317a659c510576bc4", func := "narrator/narratorlaw15.ViewConceals", spec := "viewConceals", unfollowed := true, recurses := true, named := ["unicode/utf8.first", "unicode/utf8.acceptRanges"], apart := false, laid := [("unicode/utf8.acceptRanges", laid_unicode_utf8_acceptRanges), ("unicode/utf8.first", laid_unicode_utf8_first)] }
def ViewConcealsSaid : Prop := viewConcealsRow.holds Tryd.pinned (OpenSpec.ofChange viewConcealsSpec)

/-- ITS FALSE NEIGHBOUR: 'it returns false'. Refute it at one input. -/
def viewConcealsWrong : ChangeSpec := { name := "viewConceals", fn := fun _ => fun
  | [d1, d2, d3] => { results := [.lit (.bool false)], args := [d1, d2, d3] }
  | _ => none }
def ViewConcealsWrongFalsely : Prop := viewConcealsRow.holds Tryd.pinned (OpenSpec.ofChange viewConcealsWrong)

/-- 'narratorlaw15.ViewTexts': WHATEVER THE INPUT: true; the input reads as it did. -/
def viewTextsSpec : ChangeSpec := { name := "viewTexts", fn := fun _ => fun
  | [d] => { results := [.lit (.bool true)], args := [d] }
  | _ => none }
def viewTextsRow : OpenClaim := { program := "ytmagahmklndcgaadoor", sum := "6f503fdc133f094b2f7d26bf411f704c4e204f6f2d42070317a659c510576bc4", func := "narrator/narratorlaw15.ViewTexts", spec := "viewTexts", inPlace := ["internal/abi.NoEscape"], unfollowed := true, recurses := true, named := ["unicode/utf8.first", "unicode/utf8.acceptRanges"], apart := false, laid := [("unicode/utf8.acceptRanges", laid_unicode_utf8_acceptRanges), ("unicode/utf8.first", laid_unicode_utf8_first)] }
def ViewTextsSaid : Prop := viewTextsRow.holds Tryd.pinned (OpenSpec.ofChange viewTextsSpec)

/-- ITS FALSE NEIGHBOUR: 'it returns false'. Refute it at one input. -/
def viewTextsWrong : ChangeSpec := { name := "viewTexts", fn := fun _ => fun
  | [d] => { results := [.lit (.bool false)], args := [d] }
  | _ => none }
def ViewTextsWrongFalsely : Prop := viewTextsRow.holds Tryd.pinned (OpenSpec.ofChange viewTextsWrong)

/-- 'narratorlaw15.ViewRows': WHATEVER THE INPUT: true; the input reads as it did. -/
def viewRowsSpec : ChangeSpec := { name := "viewRows", fn := fun _ => fun
  | [d1, d2] => { results := [.lit (.bool true)], args := [d1, d2] }
  | _ => none }
def viewRowsRow : OpenClaim := { program := "ytmagahmklndcgaadoor", sum := "6f503fdc133f094b2f7d26bf411f704c4e204f6f2d42070317a659c510576bc4", func := "narrator/narratorlaw15.ViewRows", spec := "viewRows", inPlace := ["internal/abi.NoEscape"], unfollowed := true, recurses := true, named := ["unicode/utf8.first", "unicode/utf8.acceptRanges"], apart := false, laid := [("unicode/utf8.acceptRanges", laid_unicode_utf8_acceptRanges), ("unicode/utf8.first", laid_unicode_utf8_first)] }
def ViewRowsSaid : Prop := viewRowsRow.holds Tryd.pinned (OpenSpec.ofChange viewRowsSpec)

/-- ITS FALSE NEIGHBOUR: 'it returns false'. Refute it at one input. -/
def viewRowsWrong : ChangeSpec := { name := "viewRows", fn := fun _ => fun
  | [d1, d2] => { results := [.lit (.bool false)], args := [d1, d2] }
  | _ => none }
def ViewRowsWrongFalsely : Prop := viewRowsRow.holds Tryd.pinned (OpenSpec.ofChange viewRowsWrong)

/-- 'narratorlaw15.ViewCheck': WHATEVER THE INPUT: true; the input reads as it did. -/
def viewCheckSpec : ChangeSpec := { name := "viewCheck", fn := fun _ => fun
  | [d1, d2, d3] => { results := [.lit (.bool true)], args := [d1, d2, d3] }
  | _ => none }
def viewCheckRow : OpenClaim := { program := "ytmagahmklndcgaadoor", sum := "6f503fdc133f094b2f7d26bf411f704c4e204f6f2d42070317a659c510576bc4", func := "narrator/narratorlaw15.ViewCheck", spec := "viewCheck", unfollowed := true, recurses := true, named := ["unicode/utf8.first", "unicode/utf8.acceptRanges"], apart := false, laid := [("unicode/utf8.acceptRanges", laid_unicode_utf8_acceptRanges), ("unicode/utf8.first", laid_unicode_utf8_first)] }
def ViewCheckSaid : Prop := viewCheckRow.holds Tryd.pinned (OpenSpec.ofChange viewCheckSpec)

/-- ITS FALSE NEIGHBOUR: 'it returns false'. Refute it at one input. -/
def viewCheckWrong : ChangeSpec := { name := "viewCheck", fn := fun _ => fun
  | [d1, d2, d3] => { results := [.lit (.bool false)], args := [d1, d2, d3] }
  | _ => none }
def ViewCheckWrongFalsely : Prop := viewCheckRow.holds Tryd.pinned (OpenSpec.ofChange viewCheckWrong)

/-- 'narratorlaw15.ViewProper': WHATEVER THE INPUT: true; the input reads as it did. -/
def viewProperSpec : ChangeSpec := { name := "viewProper", fn := fun _ => fun
  | [d1, d2, d3] => { results := [.lit (.bool true)], args := [d1, d2, d3] }
  | _ => none }
def viewProperRow : OpenClaim := { program := "ytmagahmklndcgaadoor", sum := "6f503fdc133f094b2f7d26bf411f704c4e204f6f2d42070317a659c510576bc4", func := "narrator/narratorlaw15.ViewProper", spec := "viewProper", unfollowed := true, recurses := true, named := ["unicode/utf8.first", "unicode/utf8.acceptRanges"], apart := false, laid := [("unicode/utf8.acceptRanges", laid_unicode_utf8_acceptRanges), ("unicode/utf8.first", laid_unicode_utf8_first)] }
def ViewProperSaid : Prop := viewProperRow.holds Tryd.pinned (OpenSpec.ofChange viewProperSpec)

/-- ITS FALSE NEIGHBOUR: 'it returns false'. Refute it at one input. -/
def viewProperWrong : ChangeSpec := { name := "viewProper", fn := fun _ => fun
  | [d1, d2, d3] => { results := [.lit (.bool false)], args := [d1, d2, d3] }
  | _ => none }
def ViewProperWrongFalsely : Prop := viewProperRow.holds Tryd.pinned (OpenSpec.ofChange viewProperWrong)

/- THE SECOND FORM. 'bulk': how many values and letters a reading holds, each counted each time it is reached (what is shared counts as often as it is met; a slice's spare places count too). A statement '..UptoSaid' is the law's where the arguments, and the package variables that the reading takes, are together of bulk at most 1048576: NARROWER than '..Said'. Prove '..Said' where nothing that the law and all that it calls make is longer than what came in: it says more and counts as full. Else prove '..UptoSaid'. A law counts once. -/
mutual
def uptoBulk {H : Type} : DataW H → Nat
  | .lit (.string bytes) => bytes.length + 1
  | .lit _ => 1
  | .nil => 1
  | .ptr d => uptoBulk d + 1
  | .slice elems spare => uptoBulkAll elems + uptoBulkAll spare + 1
  | .agg parts => uptoBulkAll parts + 1
  | .iface _ d => uptoBulk d + 1
  | .map entries => uptoBulkEntries entries + 1
  | .held _ => 1
def uptoBulkAll {H : Type} : List (DataW H) → Nat
  | [] => 0
  | d :: r => uptoBulk d + uptoBulkAll r
def uptoBulkEntries {H : Type} : List (Lit × DataW H) → Nat
  | [] => 0
  | x :: r => uptoBulkEntry x + uptoBulkEntries r
def uptoBulkEntry {H : Type} : Lit × DataW H → Nat
  | (.string bytes, d) => bytes.length + uptoBulk d + 1
  | (_, d) => uptoBulk d + 1
 end
def uptoSmall : (H : Type) → List (DataW H) → Bool := fun _ ds => decide (uptoBulkAll ds ≤ 1048576)
def OpenSpec.upto (s : _root_.Go.ChangeSpec) : _root_.Go.OpenSpec := { _root_.Go.OpenSpec.ofChange s with cond := some uptoSmall }

/-- 'narratorlaw15.ViewOf', WHERE WHAT IT READS IS OF BULK AT MOST 1048576: true; the input reads as it did. -/
def viewOfUptoRow : OpenClaim := { program := "ytmagahmklndcgaadoor", sum := "6f503fdc133f094b2f7d26bf411f704c4e204f6f2d42070317a659c510576bc4", func := "narrator/narratorlaw15.ViewOf", spec := "viewOf", unfollowed := true, recurses := true, named := ["unicode/utf8.first", "unicode/utf8.acceptRanges"], apart := false, laid := [("unicode/utf8.acceptRanges", laid_unicode_utf8_acceptRanges), ("unicode/utf8.first", laid_unicode_utf8_first)], narrowed := true }
def ViewOfUptoSaid : Prop := viewOfUptoRow.holds Tryd.pinned (OpenSpec.upto viewOfSpec)

/-- 'narratorlaw15.ViewTrims', WHERE WHAT IT READS IS OF BULK AT MOST 1048576: true; the input reads as it did. -/
def viewTrimsUptoRow : OpenClaim := { program := "ytmagahmklndcgaadoor", sum := "6f503fdc133f094b2f7d26bf411f704c4e204f6f2d42070317a659c510576bc4", func := "narrator/narratorlaw15.ViewTrims", spec := "viewTrims", unfollowed := true, recurses := true, named := ["unicode/utf8.first", "unicode/utf8.acceptRanges"], apart := false, laid := [("unicode/utf8.acceptRanges", laid_unicode_utf8_acceptRanges), ("unicode/utf8.first", laid_unicode_utf8_first)], narrowed := true }
def ViewTrimsUptoSaid : Prop := viewTrimsUptoRow.holds Tryd.pinned (OpenSpec.upto viewTrimsSpec)

/-- 'narratorlaw15.ViewColumns', WHERE WHAT IT READS IS OF BULK AT MOST 1048576: true; the input reads as it did. -/
def viewColumnsUptoRow : OpenClaim := { program := "ytmagahmklndcgaadoor", sum := "6f503fdc133f094b2f7d26bf411f704c4e204f6f2d42070317a659c510576bc4", func := "narrator/narratorlaw15.ViewColumns", spec := "viewColumns", unfollowed := true, recurses := true, named := ["unicode/utf8.first", "unicode/utf8.acceptRanges"], apart := false, laid := [("unicode/utf8.acceptRanges", laid_unicode_utf8_acceptRanges), ("unicode/utf8.first", laid_unicode_utf8_first)], narrowed := true }
def ViewColumnsUptoSaid : Prop := viewColumnsUptoRow.holds Tryd.pinned (OpenSpec.upto viewColumnsSpec)

/-- 'narratorlaw15.ViewEqual', WHERE WHAT IT READS IS OF BULK AT MOST 1048576: true; the input reads as it did. -/
def viewEqualUptoRow : OpenClaim := { program := "ytmagahmklndcgaadoor", sum := "6f503fdc133f094b2f7d26bf411f704c4e204f6f2d42070317a659c510576bc4", func := "narrator/narratorlaw15.ViewEqual", spec := "viewEqual", unfollowed := true, recurses := true, named := ["unicode/utf8.first", "unicode/utf8.acceptRanges"], apart := false, laid := [("unicode/utf8.acceptRanges", laid_unicode_utf8_acceptRanges), ("unicode/utf8.first", laid_unicode_utf8_first)], narrowed := true }
def ViewEqualUptoSaid : Prop := viewEqualUptoRow.holds Tryd.pinned (OpenSpec.upto viewEqualSpec)

/-- 'narratorlaw15.ViewConceals', WHERE WHAT IT READS IS OF BULK AT MOST 1048576: true; the input reads as it did. -/
def viewConcealsUptoRow : OpenClaim := { program := "ytmagahmklndcgaadoor", sum := "6f503fdc133f094b2f7d26bf411f704c4e204f6f2d42070317a659c510576bc4", func := "narrator/narratorlaw15.ViewConceals", spec := "viewConceals", unfollowed := true, recurses := true, named := ["unicode/utf8.first", "unicode/utf8.acceptRanges"], apart := false, laid := [("unicode/utf8.acceptRanges", laid_unicode_utf8_acceptRanges), ("unicode/utf8.first", laid_unicode_utf8_first)], narrowed := true }
def ViewConcealsUptoSaid : Prop := viewConcealsUptoRow.holds Tryd.pinned (OpenSpec.upto viewConcealsSpec)

/-- 'narratorlaw15.ViewTexts', WHERE WHAT IT READS IS OF BULK AT MOST 1048576: true; the input reads as it did. -/
def viewTextsUptoRow : OpenClaim := { program := "ytmagahmklndcgaadoor", sum := "6f503fdc133f094b2f7d26bf411f704c4e204f6f2d42070317a659c510576bc4", func := "narrator/narratorlaw15.ViewTexts", spec := "viewTexts", inPlace := ["internal/abi.NoEscape"], unfollowed := true, recurses := true, named := ["unicode/utf8.first", "unicode/utf8.acceptRanges"], apart := false, laid := [("unicode/utf8.acceptRanges", laid_unicode_utf8_acceptRanges), ("unicode/utf8.first", laid_unicode_utf8_first)], narrowed := true }
def ViewTextsUptoSaid : Prop := viewTextsUptoRow.holds Tryd.pinned (OpenSpec.upto viewTextsSpec)

/-- 'narratorlaw15.ViewRows', WHERE WHAT IT READS IS OF BULK AT MOST 1048576: true; the input reads as it did. -/
def viewRowsUptoRow : OpenClaim := { program := "ytmagahmklndcgaadoor", sum := "6f503fdc133f094b2f7d26bf411f704c4e204f6f2d42070317a659c510576bc4", func := "narrator/narratorlaw15.ViewRows", spec := "viewRows", inPlace := ["internal/abi.NoEscape"], unfollowed := true, recurses := true, named := ["unicode/utf8.first", "unicode/utf8.acceptRanges"], apart := false, laid := [("unicode/utf8.acceptRanges", laid_unicode_utf8_acceptRanges), ("unicode/utf8.first", laid_unicode_utf8_first)], narrowed := true }
def ViewRowsUptoSaid : Prop := viewRowsUptoRow.holds Tryd.pinned (OpenSpec.upto viewRowsSpec)

/-- 'narratorlaw15.ViewCheck', WHERE WHAT IT READS IS OF BULK AT MOST 1048576: true; the input reads as it did. -/
def viewCheckUptoRow : OpenClaim := { program := "ytmagahmklndcgaadoor", sum := "6f503fdc133f094b2f7d26bf411f704c4e204f6f2d42070317a659c510576bc4", func := "narrator/narratorlaw15.ViewCheck", spec := "viewCheck", unfollowed := true, recurses := true, named := ["unicode/utf8.first", "unicode/utf8.acceptRanges"], apart := false, laid := [("unicode/utf8.acceptRanges", laid_unicode_utf8_acceptRanges), ("unicode/utf8.first", laid_unicode_utf8_first)], narrowed := true }
def ViewCheckUptoSaid : Prop := viewCheckUptoRow.holds Tryd.pinned (OpenSpec.upto viewCheckSpec)

/-- 'narratorlaw15.ViewProper', WHERE WHAT IT READS IS OF BULK AT MOST 1048576: true; the input reads as it did. -/
def viewProperUptoRow : OpenClaim := { program := "ytmagahmklndcgaadoor", sum := "6f503fdc133f094b2f7d26bf411f704c4e204f6f2d42070317a659c510576bc4", func := "narrator/narratorlaw15.ViewProper", spec := "viewProper", unfollowed := true, recurses := true, named := ["unicode/utf8.first", "unicode/utf8.acceptRanges"], apart := false, laid := [("unicode/utf8.acceptRanges", laid_unicode_utf8_acceptRanges), ("unicode/utf8.first", laid_unicode_utf8_first)], narrowed := true }
def ViewProperUptoSaid : Prop := viewProperUptoRow.holds Tryd.pinned (OpenSpec.upto viewProperSpec)

end Rows
end Go.Proofs.YtmagahmklndcgaaDoor
