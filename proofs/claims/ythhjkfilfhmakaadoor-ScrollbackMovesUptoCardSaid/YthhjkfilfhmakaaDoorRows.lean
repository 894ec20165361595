/-
  NARROWER THAN 'FOR EVERY INPUT', by the rows' own cells (each row's printed sentence says how): ScrollbackWindow: laid · ScrollbackMoves: laid · ScrollbackTrims: laid · ScrollbackLimit: laid · ScrollbackPushes: laid · ScrollbackNewest: laid · ScrollbackRows: laid · ScrollbackContinues: laid.
  DERIVED. THE GIVEN ROWS OF THIS SEAT. 8 by the template 'for every input the law returns true; each argument reads behind the call as it read before'; 0 by the template 'total and deterministic' (their statements: YthhjkfilfhmakaaDoorTotals.lean).
  GIVEN WITH THE SEED: the statements are not yours to turn. If you find one false, say at which input.
  Laid BY PROGRAM, IN A SANDBOX (cutbox-rows.mjs): the forced cells as the released guide's own fill.sh prints them over the translation 08ccba54df755cee… (all of the seat's roots in one cut). By AI agents, Wed Nov 11 2026. No macro, syntax, notation, axiom, sorry.
-/
import Derived.Test.YthhjkfilfhmakaaDoorChecked
import GoSem.PinnedTables
import GoSem.Claim
import GoSem.ClaimJoined
import GoSem.ClaimMapViews
import Derived.JoinedTies
import Derived.KernelRfl
namespace Go.Proofs.YthhjkfilfhmakaaDoor
/- THE CELL 'sum', in the pinned program and in every row, IS THE sha256 OF THE DUMP (.gsa) THAT YthhjkfilfhmakaaDoorProg.lean LOADS. Nothing in Lean hashes anything: it is a label: what it is worth is what the hold of that sum in a sandbox is worth. -/
noncomputable def Tryd.pinned : Pinned := { name := "ythhjkfilfhmakaadoor", sum := "08ccba54df755ceeea459fecb999e0798b517c3728018c006c83d554f0740275", checked := Tryd.checked }
namespace Rows
def none {H : Type} : Left H := { results := [], args := [] }

/- WHAT THE LISTED PACKAGE-LEVEL VARIABLES READ AS WHEN THE CALL BEGINS. Each datum BY PROGRAM (the guide's laid-datum.mjs) off the statement by which the dump's own 'gosem.cut.vars' lays the variable. In a bare row this is a premise. The card (YthhjkfilfhmakaaDoorCards.lean) ties it to the program's text. -/
def laid_unicode_utf8_acceptRanges {H : Type} : DataW H := .agg [.agg [.lit (.int .u8 128), .lit (.int .u8 191)], .agg [.lit (.int .u8 160), .lit (.int .u8 191)], .agg [.lit (.int .u8 128), .lit (.int .u8 159)], .agg [.lit (.int .u8 144), .lit (.int .u8 191)], .agg [.lit (.int .u8 128), .lit (.int .u8 143)], .agg [.lit (.int .u8 0), .lit (.int .u8 0)], .agg [.lit (.int .u8 0), .lit (.int .u8 0)], .agg [.lit (.int .u8 0), .lit (.int .u8 0)], .agg [.lit (.int .u8 0), .lit (.int .u8 0)], .agg [.lit (.int .u8 0), .lit (.int .u8 0)], .agg [.lit (.int .u8 0), .lit (.int .u8 0)], .agg [.lit (.int .u8 0), .lit (.int .u8 0)], .agg [.lit (.int .u8 0), .lit (.int .u8 0)], .agg [.lit (.int .u8 0), .lit (.int .u8 0)], .agg [.lit (.int .u8 0), .lit (.int .u8 0)], .agg [.lit (.int .u8 0), .lit (.int .u8 0)]]
/-- One of Go's own tables, pinned by name: the form's constant. -/
def laid_unicode_utf8_first : DataW Unit := Go.Pinned.utf8First

/-- 'narratorlaw12.ScrollbackWindow': WHATEVER THE INPUT: true; the input reads as it did. -/
def scrollbackWindowSpec : ChangeSpec := { name := "scrollbackWindow", fn := fun _ => fun
  | [d1, d2, d3] => { results := [.lit (.bool true)], args := [d1, d2, d3] }
  | _ => none }
def scrollbackWindowRow : OpenClaim := { program := "ythhjkfilfhmakaadoor", sum := "08ccba54df755ceeea459fecb999e0798b517c3728018c006c83d554f0740275", func := "narrator/narratorlaw12.ScrollbackWindow", spec := "scrollbackWindow", unfollowed := true, recurses := true, named := ["unicode/utf8.first", "unicode/utf8.acceptRanges"], apart := false, laid := [("unicode/utf8.acceptRanges", laid_unicode_utf8_acceptRanges), ("unicode/utf8.first", laid_unicode_utf8_first)] }
def ScrollbackWindowSaid : Prop := scrollbackWindowRow.holds Tryd.pinned (OpenSpec.ofChange scrollbackWindowSpec)

/-- ITS FALSE NEIGHBOUR: 'it returns false'. Refute it at one input. -/
def scrollbackWindowWrong : ChangeSpec := { name := "scrollbackWindow", fn := fun _ => fun
  | [d1, d2, d3] => { results := [.lit (.bool false)], args := [d1, d2, d3] }
  | _ => none }
def ScrollbackWindowWrongFalsely : Prop := scrollbackWindowRow.holds Tryd.pinned (OpenSpec.ofChange scrollbackWindowWrong)

/-- 'narratorlaw12.ScrollbackMoves': WHATEVER THE INPUT: true; the input reads as it did. -/
def scrollbackMovesSpec : ChangeSpec := { name := "scrollbackMoves", fn := fun _ => fun
  | [d1, d2] => { results := [.lit (.bool true)], args := [d1, d2] }
  | _ => none }
def scrollbackMovesRow : OpenClaim := { program := "ythhjkfilfhmakaadoor", sum := "08ccba54df755ceeea459fecb999e0798b517c3728018c006c83d554f0740275", func := "narrator/narratorlaw12.ScrollbackMoves", spec := "scrollbackMoves", unfollowed := true, recurses := true, named := ["unicode/utf8.first", "unicode/utf8.acceptRanges"], apart := false, laid := [("unicode/utf8.acceptRanges", laid_unicode_utf8_acceptRanges), ("unicode/utf8.first", laid_unicode_utf8_first)] }
def ScrollbackMovesSaid : Prop := scrollbackMovesRow.holds Tryd.pinned (OpenSpec.ofChange scrollbackMovesSpec)

/-- ITS FALSE NEIGHBOUR: 'it returns false'. Refute it at one input. -/
def scrollbackMovesWrong : ChangeSpec := { name := "scrollbackMoves", fn := fun _ => fun
  | [d1, d2] => { results := [.lit (.bool false)], args := [d1, d2] }
  | _ => none }
def ScrollbackMovesWrongFalsely : Prop := scrollbackMovesRow.holds Tryd.pinned (OpenSpec.ofChange scrollbackMovesWrong)

/-- 'narratorlaw12.ScrollbackTrims': WHATEVER THE INPUT: true; the input reads as it did. -/
def scrollbackTrimsSpec : ChangeSpec := { name := "scrollbackTrims", fn := fun _ => fun
  | [d1, d2, d3] => { results := [.lit (.bool true)], args := [d1, d2, d3] }
  | _ => none }
def scrollbackTrimsRow : OpenClaim := { program := "ythhjkfilfhmakaadoor", sum := "08ccba54df755ceeea459fecb999e0798b517c3728018c006c83d554f0740275", func := "narrator/narratorlaw12.ScrollbackTrims", spec := "scrollbackTrims", unfollowed := true, recurses := true, named := ["unicode/utf8.first", "unicode/utf8.acceptRanges"], apart := false, laid := [("unicode/utf8.acceptRanges", laid_unicode_utf8_acceptRanges), ("unicode/utf8.first", laid_unicode_utf8_first)] }
def ScrollbackTrimsSaid : Prop := scrollbackTrimsRow.holds Tryd.pinned (OpenSpec.ofChange scrollbackTrimsSpec)

/-- ITS FALSE NEIGHBOUR: 'it returns false'. Refute it at one input. -/
def scrollbackTrimsWrong : ChangeSpec := { name := "scrollbackTrims", fn := fun _ => fun
  | [d1, d2, d3] => { results := [.lit (.bool false)], args := [d1, d2, d3] }
  | _ => none }
def ScrollbackTrimsWrongFalsely : Prop := scrollbackTrimsRow.holds Tryd.pinned (OpenSpec.ofChange scrollbackTrimsWrong)

/-- 'narratorlaw12.ScrollbackLimit': WHATEVER THE INPUT: true; the input reads as it did. -/
def scrollbackLimitSpec : ChangeSpec := { name := "scrollbackLimit", fn := fun _ => fun
  | [d1, d2] => { results := [.lit (.bool true)], args := [d1, d2] }
  | _ => none }
def scrollbackLimitRow : OpenClaim := { program := "ythhjkfilfhmakaadoor", sum := "08ccba54df755ceeea459fecb999e0798b517c3728018c006c83d554f0740275", func := "narrator/narratorlaw12.ScrollbackLimit", spec := "scrollbackLimit", unfollowed := true, recurses := true, named := ["unicode/utf8.first", "unicode/utf8.acceptRanges"], apart := false, laid := [("unicode/utf8.acceptRanges", laid_unicode_utf8_acceptRanges), ("unicode/utf8.first", laid_unicode_utf8_first)] }
def ScrollbackLimitSaid : Prop := scrollbackLimitRow.holds Tryd.pinned (OpenSpec.ofChange scrollbackLimitSpec)

/-- ITS FALSE NEIGHBOUR: 'it returns false'. Refute it at one input. -/
def scrollbackLimitWrong : ChangeSpec := { name := "scrollbackLimit", fn := fun _ => fun
  | [d1, d2] => { results := [.lit (.bool false)], args := [d1, d2] }
  | _ => none }
def ScrollbackLimitWrongFalsely : Prop := scrollbackLimitRow.holds Tryd.pinned (OpenSpec.ofChange scrollbackLimitWrong)

/-- 'narratorlaw12.ScrollbackPushes': WHATEVER THE INPUT: true; the input reads as it did. -/
def scrollbackPushesSpec : ChangeSpec := { name := "scrollbackPushes", fn := fun _ => fun
  | [d1, d2, d3] => { results := [.lit (.bool true)], args := [d1, d2, d3] }
  | _ => none }
def scrollbackPushesRow : OpenClaim := { program := "ythhjkfilfhmakaadoor", sum := "08ccba54df755ceeea459fecb999e0798b517c3728018c006c83d554f0740275", func := "narrator/narratorlaw12.ScrollbackPushes", spec := "scrollbackPushes", unfollowed := true, recurses := true, named := ["unicode/utf8.first", "unicode/utf8.acceptRanges"], apart := false, laid := [("unicode/utf8.acceptRanges", laid_unicode_utf8_acceptRanges), ("unicode/utf8.first", laid_unicode_utf8_first)] }
def ScrollbackPushesSaid : Prop := scrollbackPushesRow.holds Tryd.pinned (OpenSpec.ofChange scrollbackPushesSpec)

/-- ITS FALSE NEIGHBOUR: 'it returns false'. Refute it at one input. -/
def scrollbackPushesWrong : ChangeSpec := { name := "scrollbackPushes", fn := fun _ => fun
  | [d1, d2, d3] => { results := [.lit (.bool false)], args := [d1, d2, d3] }
  | _ => none }
def ScrollbackPushesWrongFalsely : Prop := scrollbackPushesRow.holds Tryd.pinned (OpenSpec.ofChange scrollbackPushesWrong)

/-- 'narratorlaw12.ScrollbackNewest': WHATEVER THE INPUT: true; the input reads as it did. -/
def scrollbackNewestSpec : ChangeSpec := { name := "scrollbackNewest", fn := fun _ => fun
  | [d1, d2] => { results := [.lit (.bool true)], args := [d1, d2] }
  | _ => none }
def scrollbackNewestRow : OpenClaim := { program := "ythhjkfilfhmakaadoor", sum := "08ccba54df755ceeea459fecb999e0798b517c3728018c006c83d554f0740275", func := "narrator/narratorlaw12.ScrollbackNewest", spec := "scrollbackNewest", unfollowed := true, recurses := true, named := ["unicode/utf8.first", "unicode/utf8.acceptRanges"], apart := false, laid := [("unicode/utf8.acceptRanges", laid_unicode_utf8_acceptRanges), ("unicode/utf8.first", laid_unicode_utf8_first)] }
def ScrollbackNewestSaid : Prop := scrollbackNewestRow.holds Tryd.pinned (OpenSpec.ofChange scrollbackNewestSpec)

/-- ITS FALSE NEIGHBOUR: 'it returns false'. Refute it at one input. -/
def scrollbackNewestWrong : ChangeSpec := { name := "scrollbackNewest", fn := fun _ => fun
  | [d1, d2] => { results := [.lit (.bool false)], args := [d1, d2] }
  | _ => none }
def ScrollbackNewestWrongFalsely : Prop := scrollbackNewestRow.holds Tryd.pinned (OpenSpec.ofChange scrollbackNewestWrong)

/-- 'narratorlaw12.ScrollbackRows': WHATEVER THE INPUT: true; the input reads as it did. -/
def scrollbackRowsSpec : ChangeSpec := { name := "scrollbackRows", fn := fun _ => fun
  | [d1, d2, d3, d4] => { results := [.lit (.bool true)], args := [d1, d2, d3, d4] }
  | _ => none }
def scrollbackRowsRow : OpenClaim := { program := "ythhjkfilfhmakaadoor", sum := "08ccba54df755ceeea459fecb999e0798b517c3728018c006c83d554f0740275", func := "narrator/narratorlaw12.ScrollbackRows", spec := "scrollbackRows", unfollowed := true, recurses := true, named := ["unicode/utf8.first", "unicode/utf8.acceptRanges"], apart := false, laid := [("unicode/utf8.acceptRanges", laid_unicode_utf8_acceptRanges), ("unicode/utf8.first", laid_unicode_utf8_first)] }
def ScrollbackRowsSaid : Prop := scrollbackRowsRow.holds Tryd.pinned (OpenSpec.ofChange scrollbackRowsSpec)

/-- ITS FALSE NEIGHBOUR: 'it returns false'. Refute it at one input. -/
def scrollbackRowsWrong : ChangeSpec := { name := "scrollbackRows", fn := fun _ => fun
  | [d1, d2, d3, d4] => { results := [.lit (.bool false)], args := [d1, d2, d3, d4] }
  | _ => none }
def ScrollbackRowsWrongFalsely : Prop := scrollbackRowsRow.holds Tryd.pinned (OpenSpec.ofChange scrollbackRowsWrong)

/-- 'narratorlaw12.ScrollbackContinues': WHATEVER THE INPUT: true; the input reads as it did. -/
def scrollbackContinuesSpec : ChangeSpec := { name := "scrollbackContinues", fn := fun _ => fun
  | [d1, d2, d3, d4] => { results := [.lit (.bool true)], args := [d1, d2, d3, d4] }
  | _ => none }
def scrollbackContinuesRow : OpenClaim := { program := "ythhjkfilfhmakaadoor", sum := "08ccba54df755ceeea459fecb999e0798b517c3728018c006c83d554f0740275", func := "narrator/narratorlaw12.ScrollbackContinues", spec := "scrollbackContinues", unfollowed := true, recurses := true, named := ["unicode/utf8.first", "unicode/utf8.acceptRanges"], apart := false, laid := [("unicode/utf8.acceptRanges", laid_unicode_utf8_acceptRanges), ("unicode/utf8.first", laid_unicode_utf8_first)] }
def ScrollbackContinuesSaid : Prop := scrollbackContinuesRow.holds Tryd.pinned (OpenSpec.ofChange scrollbackContinuesSpec)

/-- ITS FALSE NEIGHBOUR: 'it returns false'. Refute it at one input. -/
def scrollbackContinuesWrong : ChangeSpec := { name := "scrollbackContinues", fn := fun _ => fun
  | [d1, d2, d3, d4] => { results := [.lit (.bool false)], args := [d1, d2, d3, d4] }
  | _ => none }
def ScrollbackContinuesWrongFalsely : Prop := scrollbackContinuesRow.holds Tryd.pinned (OpenSpec.ofChange scrollbackContinuesWrong)

/- THE SECOND FORM. 'bulk': how many values and letters a reading holds, each counted each time it is reached (what is shared counts as often as it is met; a slice's spare places count too). A statement '..UptoSaid' is the law's where the arguments, and the package variables that the reading takes, are together of bulk at most 1048576: NARROWER than '..Said'. Prove '..Said' where nothing that the law and all that it calls make is longer than what came in: it says more and counts as full. Else prove '..UptoSaid'. A law counts once. -/
mutual
def uptoBulk {H : Type} : DataW H → Nat
  | .lit (.string bytes) => bytes.length + 1
  | .lit _ => 1
  | .nil => 1
  | .ptr d => uptoBulk d + 1
  | .slice elems spare => uptoBulkAll elems + uptoBulkAll spare + 1
  | .agg parts => uptoBulkAll parts + 1
  | .iface _ d => uptoBulk d + 1
  | .map entries => uptoBulkEntries entries + 1
  | .held _ => 1
def uptoBulkAll {H : Type} : List (DataW H) → Nat
  | [] => 0
  | d :: r => uptoBulk d + uptoBulkAll r
def uptoBulkEntries {H : Type} : List (Lit × DataW H) → Nat
  | [] => 0
  | x :: r => uptoBulkEntry x + uptoBulkEntries r
def uptoBulkEntry {H : Type} : Lit × DataW H → Nat
  | (.string bytes, d) => bytes.length + uptoBulk d + 1
  | (_, d) => uptoBulk d + 1
 end
def uptoSmall : (H : Type) → List (DataW H) → Bool := fun _ ds => decide (uptoBulkAll ds ≤ 1048576)
def OpenSpec.upto (s : _root_.Go.ChangeSpec) : _root_.Go.OpenSpec := { _root_.Go.OpenSpec.ofChange s with cond := some uptoSmall }

/-- 'narratorlaw12.ScrollbackWindow', WHERE WHAT IT READS IS OF BULK AT MOST 1048576: true; the input reads as it did. -/
def scrollbackWindowUptoRow : OpenClaim := { program := "ythhjkfilfhmakaadoor", sum := "08ccba54df755ceeea459fecb999e0798b517c3728018c006c83d554f0740275", func := "narrator/narratorlaw12.ScrollbackWindow", spec := "scrollbackWindow", unfollowed := true, recurses := true, named := ["unicode/utf8.first", "unicode/utf8.acceptRanges"], apart := false, laid := [("unicode/utf8.acceptRanges", laid_unicode_utf8_acceptRanges), ("unicode/utf8.first", laid_unicode_utf8_first)], narrowed := true }
def ScrollbackWindowUptoSaid : Prop := scrollbackWindowUptoRow.holds Tryd.pinned (OpenSpec.upto scrollbackWindowSpec)

/-- 'narratorlaw12.ScrollbackMoves', WHERE WHAT IT READS IS OF BULK AT MOST 1048576: true; the input reads as it did. -/
def scrollbackMovesUptoRow : OpenClaim := { program := "ythhjkfilfhmakaadoor", sum := "08ccba54df755ceeea459fecb999e0798b517c3728018c006c83d554f0740275", func := "narrator/narratorlaw12.ScrollbackMoves", spec := "scrollbackMoves", unfollowed := true, recurses := true, named := ["unicode/utf8.first", "unicode/utf8.acceptRanges"], apart := false, laid := [("unicode/utf8.acceptRanges", laid_unicode_utf8_acceptRanges), ("unicode/utf8.first", laid_unicode_utf8_first)], narrowed := true }
def ScrollbackMovesUptoSaid : Prop := scrollbackMovesUptoRow.holds Tryd.pinned (OpenSpec.upto scrollbackMovesSpec)

/-- 'narratorlaw12.ScrollbackTrims', WHERE WHAT IT READS IS OF BULK AT MOST 1048576: true; the input reads as it did. -/
def scrollbackTrimsUptoRow : OpenClaim := { program := "ythhjkfilfhmakaadoor", sum := "08ccba54df755ceeea459fecb999e0798b517c3728018c006c83d554f0740275", func := "narrator/narratorlaw12.ScrollbackTrims", spec := "scrollbackTrims", unfollowed := true, recurses := true, named := ["unicode/utf8.first", "unicode/utf8.acceptRanges"], apart := false, laid := [("unicode/utf8.acceptRanges", laid_unicode_utf8_acceptRanges), ("unicode/utf8.first", laid_unicode_utf8_first)], narrowed := true }
def ScrollbackTrimsUptoSaid : Prop := scrollbackTrimsUptoRow.holds Tryd.pinned (OpenSpec.upto scrollbackTrimsSpec)

/-- 'narratorlaw12.ScrollbackLimit', WHERE WHAT IT READS IS OF BULK AT MOST 1048576: true; the input reads as it did. -/
def scrollbackLimitUptoRow : OpenClaim := { program := "ythhjkfilfhmakaadoor", sum := "08ccba54df755ceeea459fecb999e0798b517c3728018c006c83d554f0740275", func := "narrator/narratorlaw12.ScrollbackLimit", spec := "scrollbackLimit", unfollowed := true, recurses := true, named := ["unicode/utf8.first", "unicode/utf8.acceptRanges"], apart := false, laid := [("unicode/utf8.acceptRanges", laid_unicode_utf8_acceptRanges), ("unicode/utf8.first", laid_unicode_utf8_first)], narrowed := true }
def ScrollbackLimitUptoSaid : Prop := scrollbackLimitUptoRow.holds Tryd.pinned (OpenSpec.upto scrollbackLimitSpec)

/-- 'narratorlaw12.ScrollbackPushes', WHERE WHAT IT READS IS OF BULK AT MOST 1048576: true; the input reads as it did. -/
def scrollbackPushesUptoRow : OpenClaim := { program := "ythhjkfilfhmakaadoor", sum := "08ccba54df755ceeea459fecb999e0798b517c3728018c006c83d554f0740275", func := "narrator/narratorlaw12.ScrollbackPushes", spec := "scrollbackPushes", unfollowed := true, recurses := true, named := ["unicode/utf8.first", "unicode/utf8.acceptRanges"], apart := false, laid := [("unicode/utf8.acceptRanges", laid_unicode_utf8_acceptRanges), ("unicode/utf8.first", laid_unicode_utf8_first)], narrowed := true }
def ScrollbackPushesUptoSaid : Prop := scrollbackPushesUptoRow.holds Tryd.pinned (OpenSpec.upto scrollbackPushesSpec)

/-- 'narratorlaw12.ScrollbackNewest', WHERE WHAT IT READS IS OF BULK AT MOST 1048576: true; the input reads as it did. -/
def scrollbackNewestUptoRow : OpenClaim := { program := "ythhjkfilfhmakaadoor", sum := "08ccba54df755ceeea459fecb999e0798b517c3728018c006c83d554f0740275", func := "narrator/narratorlaw12.ScrollbackNewest", spec := "scrollbackNewest", unfollowed := true, recurses := true, named := ["unicode/utf8.first", "unicode/utf8.acceptRanges"], apart := false, laid := [("unicode/utf8.acceptRanges", laid_unicode_utf8_acceptRanges), ("unicode/utf8.first", laid_unicode_utf8_first)], narrowed := true }
def ScrollbackNewestUptoSaid : Prop := scrollbackNewestUptoRow.holds Tryd.pinned (OpenSpec.upto scrollbackNewestSpec)

/-- 'narratorlaw12.ScrollbackRows', WHERE WHAT IT READS IS OF BULK AT MOST 1048576: true; the input reads as it did. -/
def scrollbackRowsUptoRow : OpenClaim := { program := "ythhjkfilfhmakaadoor", sum := "08ccba54df755ceeea459fecb999e0798b517c3728018c006c83d554f0740275", func := "narrator/narratorlaw12.ScrollbackRows", spec := "scrollbackRows", unfollowed := true, recurses := true, named := ["unicode/utf8.first", "unicode/utf8.acceptRanges"], apart := false, laid := [("unicode/utf8.acceptRanges", laid_unicode_utf8_acceptRanges), ("unicode/utf8.first", laid_unicode_utf8_first)], narrowed := true }
def ScrollbackRowsUptoSaid : Prop := scrollbackRowsUptoRow.holds Tryd.pinned (OpenSpec.upto scrollbackRowsSpec)

/-- 'narratorlaw12.ScrollbackContinues', WHERE WHAT IT READS IS OF BULK AT MOST 1048576: true; the input reads as it did. -/
def scrollbackContinuesUptoRow : OpenClaim := { program := "ythhjkfilfhmakaadoor", sum := "08ccba54df755ceeea459fecb999e0798b517c3728018c006c83d554f0740275", func := "narrator/narratorlaw12.ScrollbackContinues", spec := "scrollbackContinues", unfollowed := true, recurses := true, named := ["unicode/utf8.first", "unicode/utf8.acceptRanges"], apart := false, laid := [("unicode/utf8.acceptRanges", laid_unicode_utf8_acceptRanges), ("unicode/utf8.first", laid_unicode_utf8_first)], narrowed := true }
def ScrollbackContinuesUptoSaid : Prop := scrollbackContinuesUptoRow.holds Tryd.pinned (OpenSpec.upto scrollbackContinuesSpec)

end Rows
end Go.Proofs.YthhjkfilfhmakaaDoor
