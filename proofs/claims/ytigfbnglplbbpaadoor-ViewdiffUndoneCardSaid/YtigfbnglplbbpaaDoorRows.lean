/-
  NARROWER THAN 'FOR EVERY INPUT', by the rows' own cells (each row's printed sentence says how): ViewdiffApplies: laid · ViewdiffEmpty: laid · ViewdiffForm: laid · ViewdiffResults: laid · ViewdiffCost: laid · ViewdiffLocal: laid · ViewdiffUndone: laid.
  DERIVED. THE GIVEN ROWS OF THIS SEAT. 7 by the template 'for every input the law returns true; each argument reads behind the call as it read before'; 0 by the template 'total and deterministic' (their statements: YtigfbnglplbbpaaDoorTotals.lean).
  GIVEN WITH THE SEED: the statements are not yours to turn. If you find one false, say at which input.
  Laid BY PROGRAM, IN A SANDBOX (cutbox-rows.mjs): the forced cells as the released guide's own fill.sh prints them over the translation c23c5253a5eeb413… (all of the seat's roots in one cut). By AI agents, Wed Nov 11 2026. No macro, syntax, notation, axiom, sorry.
-/
import Derived.Test.YtigfbnglplbbpaaDoorChecked
import GoSem.PinnedTables
import GoSem.Claim
import GoSem.ClaimJoined
import GoSem.ClaimMapViews
import Derived.JoinedTies
import Derived.KernelRfl
namespace Go.Proofs.YtigfbnglplbbpaaDoor
/- THE CELL 'sum', in the pinned program and in every row, IS THE sha256 OF THE DUMP (.gsa) THAT YtigfbnglplbbpaaDoorProg.lean LOADS. Nothing in Lean hashes anything: it is a label: what it is worth is what the hold of that sum in a sandbox is worth. -/
noncomputable def Tryd.pinned : Pinned := { name := "ytigfbnglplbbpaadoor", sum := "c23c5253a5eeb4132fceb3500b5bef213cc2215c84d0ecf243a1c0c0a76c1561", checked := Tryd.checked }
namespace Rows
def none {H : Type} : Left H := { results := [], args := [] }

/- WHAT THE LISTED PACKAGE-LEVEL VARIABLES READ AS WHEN THE CALL BEGINS. Each datum BY PROGRAM (the guide's laid-datum.mjs) off the statement by which the dump's own 'gosem.cut.vars' lays the variable. In a bare row this is a premise. The card (YtigfbnglplbbpaaDoorCards.lean) ties it to the program's text. -/
def laid_unicode_utf8_acceptRanges {H : Type} : DataW H := .agg [.agg [.lit (.int .u8 128), .lit (.int .u8 191)], .agg [.lit (.int .u8 160), .lit (.int .u8 191)], .agg [.lit (.int .u8 128), .lit (.int .u8 159)], .agg [.lit (.int .u8 144), .lit (.int .u8 191)], .agg [.lit (.int .u8 128), .lit (.int .u8 143)], .agg [.lit (.int .u8 0), .lit (.int .u8 0)], .agg [.lit (.int .u8 0), .lit (.int .u8 0)], .agg [.lit (.int .u8 0), .lit (.int .u8 0)], .agg [.lit (.int .u8 0), .lit (.int .u8 0)], .agg [.lit (.int .u8 0), .lit (.int .u8 0)], .agg [.lit (.int .u8 0), .lit (.int .u8 0)], .agg [.lit (.int .u8 0), .lit (.int .u8 0)], .agg [.lit (.int .u8 0), .lit (.int .u8 0)], .agg [.lit (.int .u8 0), .lit (.int .u8 0)], .agg [.lit (.int .u8 0), .lit (.int .u8 0)], .agg [.lit (.int .u8 0), .lit (.int .u8 0)]]
/-- One of Go's own tables, pinned by name: the form's constant. -/
def laid_unicode_utf8_first : DataW Unit := Go.Pinned.utf8First

/-- 'narratorlaw20.ViewdiffApplies': WHATEVER THE INPUT: true; the input reads as it did. -/
def viewdiffAppliesSpec : ChangeSpec := { name := "viewdiffApplies", fn := fun _ => fun
  | [d1, d2] => { results := [.lit (.bool true)], args := [d1, d2] }
  | _ => none }
def viewdiffAppliesRow : OpenClaim := { program := "ytigfbnglplbbpaadoor", sum := "c23c5253a5eeb4132fceb3500b5bef213cc2215c84d0ecf243a1c0c0a76c1561", func := "narrator/narratorlaw20.ViewdiffApplies", spec := "viewdiffApplies", unfollowed := true, recurses := true, named := ["unicode/utf8.first", "unicode/utf8.acceptRanges"], apart := false, laid := [("unicode/utf8.acceptRanges", laid_unicode_utf8_acceptRanges), ("unicode/utf8.first", laid_unicode_utf8_first)] }
def ViewdiffAppliesSaid : Prop := viewdiffAppliesRow.holds Tryd.pinned (OpenSpec.ofChange viewdiffAppliesSpec)

/-- ITS FALSE NEIGHBOUR: 'it returns false'. Refute it at one input. -/
def viewdiffAppliesWrong : ChangeSpec := { name := "viewdiffApplies", fn := fun _ => fun
  | [d1, d2] => { results := [.lit (.bool false)], args := [d1, d2] }
  | _ => none }
def ViewdiffAppliesWrongFalsely : Prop := viewdiffAppliesRow.holds Tryd.pinned (OpenSpec.ofChange viewdiffAppliesWrong)

/-- 'narratorlaw20.ViewdiffEmpty': WHATEVER THE INPUT: true; the input reads as it did. -/
def viewdiffEmptySpec : ChangeSpec := { name := "viewdiffEmpty", fn := fun _ => fun
  | [d1, d2] => { results := [.lit (.bool true)], args := [d1, d2] }
  | _ => none }
def viewdiffEmptyRow : OpenClaim := { program := "ytigfbnglplbbpaadoor", sum := "c23c5253a5eeb4132fceb3500b5bef213cc2215c84d0ecf243a1c0c0a76c1561", func := "narrator/narratorlaw20.ViewdiffEmpty", spec := "viewdiffEmpty", unfollowed := true, recurses := true, named := ["unicode/utf8.first", "unicode/utf8.acceptRanges"], apart := false, laid := [("unicode/utf8.acceptRanges", laid_unicode_utf8_acceptRanges), ("unicode/utf8.first", laid_unicode_utf8_first)] }
def ViewdiffEmptySaid : Prop := viewdiffEmptyRow.holds Tryd.pinned (OpenSpec.ofChange viewdiffEmptySpec)

/-- ITS FALSE NEIGHBOUR: 'it returns false'. Refute it at one input. -/
def viewdiffEmptyWrong : ChangeSpec := { name := "viewdiffEmpty", fn := fun _ => fun
  | [d1, d2] => { results := [.lit (.bool false)], args := [d1, d2] }
  | _ => none }
def ViewdiffEmptyWrongFalsely : Prop := viewdiffEmptyRow.holds Tryd.pinned (OpenSpec.ofChange viewdiffEmptyWrong)

/-- 'narratorlaw20.ViewdiffForm': WHATEVER THE INPUT: true; the input reads as it did. -/
def viewdiffFormSpec : ChangeSpec := { name := "viewdiffForm", fn := fun _ => fun
  | [d1, d2] => { results := [.lit (.bool true)], args := [d1, d2] }
  | _ => none }
def viewdiffFormRow : OpenClaim := { program := "ytigfbnglplbbpaadoor", sum := "c23c5253a5eeb4132fceb3500b5bef213cc2215c84d0ecf243a1c0c0a76c1561", func := "narrator/narratorlaw20.ViewdiffForm", spec := "viewdiffForm", unfollowed := true, recurses := true, named := ["unicode/utf8.first", "unicode/utf8.acceptRanges"], apart := false, laid := [("unicode/utf8.acceptRanges", laid_unicode_utf8_acceptRanges), ("unicode/utf8.first", laid_unicode_utf8_first)] }
def ViewdiffFormSaid : Prop := viewdiffFormRow.holds Tryd.pinned (OpenSpec.ofChange viewdiffFormSpec)

/-- ITS FALSE NEIGHBOUR: 'it returns false'. Refute it at one input. -/
def viewdiffFormWrong : ChangeSpec := { name := "viewdiffForm", fn := fun _ => fun
  | [d1, d2] => { results := [.lit (.bool false)], args := [d1, d2] }
  | _ => none }
def ViewdiffFormWrongFalsely : Prop := viewdiffFormRow.holds Tryd.pinned (OpenSpec.ofChange viewdiffFormWrong)

/-- 'narratorlaw20.ViewdiffResults': WHATEVER THE INPUT: true; the input reads as it did. -/
def viewdiffResultsSpec : ChangeSpec := { name := "viewdiffResults", fn := fun _ => fun
  | [d1, d2, d3] => { results := [.lit (.bool true)], args := [d1, d2, d3] }
  | _ => none }
def viewdiffResultsRow : OpenClaim := { program := "ytigfbnglplbbpaadoor", sum := "c23c5253a5eeb4132fceb3500b5bef213cc2215c84d0ecf243a1c0c0a76c1561", func := "narrator/narratorlaw20.ViewdiffResults", spec := "viewdiffResults", unfollowed := true, recurses := true, named := ["unicode/utf8.first", "unicode/utf8.acceptRanges"], apart := false, laid := [("unicode/utf8.acceptRanges", laid_unicode_utf8_acceptRanges), ("unicode/utf8.first", laid_unicode_utf8_first)] }
def ViewdiffResultsSaid : Prop := viewdiffResultsRow.holds Tryd.pinned (OpenSpec.ofChange viewdiffResultsSpec)

/-- ITS FALSE NEIGHBOUR: 'it returns false'. Refute it at one input. -/
def viewdiffResultsWrong : ChangeSpec := { name := "viewdiffResults", fn := fun _ => fun
  | [d1, d2, d3] => { results := [.lit (.bool false)], args := [d1, d2, d3] }
  | _ => none }
def ViewdiffResultsWrongFalsely : Prop := viewdiffResultsRow.holds Tryd.pinned (OpenSpec.ofChange viewdiffResultsWrong)

/-- 'narratorlaw20.ViewdiffCost': WHATEVER THE INPUT: true; the input reads as it did. -/
def viewdiffCostSpec : ChangeSpec := { name := "viewdiffCost", fn := fun _ => fun
  | [d1, d2] => { results := [.lit (.bool true)], args := [d1, d2] }
  | _ => none }
def viewdiffCostRow : OpenClaim := { program := "ytigfbnglplbbpaadoor", sum := "c23c5253a5eeb4132fceb3500b5bef213cc2215c84d0ecf243a1c0c0a76c1561", func := "narrator/narratorlaw20.ViewdiffCost", spec := "viewdiffCost", unfollowed := true, recurses := true, named := ["unicode/utf8.first", "unicode/utf8.acceptRanges"], apart := false, laid := [("unicode/utf8.acceptRanges", laid_unicode_utf8_acceptRanges), ("unicode/utf8.first", laid_unicode_utf8_first)] }
def ViewdiffCostSaid : Prop := viewdiffCostRow.holds Tryd.pinned (OpenSpec.ofChange viewdiffCostSpec)

/-- ITS FALSE NEIGHBOUR: 'it returns false'. Refute it at one input. -/
def viewdiffCostWrong : ChangeSpec := { name := "viewdiffCost", fn := fun _ => fun
  | [d1, d2] => { results := [.lit (.bool false)], args := [d1, d2] }
  | _ => none }
def ViewdiffCostWrongFalsely : Prop := viewdiffCostRow.holds Tryd.pinned (OpenSpec.ofChange viewdiffCostWrong)

/-- 'narratorlaw20.ViewdiffLocal': WHATEVER THE INPUT: true; the input reads as it did. -/
def viewdiffLocalSpec : ChangeSpec := { name := "viewdiffLocal", fn := fun _ => fun
  | [d1, d2] => { results := [.lit (.bool true)], args := [d1, d2] }
  | _ => none }
def viewdiffLocalRow : OpenClaim := { program := "ytigfbnglplbbpaadoor", sum := "c23c5253a5eeb4132fceb3500b5bef213cc2215c84d0ecf243a1c0c0a76c1561", func := "narrator/narratorlaw20.ViewdiffLocal", spec := "viewdiffLocal", unfollowed := true, recurses := true, named := ["unicode/utf8.first", "unicode/utf8.acceptRanges"], apart := false, laid := [("unicode/utf8.acceptRanges", laid_unicode_utf8_acceptRanges), ("unicode/utf8.first", laid_unicode_utf8_first)] }
def ViewdiffLocalSaid : Prop := viewdiffLocalRow.holds Tryd.pinned (OpenSpec.ofChange viewdiffLocalSpec)

/-- ITS FALSE NEIGHBOUR: 'it returns false'. Refute it at one input. -/
def viewdiffLocalWrong : ChangeSpec := { name := "viewdiffLocal", fn := fun _ => fun
  | [d1, d2] => { results := [.lit (.bool false)], args := [d1, d2] }
  | _ => none }
def ViewdiffLocalWrongFalsely : Prop := viewdiffLocalRow.holds Tryd.pinned (OpenSpec.ofChange viewdiffLocalWrong)

/-- 'narratorlaw20.ViewdiffUndone': WHATEVER THE INPUT: true; the input reads as it did. -/
def viewdiffUndoneSpec : ChangeSpec := { name := "viewdiffUndone", fn := fun _ => fun
  | [d1, d2] => { results := [.lit (.bool true)], args := [d1, d2] }
  | _ => none }
def viewdiffUndoneRow : OpenClaim := { program := "ytigfbnglplbbpaadoor", sum := "c23c5253a5eeb4132fceb3500b5bef213cc2215c84d0ecf243a1c0c0a76c1561", func := "narrator/narratorlaw20.ViewdiffUndone", spec := "viewdiffUndone", unfollowed := true, recurses := true, named := ["unicode/utf8.first", "unicode/utf8.acceptRanges"], apart := false, laid := [("unicode/utf8.acceptRanges", laid_unicode_utf8_acceptRanges), ("unicode/utf8.first", laid_unicode_utf8_first)] }
def ViewdiffUndoneSaid : Prop := viewdiffUndoneRow.holds Tryd.pinned (OpenSpec.ofChange viewdiffUndoneSpec)

/-- ITS FALSE NEIGHBOUR: 'it returns false'. Refute it at one input. -/
def viewdiffUndoneWrong : ChangeSpec := { name := "viewdiffUndone", fn := fun _ => fun
  | [d1, d2] => { results := [.lit (.bool false)], args := [d1, d2] }
  | _ => none }
def ViewdiffUndoneWrongFalsely : Prop := viewdiffUndoneRow.holds Tryd.pinned (OpenSpec.ofChange viewdiffUndoneWrong)

/- THE SECOND FORM. 'bulk': how many values and letters a reading holds, each counted each time it is reached (what is shared counts as often as it is met; a slice's spare places count too). A statement '..UptoSaid' is the law's where the arguments, and the package variables that the reading takes, are together of bulk at most 1048576: NARROWER than '..Said'. Prove '..Said' where nothing that the law and all that it calls make is longer than what came in: it says more and counts as full. Else prove '..UptoSaid'. A law counts once. -/
mutual
def uptoBulk {H : Type} : DataW H → Nat
  | .lit (.string bytes) => bytes.length + 1
  | .lit _ => 1
  | .nil => 1
  | .ptr d => uptoBulk d + 1
  | .slice elems spare => uptoBulkAll elems + uptoBulkAll spare + 1
  | .agg parts => uptoBulkAll parts + 1
  | .iface _ d => uptoBulk d + 1
  | .map entries => uptoBulkEntries entries + 1
  | .held _ => 1
def uptoBulkAll {H : Type} : List (DataW H) → Nat
  | [] => 0
  | d :: r => uptoBulk d + uptoBulkAll r
def uptoBulkEntries {H : Type} : List (Lit × DataW H) → Nat
  | [] => 0
  | x :: r => uptoBulkEntry x + uptoBulkEntries r
def uptoBulkEntry {H : Type} : Lit × DataW H → Nat
  | (.string bytes, d) => bytes.length + uptoBulk d + 1
  | (_, d) => uptoBulk d + 1
 end
def uptoSmall : (H : Type) → List (DataW H) → Bool := fun _ ds => decide (uptoBulkAll ds ≤ 1048576)
def OpenSpec.upto (s : _root_.Go.ChangeSpec) : _root_.Go.OpenSpec := { _root_.Go.OpenSpec.ofChange s with cond := some uptoSmall }

/-- 'narratorlaw20.ViewdiffApplies', WHERE WHAT IT READS IS OF BULK AT MOST 1048576: true; the input reads as it did. -/
def viewdiffAppliesUptoRow : OpenClaim := { program := "ytigfbnglplbbpaadoor", sum := "c23c5253a5eeb4132fceb3500b5bef213cc2215c84d0ecf243a1c0c0a76c1561", func := "narrator/narratorlaw20.ViewdiffApplies", spec := "viewdiffApplies", unfollowed := true, recurses := true, named := ["unicode/utf8.first", "unicode/utf8.acceptRanges"], apart := false, laid := [("unicode/utf8.acceptRanges", laid_unicode_utf8_acceptRanges), ("unicode/utf8.first", laid_unicode_utf8_first)], narrowed := true }
def ViewdiffAppliesUptoSaid : Prop := viewdiffAppliesUptoRow.holds Tryd.pinned (OpenSpec.upto viewdiffAppliesSpec)

/-- 'narratorlaw20.ViewdiffEmpty', WHERE WHAT IT READS IS OF BULK AT MOST 1048576: true; the input reads as it did. -/
def viewdiffEmptyUptoRow : OpenClaim := { program := "ytigfbnglplbbpaadoor", sum := "c23c5253a5eeb4132fceb3500b5bef213cc2215c84d0ecf243a1c0c0a76c1561", func := "narrator/narratorlaw20.ViewdiffEmpty", spec := "viewdiffEmpty", unfollowed := true, recurses := true, named := ["unicode/utf8.first", "unicode/utf8.acceptRanges"], apart := false, laid := [("unicode/utf8.acceptRanges", laid_unicode_utf8_acceptRanges), ("unicode/utf8.first", laid_unicode_utf8_first)], narrowed := true }
def ViewdiffEmptyUptoSaid : Prop := viewdiffEmptyUptoRow.holds Tryd.pinned (OpenSpec.upto viewdiffEmptySpec)

/-- 'narratorlaw20.ViewdiffForm', WHERE WHAT IT READS IS OF BULK AT MOST 1048576: true; the input reads as it did. -/
def viewdiffFormUptoRow : OpenClaim := { program := "ytigfbnglplbbpaadoor", sum := "c23c5253a5eeb4132fceb3500b5bef213cc2215c84d0ecf243a1c0c0a76c1561", func := "narrator/narratorlaw20.ViewdiffForm", spec := "viewdiffForm", unfollowed := true, recurses := true, named := ["unicode/utf8.first", "unicode/utf8.acceptRanges"], apart := false, laid := [("unicode/utf8.acceptRanges", laid_unicode_utf8_acceptRanges), ("unicode/utf8.first", laid_unicode_utf8_first)], narrowed := true }
def ViewdiffFormUptoSaid : Prop := viewdiffFormUptoRow.holds Tryd.pinned (OpenSpec.upto viewdiffFormSpec)

/-- 'narratorlaw20.ViewdiffResults', WHERE WHAT IT READS IS OF BULK AT MOST 1048576: true; the input reads as it did. -/
def viewdiffResultsUptoRow : OpenClaim := { program := "ytigfbnglplbbpaadoor", sum := "c23c5253a5eeb4132fceb3500b5bef213cc2215c84d0ecf243a1c0c0a76c1561", func := "narrator/narratorlaw20.ViewdiffResults", spec := "viewdiffResults", unfollowed := true, recurses := true, named := ["unicode/utf8.first", "unicode/utf8.acceptRanges"], apart := false, laid := [("unicode/utf8.acceptRanges", laid_unicode_utf8_acceptRanges), ("unicode/utf8.first", laid_unicode_utf8_first)], narrowed := true }
def ViewdiffResultsUptoSaid : Prop := viewdiffResultsUptoRow.holds Tryd.pinned (OpenSpec.upto viewdiffResultsSpec)

/-- 'narratorlaw20.ViewdiffCost', WHERE WHAT IT READS IS OF BULK AT MOST 1048576: true; the input reads as it did. -/
def viewdiffCostUptoRow : OpenClaim := { program := "ytigfbnglplbbpaadoor", sum := "c23c5253a5eeb4132fceb3500b5bef213cc2215c84d0ecf243a1c0c0a76c1561", func := "narrator/narratorlaw20.ViewdiffCost", spec := "viewdiffCost", unfollowed := true, recurses := true, named := ["unicode/utf8.first", "unicode/utf8.acceptRanges"], apart := false, laid := [("unicode/utf8.acceptRanges", laid_unicode_utf8_acceptRanges), ("unicode/utf8.first", laid_unicode_utf8_first)], narrowed := true }
def ViewdiffCostUptoSaid : Prop := viewdiffCostUptoRow.holds Tryd.pinned (OpenSpec.upto viewdiffCostSpec)

/-- 'narratorlaw20.ViewdiffLocal', WHERE WHAT IT READS IS OF BULK AT MOST 1048576: true; the input reads as it did. -/
def viewdiffLocalUptoRow : OpenClaim := { program := "ytigfbnglplbbpaadoor", sum := "c23c5253a5eeb4132fceb3500b5bef213cc2215c84d0ecf243a1c0c0a76c1561", func := "narrator/narratorlaw20.ViewdiffLocal", spec := "viewdiffLocal", unfollowed := true, recurses := true, named := ["unicode/utf8.first", "unicode/utf8.acceptRanges"], apart := false, laid := [("unicode/utf8.acceptRanges", laid_unicode_utf8_acceptRanges), ("unicode/utf8.first", laid_unicode_utf8_first)], narrowed := true }
def ViewdiffLocalUptoSaid : Prop := viewdiffLocalUptoRow.holds Tryd.pinned (OpenSpec.upto viewdiffLocalSpec)

/-- 'narratorlaw20.ViewdiffUndone', WHERE WHAT IT READS IS OF BULK AT MOST 1048576: true; the input reads as it did. -/
def viewdiffUndoneUptoRow : OpenClaim := { program := "ytigfbnglplbbpaadoor", sum := "c23c5253a5eeb4132fceb3500b5bef213cc2215c84d0ecf243a1c0c0a76c1561", func := "narrator/narratorlaw20.ViewdiffUndone", spec := "viewdiffUndone", unfollowed := true, recurses := true, named := ["unicode/utf8.first", "unicode/utf8.acceptRanges"], apart := false, laid := [("unicode/utf8.acceptRanges", laid_unicode_utf8_acceptRanges), ("unicode/utf8.first", laid_unicode_utf8_first)], narrowed := true }
def ViewdiffUndoneUptoSaid : Prop := viewdiffUndoneUptoRow.holds Tryd.pinned (OpenSpec.upto viewdiffUndoneSpec)

end Rows
end Go.Proofs.YtigfbnglplbbpaaDoor
