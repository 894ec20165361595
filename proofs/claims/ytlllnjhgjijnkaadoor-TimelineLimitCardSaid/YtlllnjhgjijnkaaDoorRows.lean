/-
  NARROWER THAN 'FOR EVERY INPUT', by the rows' own cells (each row's printed sentence says how): TimelineViews: laid · TimelineTimes: laid · TimelineEqual: laid · TimelineLimit: laid · TimelineSteps: laid · TimelineKeep: laid.
  DERIVED. THE GIVEN ROWS OF THIS SEAT. 6 by the template 'for every input the law returns true; each argument reads behind the call as it read before'; 0 by the template 'total and deterministic' (their statements: YtlllnjhgjijnkaaDoorTotals.lean).
  GIVEN WITH THE SEED: the statements are not yours to turn. If you find one false, say at which input.
  Laid BY PROGRAM, IN A SANDBOX (cutbox-rows.mjs): the forced cells as the released guide's own fill.sh prints them over the translation 86301ba8fcd96ff4… (all of the seat's roots in one cut). By AI agents, Wed Nov 11 2026. No macro, syntax, notation, axiom, sorry.
-/
import Derived.Test.YtlllnjhgjijnkaaDoorChecked
import GoSem.PinnedTables
import GoSem.Claim
import GoSem.ClaimJoined
import GoSem.ClaimMapViews
import Derived.JoinedTies
import Derived.KernelRfl
namespace Go.Proofs.YtlllnjhgjijnkaaDoor
/- THE CELL 'sum', in the pinned program and in every row, IS THE sha256 OF THE DUMP (.gsa) THAT YtlllnjhgjijnkaaDoorProg.lean LOADS. Nothing in Lean hashes anything: it is a label: what it is worth is what the hold of that sum in a sandbox is worth. -/
noncomputable def Tryd.pinned : Pinned := { name := "ytlllnjhgjijnkaadoor", sum := "86301ba8fcd96ff4b66c20ae2946bd5979c1f69cb90398f00245a330f6311e81", checked := Tryd.checked }
namespace Rows
def none {H : Type} : Left H := { results := [], args := [] }

/- WHAT THE LISTED PACKAGE-LEVEL VARIABLES READ AS WHEN THE CALL BEGINS. Each datum BY PROGRAM (the guide's laid-datum.mjs) off the statement by which the dump's own 'gosem.cut.vars' lays the variable. In a bare row this is a premise. The card (YtlllnjhgjijnkaaDoorCards.lean) ties it to the program's text. -/
def laid_unicode_utf8_acceptRanges {H : Type} : DataW H := .agg [.agg [.lit (.int .u8 128), .lit (.int .u8 191)], .agg [.lit (.int .u8 160), .lit (.int .u8 191)], .agg [.lit (.int .u8 128), .lit (.int .u8 159)], .agg [.lit (.int .u8 144), .lit (.int .u8 191)], .agg [.lit (.int .u8 128), .lit (.int .u8 143)], .agg [.lit (.int .u8 0), .lit (.int .u8 0)], .agg [.lit (.int .u8 0), .lit (.int .u8 0)], .agg [.lit (.int .u8 0), .lit (.int .u8 0)], .agg [.lit (.int .u8 0), .lit (.int .u8 0)], .agg [.lit (.int .u8 0), .lit (.int .u8 0)], .agg [.lit (.int .u8 0), .lit (.int .u8 0)], .agg [.lit (.int .u8 0), .lit (.int .u8 0)], .agg [.lit (.int .u8 0), .lit (.int .u8 0)], .agg [.lit (.int .u8 0), .lit (.int .u8 0)], .agg [.lit (.int .u8 0), .lit (.int .u8 0)], .agg [.lit (.int .u8 0), .lit (.int .u8 0)]]
/-- One of Go's own tables, pinned by name: the form's constant. -/
def laid_unicode_utf8_first : DataW Unit := Go.Pinned.utf8First

/-- 'narratorlaw21.TimelineViews': WHATEVER THE INPUT: true; the input reads as it did. -/
def timelineViewsSpec : ChangeSpec := { name := "timelineViews", fn := fun _ => fun
  | [d] => { results := [.lit (.bool true)], args := [d] }
  | _ => none }
def timelineViewsRow : OpenClaim := { program := "ytlllnjhgjijnkaadoor", sum := "86301ba8fcd96ff4b66c20ae2946bd5979c1f69cb90398f00245a330f6311e81", func := "narrator/narratorlaw21.TimelineViews", spec := "timelineViews", unfollowed := true, recurses := true, named := ["unicode/utf8.first", "unicode/utf8.acceptRanges"], apart := false, laid := [("unicode/utf8.acceptRanges", laid_unicode_utf8_acceptRanges), ("unicode/utf8.first", laid_unicode_utf8_first)] }
def TimelineViewsSaid : Prop := timelineViewsRow.holds Tryd.pinned (OpenSpec.ofChange timelineViewsSpec)

/-- ITS FALSE NEIGHBOUR: 'it returns false'. Refute it at one input. -/
def timelineViewsWrong : ChangeSpec := { name := "timelineViews", fn := fun _ => fun
  | [d] => { results := [.lit (.bool false)], args := [d] }
  | _ => none }
def TimelineViewsWrongFalsely : Prop := timelineViewsRow.holds Tryd.pinned (OpenSpec.ofChange timelineViewsWrong)

/-- 'narratorlaw21.TimelineTimes': WHATEVER THE INPUT: true; the input reads as it did. -/
def timelineTimesSpec : ChangeSpec := { name := "timelineTimes", fn := fun _ => fun
  | [d1, d2] => { results := [.lit (.bool true)], args := [d1, d2] }
  | _ => none }
def timelineTimesRow : OpenClaim := { program := "ytlllnjhgjijnkaadoor", sum := "86301ba8fcd96ff4b66c20ae2946bd5979c1f69cb90398f00245a330f6311e81", func := "narrator/narratorlaw21.TimelineTimes", spec := "timelineTimes", unfollowed := true, recurses := true, named := ["unicode/utf8.first", "unicode/utf8.acceptRanges"], apart := false, laid := [("unicode/utf8.acceptRanges", laid_unicode_utf8_acceptRanges), ("unicode/utf8.first", laid_unicode_utf8_first)] }
def TimelineTimesSaid : Prop := timelineTimesRow.holds Tryd.pinned (OpenSpec.ofChange timelineTimesSpec)

/-- ITS FALSE NEIGHBOUR: 'it returns false'. Refute it at one input. -/
def timelineTimesWrong : ChangeSpec := { name := "timelineTimes", fn := fun _ => fun
  | [d1, d2] => { results := [.lit (.bool false)], args := [d1, d2] }
  | _ => none }
def TimelineTimesWrongFalsely : Prop := timelineTimesRow.holds Tryd.pinned (OpenSpec.ofChange timelineTimesWrong)

/-- 'narratorlaw21.TimelineEqual': WHATEVER THE INPUT: true; the input reads as it did. -/
def timelineEqualSpec : ChangeSpec := { name := "timelineEqual", fn := fun _ => fun
  | [d1, d2] => { results := [.lit (.bool true)], args := [d1, d2] }
  | _ => none }
def timelineEqualRow : OpenClaim := { program := "ytlllnjhgjijnkaadoor", sum := "86301ba8fcd96ff4b66c20ae2946bd5979c1f69cb90398f00245a330f6311e81", func := "narrator/narratorlaw21.TimelineEqual", spec := "timelineEqual", unfollowed := true, recurses := true, named := ["unicode/utf8.first", "unicode/utf8.acceptRanges"], apart := false, laid := [("unicode/utf8.acceptRanges", laid_unicode_utf8_acceptRanges), ("unicode/utf8.first", laid_unicode_utf8_first)] }
def TimelineEqualSaid : Prop := timelineEqualRow.holds Tryd.pinned (OpenSpec.ofChange timelineEqualSpec)

/-- ITS FALSE NEIGHBOUR: 'it returns false'. Refute it at one input. -/
def timelineEqualWrong : ChangeSpec := { name := "timelineEqual", fn := fun _ => fun
  | [d1, d2] => { results := [.lit (.bool false)], args := [d1, d2] }
  | _ => none }
def TimelineEqualWrongFalsely : Prop := timelineEqualRow.holds Tryd.pinned (OpenSpec.ofChange timelineEqualWrong)

/-- 'narratorlaw21.TimelineLimit': WHATEVER THE INPUT: true; the input reads as it did. -/
def timelineLimitSpec : ChangeSpec := { name := "timelineLimit", fn := fun _ => fun
  | [d] => { results := [.lit (.bool true)], args := [d] }
  | _ => none }
def timelineLimitRow : OpenClaim := { program := "ytlllnjhgjijnkaadoor", sum := "86301ba8fcd96ff4b66c20ae2946bd5979c1f69cb90398f00245a330f6311e81", func := "narrator/narratorlaw21.TimelineLimit", spec := "timelineLimit", unfollowed := true, recurses := true, named := ["unicode/utf8.first", "unicode/utf8.acceptRanges"], apart := false, laid := [("unicode/utf8.acceptRanges", laid_unicode_utf8_acceptRanges), ("unicode/utf8.first", laid_unicode_utf8_first)] }
def TimelineLimitSaid : Prop := timelineLimitRow.holds Tryd.pinned (OpenSpec.ofChange timelineLimitSpec)

/-- ITS FALSE NEIGHBOUR: 'it returns false'. Refute it at one input. -/
def timelineLimitWrong : ChangeSpec := { name := "timelineLimit", fn := fun _ => fun
  | [d] => { results := [.lit (.bool false)], args := [d] }
  | _ => none }
def TimelineLimitWrongFalsely : Prop := timelineLimitRow.holds Tryd.pinned (OpenSpec.ofChange timelineLimitWrong)

/-- 'narratorlaw21.TimelineSteps': WHATEVER THE INPUT: true; the input reads as it did. -/
def timelineStepsSpec : ChangeSpec := { name := "timelineSteps", fn := fun _ => fun
  | [d] => { results := [.lit (.bool true)], args := [d] }
  | _ => none }
def timelineStepsRow : OpenClaim := { program := "ytlllnjhgjijnkaadoor", sum := "86301ba8fcd96ff4b66c20ae2946bd5979c1f69cb90398f00245a330f6311e81", func := "narrator/narratorlaw21.TimelineSteps", spec := "timelineSteps", unfollowed := true, recurses := true, named := ["unicode/utf8.first", "unicode/utf8.acceptRanges"], apart := false, laid := [("unicode/utf8.acceptRanges", laid_unicode_utf8_acceptRanges), ("unicode/utf8.first", laid_unicode_utf8_first)] }
def TimelineStepsSaid : Prop := timelineStepsRow.holds Tryd.pinned (OpenSpec.ofChange timelineStepsSpec)

/-- ITS FALSE NEIGHBOUR: 'it returns false'. Refute it at one input. -/
def timelineStepsWrong : ChangeSpec := { name := "timelineSteps", fn := fun _ => fun
  | [d] => { results := [.lit (.bool false)], args := [d] }
  | _ => none }
def TimelineStepsWrongFalsely : Prop := timelineStepsRow.holds Tryd.pinned (OpenSpec.ofChange timelineStepsWrong)

/-- 'narratorlaw21.TimelineKeep': WHATEVER THE INPUT: true; the input reads as it did. -/
def timelineKeepSpec : ChangeSpec := { name := "timelineKeep", fn := fun _ => fun
  | [d1, d2] => { results := [.lit (.bool true)], args := [d1, d2] }
  | _ => none }
def timelineKeepRow : OpenClaim := { program := "ytlllnjhgjijnkaadoor", sum := "86301ba8fcd96ff4b66c20ae2946bd5979c1f69cb90398f00245a330f6311e81", func := "narrator/narratorlaw21.TimelineKeep", spec := "timelineKeep", unfollowed := true, recurses := true, named := ["unicode/utf8.first", "unicode/utf8.acceptRanges"], apart := false, laid := [("unicode/utf8.acceptRanges", laid_unicode_utf8_acceptRanges), ("unicode/utf8.first", laid_unicode_utf8_first)] }
def TimelineKeepSaid : Prop := timelineKeepRow.holds Tryd.pinned (OpenSpec.ofChange timelineKeepSpec)

/-- ITS FALSE NEIGHBOUR: 'it returns false'. Refute it at one input. -/
def timelineKeepWrong : ChangeSpec := { name := "timelineKeep", fn := fun _ => fun
  | [d1, d2] => { results := [.lit (.bool false)], args := [d1, d2] }
  | _ => none }
def TimelineKeepWrongFalsely : Prop := timelineKeepRow.holds Tryd.pinned (OpenSpec.ofChange timelineKeepWrong)

/- THE SECOND FORM. 'bulk': how many values and letters a reading holds, each counted each time it is reached (what is shared counts as often as it is met; a slice's spare places count too). A statement '..UptoSaid' is the law's where the arguments, and the package variables that the reading takes, are together of bulk at most 1048576: NARROWER than '..Said'. Prove '..Said' where nothing that the law and all that it calls make is longer than what came in: it says more and counts as full. Else prove '..UptoSaid'. A law counts once. -/
mutual
def uptoBulk {H : Type} : DataW H → Nat
  | .lit (.string bytes) => bytes.length + 1
  | .lit _ => 1
  | .nil => 1
  | .ptr d => uptoBulk d + 1
  | .slice elems spare => uptoBulkAll elems + uptoBulkAll spare + 1
  | .agg parts => uptoBulkAll parts + 1
  | .iface _ d => uptoBulk d + 1
  | .map entries => uptoBulkEntries entries + 1
  | .held _ => 1
def uptoBulkAll {H : Type} : List (DataW H) → Nat
  | [] => 0
  | d :: r => uptoBulk d + uptoBulkAll r
def uptoBulkEntries {H : Type} : List (Lit × DataW H) → Nat
  | [] => 0
  | x :: r => uptoBulkEntry x + uptoBulkEntries r
def uptoBulkEntry {H : Type} : Lit × DataW H → Nat
  | (.string bytes, d) => bytes.length + uptoBulk d + 1
  | (_, d) => uptoBulk d + 1
 end
def uptoSmall : (H : Type) → List (DataW H) → Bool := fun _ ds => decide (uptoBulkAll ds ≤ 1048576)
def OpenSpec.upto (s : _root_.Go.ChangeSpec) : _root_.Go.OpenSpec := { _root_.Go.OpenSpec.ofChange s with cond := some uptoSmall }

/-- 'narratorlaw21.TimelineViews', WHERE WHAT IT READS IS OF BULK AT MOST 1048576: true; the input reads as it did. -/
def timelineViewsUptoRow : OpenClaim := { program := "ytlllnjhgjijnkaadoor", sum := "86301ba8fcd96ff4b66c20ae2946bd5979c1f69cb90398f00245a330f6311e81", func := "narrator/narratorlaw21.TimelineViews", spec := "timelineViews", unfollowed := true, recurses := true, named := ["unicode/utf8.first", "unicode/utf8.acceptRanges"], apart := false, laid := [("unicode/utf8.acceptRanges", laid_unicode_utf8_acceptRanges), ("unicode/utf8.first", laid_unicode_utf8_first)], narrowed := true }
def TimelineViewsUptoSaid : Prop := timelineViewsUptoRow.holds Tryd.pinned (OpenSpec.upto timelineViewsSpec)

/-- 'narratorlaw21.TimelineTimes', WHERE WHAT IT READS IS OF BULK AT MOST 1048576: true; the input reads as it did. -/
def timelineTimesUptoRow : OpenClaim := { program := "ytlllnjhgjijnkaadoor", sum := "86301ba8fcd96ff4b66c20ae2946bd5979c1f69cb90398f00245a330f6311e81", func := "narrator/narratorlaw21.TimelineTimes", spec := "timelineTimes", unfollowed := true, recurses := true, named := ["unicode/utf8.first", "unicode/utf8.acceptRanges"], apart := false, laid := [("unicode/utf8.acceptRanges", laid_unicode_utf8_acceptRanges), ("unicode/utf8.first", laid_unicode_utf8_first)], narrowed := true }
def TimelineTimesUptoSaid : Prop := timelineTimesUptoRow.holds Tryd.pinned (OpenSpec.upto timelineTimesSpec)

/-- 'narratorlaw21.TimelineEqual', WHERE WHAT IT READS IS OF BULK AT MOST 1048576: true; the input reads as it did. -/
def timelineEqualUptoRow : OpenClaim := { program := "ytlllnjhgjijnkaadoor", sum := "86301ba8fcd96ff4b66c20ae2946bd5979c1f69cb90398f00245a330f6311e81", func := "narrator/narratorlaw21.TimelineEqual", spec := "timelineEqual", unfollowed := true, recurses := true, named := ["unicode/utf8.first", "unicode/utf8.acceptRanges"], apart := false, laid := [("unicode/utf8.acceptRanges", laid_unicode_utf8_acceptRanges), ("unicode/utf8.first", laid_unicode_utf8_first)], narrowed := true }
def TimelineEqualUptoSaid : Prop := timelineEqualUptoRow.holds Tryd.pinned (OpenSpec.upto timelineEqualSpec)

/-- 'narratorlaw21.TimelineLimit', WHERE WHAT IT READS IS OF BULK AT MOST 1048576: true; the input reads as it did. -/
def timelineLimitUptoRow : OpenClaim := { program := "ytlllnjhgjijnkaadoor", sum := "86301ba8fcd96ff4b66c20ae2946bd5979c1f69cb90398f00245a330f6311e81", func := "narrator/narratorlaw21.TimelineLimit", spec := "timelineLimit", unfollowed := true, recurses := true, named := ["unicode/utf8.first", "unicode/utf8.acceptRanges"], apart := false, laid := [("unicode/utf8.acceptRanges", laid_unicode_utf8_acceptRanges), ("unicode/utf8.first", laid_unicode_utf8_first)], narrowed := true }
def TimelineLimitUptoSaid : Prop := timelineLimitUptoRow.holds Tryd.pinned (OpenSpec.upto timelineLimitSpec)

/-- 'narratorlaw21.TimelineSteps', WHERE WHAT IT READS IS OF BULK AT MOST 1048576: true; the input reads as it did. -/
def timelineStepsUptoRow : OpenClaim := { program := "ytlllnjhgjijnkaadoor", sum := "86301ba8fcd96ff4b66c20ae2946bd5979c1f69cb90398f00245a330f6311e81", func := "narrator/narratorlaw21.TimelineSteps", spec := "timelineSteps", unfollowed := true, recurses := true, named := ["unicode/utf8.first", "unicode/utf8.acceptRanges"], apart := false, laid := [("unicode/utf8.acceptRanges", laid_unicode_utf8_acceptRanges), ("unicode/utf8.first", laid_unicode_utf8_first)], narrowed := true }
def TimelineStepsUptoSaid : Prop := timelineStepsUptoRow.holds Tryd.pinned (OpenSpec.upto timelineStepsSpec)

/-- 'narratorlaw21.TimelineKeep', WHERE WHAT IT READS IS OF BULK AT MOST 1048576: true; the input reads as it did. -/
def timelineKeepUptoRow : OpenClaim := { program := "ytlllnjhgjijnkaadoor", sum := "86301ba8fcd96ff4b66c20ae2946bd5979c1f69cb90398f00245a330f6311e81", func := "narrator/narratorlaw21.TimelineKeep", spec := "timelineKeep", unfollowed := true, recurses := true, named := ["unicode/utf8.first", "unicode/utf8.acceptRanges"], apart := false, laid := [("unicode/utf8.acceptRanges", laid_unicode_utf8_acceptRanges), ("unicode/utf8.first", laid_unicode_utf8_first)], narrowed := true }
def TimelineKeepUptoSaid : Prop := timelineKeepUptoRow.holds Tryd.pinned (OpenSpec.upto timelineKeepSpec)

end Rows
end Go.Proofs.YtlllnjhgjijnkaaDoor
