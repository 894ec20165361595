/-
  NARROWER THAN 'FOR EVERY INPUT', by the rows' own cells (each row's printed sentence says how): GridScroll: laid · GridScrollSteps: laid · GridCheck: laid · GridScrollBack: laid · GridEdits: laid · GridResize: laid · GridSizes: laid · GridProper: laid.
  DERIVED. THE GIVEN ROWS OF THIS SEAT. 8 by the template 'for every input the law returns true; each argument reads behind the call as it read before'; 0 by the template 'total and deterministic' (their statements: YthpbagpnnokalaaDoorTotals.lean).
  GIVEN WITH THE SEED: the statements are not yours to turn. If you find one false, say at which input.
  Laid BY PROGRAM, IN A SANDBOX (cutbox-rows.mjs): the forced cells as the released guide's own fill.sh prints them over the translation 4b0e3a01d9425c76… (all of the seat's roots in one cut). By AI agents, Wed Nov 11 2026. No macro, syntax, notation, axiom, sorry.
-/
import Derived.Test.YthpbagpnnokalaaDoorChecked
import GoSem.PinnedTables
import GoSem.Claim
import GoSem.ClaimJoined
import GoSem.ClaimMapViews
import Derived.JoinedTies
import Derived.KernelRfl
namespace Go.Proofs.YthpbagpnnokalaaDoor
/- THE CELL 'sum', in the pinned program and in every row, IS THE sha256 OF THE DUMP (.gsa) THAT YthpbagpnnokalaaDoorProg.lean LOADS. Nothing in Lean hashes anything: it is a label: what it is worth is what the hold of that sum in a sandbox is worth. -/
noncomputable def Tryd.pinned : Pinned := { name := "ythpbagpnnokalaadoor", sum := "4b0e3a01d9425c7611f1a7244103e0471675d7441d1c01146c3678fd2a290f80", checked := Tryd.checked }
namespace Rows
def none {H : Type} : Left H := { results := [], args := [] }

/- WHAT THE LISTED PACKAGE-LEVEL VARIABLES READ AS WHEN THE CALL BEGINS. Each datum BY PROGRAM (the guide's laid-datum.mjs) off the statement by which the dump's own 'gosem.cut.vars' lays the variable. In a bare row this is a premise. The card (YthpbagpnnokalaaDoorCards.lean) ties it to the program's text. -/
def laid_unicode_utf8_acceptRanges {H : Type} : DataW H := .agg [.agg [.lit (.int .u8 128), .lit (.int .u8 191)], .agg [.lit (.int .u8 160), .lit (.int .u8 191)], .agg [.lit (.int .u8 128), .lit (.int .u8 159)], .agg [.lit (.int .u8 144), .lit (.int .u8 191)], .agg [.lit (.int .u8 128), .lit (.int .u8 143)], .agg [.lit (.int .u8 0), .lit (.int .u8 0)], .agg [.lit (.int .u8 0), .lit (.int .u8 0)], .agg [.lit (.int .u8 0), .lit (.int .u8 0)], .agg [.lit (.int .u8 0), .lit (.int .u8 0)], .agg [.lit (.int .u8 0), .lit (.int .u8 0)], .agg [.lit (.int .u8 0), .lit (.int .u8 0)], .agg [.lit (.int .u8 0), .lit (.int .u8 0)], .agg [.lit (.int .u8 0), .lit (.int .u8 0)], .agg [.lit (.int .u8 0), .lit (.int .u8 0)], .agg [.lit (.int .u8 0), .lit (.int .u8 0)], .agg [.lit (.int .u8 0), .lit (.int .u8 0)]]
/-- One of Go's own tables, pinned by name: the form's constant. -/
def laid_unicode_utf8_first : DataW Unit := Go.Pinned.utf8First

/-- 'narratorlaw08.GridScroll': WHATEVER THE INPUT: true; the input reads as it did. -/
def gridScrollSpec : ChangeSpec := { name := "gridScroll", fn := fun _ => fun
  | [d1, d2, d3, d4, d5] => { results := [.lit (.bool true)], args := [d1, d2, d3, d4, d5] }
  | _ => none }
def gridScrollRow : OpenClaim := { program := "ythpbagpnnokalaadoor", sum := "4b0e3a01d9425c7611f1a7244103e0471675d7441d1c01146c3678fd2a290f80", func := "narrator/narratorlaw08.GridScroll", spec := "gridScroll", unfollowed := true, recurses := true, named := ["unicode/utf8.first", "unicode/utf8.acceptRanges"], apart := false, laid := [("unicode/utf8.acceptRanges", laid_unicode_utf8_acceptRanges), ("unicode/utf8.first", laid_unicode_utf8_first)] }
def GridScrollSaid : Prop := gridScrollRow.holds Tryd.pinned (OpenSpec.ofChange gridScrollSpec)

/-- ITS FALSE NEIGHBOUR: 'it returns false'. Refute it at one input. -/
def gridScrollWrong : ChangeSpec := { name := "gridScroll", fn := fun _ => fun
  | [d1, d2, d3, d4, d5] => { results := [.lit (.bool false)], args := [d1, d2, d3, d4, d5] }
  | _ => none }
def GridScrollWrongFalsely : Prop := gridScrollRow.holds Tryd.pinned (OpenSpec.ofChange gridScrollWrong)

/-- 'narratorlaw08.GridScrollSteps': WHATEVER THE INPUT: true; the input reads as it did. -/
def gridScrollStepsSpec : ChangeSpec := { name := "gridScrollSteps", fn := fun _ => fun
  | [d1, d2, d3, d4, d5, d6] => { results := [.lit (.bool true)], args := [d1, d2, d3, d4, d5, d6] }
  | _ => none }
def gridScrollStepsRow : OpenClaim := { program := "ythpbagpnnokalaadoor", sum := "4b0e3a01d9425c7611f1a7244103e0471675d7441d1c01146c3678fd2a290f80", func := "narrator/narratorlaw08.GridScrollSteps", spec := "gridScrollSteps", unfollowed := true, recurses := true, named := ["unicode/utf8.first", "unicode/utf8.acceptRanges"], apart := false, laid := [("unicode/utf8.acceptRanges", laid_unicode_utf8_acceptRanges), ("unicode/utf8.first", laid_unicode_utf8_first)] }
def GridScrollStepsSaid : Prop := gridScrollStepsRow.holds Tryd.pinned (OpenSpec.ofChange gridScrollStepsSpec)

/-- ITS FALSE NEIGHBOUR: 'it returns false'. Refute it at one input. -/
def gridScrollStepsWrong : ChangeSpec := { name := "gridScrollSteps", fn := fun _ => fun
  | [d1, d2, d3, d4, d5, d6] => { results := [.lit (.bool false)], args := [d1, d2, d3, d4, d5, d6] }
  | _ => none }
def GridScrollStepsWrongFalsely : Prop := gridScrollStepsRow.holds Tryd.pinned (OpenSpec.ofChange gridScrollStepsWrong)

/-- 'narratorlaw08.GridCheck': WHATEVER THE INPUT: true; the input reads as it did. -/
def gridCheckSpec : ChangeSpec := { name := "gridCheck", fn := fun _ => fun
  | [d1, d2, d3] => { results := [.lit (.bool true)], args := [d1, d2, d3] }
  | _ => none }
def gridCheckRow : OpenClaim := { program := "ythpbagpnnokalaadoor", sum := "4b0e3a01d9425c7611f1a7244103e0471675d7441d1c01146c3678fd2a290f80", func := "narrator/narratorlaw08.GridCheck", spec := "gridCheck", unfollowed := true, recurses := true, named := ["unicode/utf8.first", "unicode/utf8.acceptRanges"], apart := false, laid := [("unicode/utf8.acceptRanges", laid_unicode_utf8_acceptRanges), ("unicode/utf8.first", laid_unicode_utf8_first)] }
def GridCheckSaid : Prop := gridCheckRow.holds Tryd.pinned (OpenSpec.ofChange gridCheckSpec)

/-- ITS FALSE NEIGHBOUR: 'it returns false'. Refute it at one input. -/
def gridCheckWrong : ChangeSpec := { name := "gridCheck", fn := fun _ => fun
  | [d1, d2, d3] => { results := [.lit (.bool false)], args := [d1, d2, d3] }
  | _ => none }
def GridCheckWrongFalsely : Prop := gridCheckRow.holds Tryd.pinned (OpenSpec.ofChange gridCheckWrong)

/-- 'narratorlaw08.GridScrollBack': WHATEVER THE INPUT: true; the input reads as it did. -/
def gridScrollBackSpec : ChangeSpec := { name := "gridScrollBack", fn := fun _ => fun
  | [d1, d2, d3, d4, d5] => { results := [.lit (.bool true)], args := [d1, d2, d3, d4, d5] }
  | _ => none }
def gridScrollBackRow : OpenClaim := { program := "ythpbagpnnokalaadoor", sum := "4b0e3a01d9425c7611f1a7244103e0471675d7441d1c01146c3678fd2a290f80", func := "narrator/narratorlaw08.GridScrollBack", spec := "gridScrollBack", unfollowed := true, recurses := true, named := ["unicode/utf8.first", "unicode/utf8.acceptRanges"], apart := false, laid := [("unicode/utf8.acceptRanges", laid_unicode_utf8_acceptRanges), ("unicode/utf8.first", laid_unicode_utf8_first)] }
def GridScrollBackSaid : Prop := gridScrollBackRow.holds Tryd.pinned (OpenSpec.ofChange gridScrollBackSpec)

/-- ITS FALSE NEIGHBOUR: 'it returns false'. Refute it at one input. -/
def gridScrollBackWrong : ChangeSpec := { name := "gridScrollBack", fn := fun _ => fun
  | [d1, d2, d3, d4, d5] => { results := [.lit (.bool false)], args := [d1, d2, d3, d4, d5] }
  | _ => none }
def GridScrollBackWrongFalsely : Prop := gridScrollBackRow.holds Tryd.pinned (OpenSpec.ofChange gridScrollBackWrong)

/-- 'narratorlaw08.GridEdits': WHATEVER THE INPUT: true; the input reads as it did. -/
def gridEditsSpec : ChangeSpec := { name := "gridEdits", fn := fun _ => fun
  | [d1, d2, d3, d4, d5] => { results := [.lit (.bool true)], args := [d1, d2, d3, d4, d5] }
  | _ => none }
def gridEditsRow : OpenClaim := { program := "ythpbagpnnokalaadoor", sum := "4b0e3a01d9425c7611f1a7244103e0471675d7441d1c01146c3678fd2a290f80", func := "narrator/narratorlaw08.GridEdits", spec := "gridEdits", unfollowed := true, recurses := true, named := ["unicode/utf8.first", "unicode/utf8.acceptRanges"], apart := false, laid := [("unicode/utf8.acceptRanges", laid_unicode_utf8_acceptRanges), ("unicode/utf8.first", laid_unicode_utf8_first)] }
def GridEditsSaid : Prop := gridEditsRow.holds Tryd.pinned (OpenSpec.ofChange gridEditsSpec)

/-- ITS FALSE NEIGHBOUR: 'it returns false'. Refute it at one input. -/
def gridEditsWrong : ChangeSpec := { name := "gridEdits", fn := fun _ => fun
  | [d1, d2, d3, d4, d5] => { results := [.lit (.bool false)], args := [d1, d2, d3, d4, d5] }
  | _ => none }
def GridEditsWrongFalsely : Prop := gridEditsRow.holds Tryd.pinned (OpenSpec.ofChange gridEditsWrong)

/-- 'narratorlaw08.GridResize': WHATEVER THE INPUT: true; the input reads as it did. -/
def gridResizeSpec : ChangeSpec := { name := "gridResize", fn := fun _ => fun
  | [d1, d2, d3] => { results := [.lit (.bool true)], args := [d1, d2, d3] }
  | _ => none }
def gridResizeRow : OpenClaim := { program := "ythpbagpnnokalaadoor", sum := "4b0e3a01d9425c7611f1a7244103e0471675d7441d1c01146c3678fd2a290f80", func := "narrator/narratorlaw08.GridResize", spec := "gridResize", unfollowed := true, recurses := true, named := ["unicode/utf8.first", "unicode/utf8.acceptRanges"], apart := false, laid := [("unicode/utf8.acceptRanges", laid_unicode_utf8_acceptRanges), ("unicode/utf8.first", laid_unicode_utf8_first)] }
def GridResizeSaid : Prop := gridResizeRow.holds Tryd.pinned (OpenSpec.ofChange gridResizeSpec)

/-- ITS FALSE NEIGHBOUR: 'it returns false'. Refute it at one input. -/
def gridResizeWrong : ChangeSpec := { name := "gridResize", fn := fun _ => fun
  | [d1, d2, d3] => { results := [.lit (.bool false)], args := [d1, d2, d3] }
  | _ => none }
def GridResizeWrongFalsely : Prop := gridResizeRow.holds Tryd.pinned (OpenSpec.ofChange gridResizeWrong)

/-- 'narratorlaw08.GridSizes': WHATEVER THE INPUT: true; the input reads as it did. -/
def gridSizesSpec : ChangeSpec := { name := "gridSizes", fn := fun _ => fun
  | [d1, d2, d3, d4, d5] => { results := [.lit (.bool true)], args := [d1, d2, d3, d4, d5] }
  | _ => none }
def gridSizesRow : OpenClaim := { program := "ythpbagpnnokalaadoor", sum := "4b0e3a01d9425c7611f1a7244103e0471675d7441d1c01146c3678fd2a290f80", func := "narrator/narratorlaw08.GridSizes", spec := "gridSizes", unfollowed := true, recurses := true, named := ["unicode/utf8.first", "unicode/utf8.acceptRanges"], apart := false, laid := [("unicode/utf8.acceptRanges", laid_unicode_utf8_acceptRanges), ("unicode/utf8.first", laid_unicode_utf8_first)] }
def GridSizesSaid : Prop := gridSizesRow.holds Tryd.pinned (OpenSpec.ofChange gridSizesSpec)

/-- ITS FALSE NEIGHBOUR: 'it returns false'. Refute it at one input. -/
def gridSizesWrong : ChangeSpec := { name := "gridSizes", fn := fun _ => fun
  | [d1, d2, d3, d4, d5] => { results := [.lit (.bool false)], args := [d1, d2, d3, d4, d5] }
  | _ => none }
def GridSizesWrongFalsely : Prop := gridSizesRow.holds Tryd.pinned (OpenSpec.ofChange gridSizesWrong)

/-- 'narratorlaw08.GridProper': WHATEVER THE INPUT: true; the input reads as it did. -/
def gridProperSpec : ChangeSpec := { name := "gridProper", fn := fun _ => fun
  | [d1, d2, d3, d4, d5] => { results := [.lit (.bool true)], args := [d1, d2, d3, d4, d5] }
  | _ => none }
def gridProperRow : OpenClaim := { program := "ythpbagpnnokalaadoor", sum := "4b0e3a01d9425c7611f1a7244103e0471675d7441d1c01146c3678fd2a290f80", func := "narrator/narratorlaw08.GridProper", spec := "gridProper", unfollowed := true, recurses := true, named := ["unicode/utf8.first", "unicode/utf8.acceptRanges"], apart := false, laid := [("unicode/utf8.acceptRanges", laid_unicode_utf8_acceptRanges), ("unicode/utf8.first", laid_unicode_utf8_first)] }
def GridProperSaid : Prop := gridProperRow.holds Tryd.pinned (OpenSpec.ofChange gridProperSpec)

/-- ITS FALSE NEIGHBOUR: 'it returns false'. Refute it at one input. -/
def gridProperWrong : ChangeSpec := { name := "gridProper", fn := fun _ => fun
  | [d1, d2, d3, d4, d5] => { results := [.lit (.bool false)], args := [d1, d2, d3, d4, d5] }
  | _ => none }
def GridProperWrongFalsely : Prop := gridProperRow.holds Tryd.pinned (OpenSpec.ofChange gridProperWrong)

/- THE SECOND FORM. 'bulk': how many values and letters a reading holds, each counted each time it is reached (what is shared counts as often as it is met; a slice's spare places count too). A statement '..UptoSaid' is the law's where the arguments, and the package variables that the reading takes, are together of bulk at most 1048576: NARROWER than '..Said'. Prove '..Said' where nothing that the law and all that it calls make is longer than what came in: it says more and counts as full. Else prove '..UptoSaid'. A law counts once. -/
mutual
def uptoBulk {H : Type} : DataW H → Nat
  | .lit (.string bytes) => bytes.length + 1
  | .lit _ => 1
  | .nil => 1
  | .ptr d => uptoBulk d + 1
  | .slice elems spare => uptoBulkAll elems + uptoBulkAll spare + 1
  | .agg parts => uptoBulkAll parts + 1
  | .iface _ d => uptoBulk d + 1
  | .map entries => uptoBulkEntries entries + 1
  | .held _ => 1
def uptoBulkAll {H : Type} : List (DataW H) → Nat
  | [] => 0
  | d :: r => uptoBulk d + uptoBulkAll r
def uptoBulkEntries {H : Type} : List (Lit × DataW H) → Nat
  | [] => 0
  | x :: r => uptoBulkEntry x + uptoBulkEntries r
def uptoBulkEntry {H : Type} : Lit × DataW H → Nat
  | (.string bytes, d) => bytes.length + uptoBulk d + 1
  | (_, d) => uptoBulk d + 1
 end
def uptoSmall : (H : Type) → List (DataW H) → Bool := fun _ ds => decide (uptoBulkAll ds ≤ 1048576)
def OpenSpec.upto (s : _root_.Go.ChangeSpec) : _root_.Go.OpenSpec := { _root_.Go.OpenSpec.ofChange s with cond := some uptoSmall }

/-- 'narratorlaw08.GridScroll', WHERE WHAT IT READS IS OF BULK AT MOST 1048576: true; the input reads as it did. -/
def gridScrollUptoRow : OpenClaim := { program := "ythpbagpnnokalaadoor", sum := "4b0e3a01d9425c7611f1a7244103e0471675d7441d1c01146c3678fd2a290f80", func := "narrator/narratorlaw08.GridScroll", spec := "gridScroll", unfollowed := true, recurses := true, named := ["unicode/utf8.first", "unicode/utf8.acceptRanges"], apart := false, laid := [("unicode/utf8.acceptRanges", laid_unicode_utf8_acceptRanges), ("unicode/utf8.first", laid_unicode_utf8_first)], narrowed := true }
def GridScrollUptoSaid : Prop := gridScrollUptoRow.holds Tryd.pinned (OpenSpec.upto gridScrollSpec)

/-- 'narratorlaw08.GridScrollSteps', WHERE WHAT IT READS IS OF BULK AT MOST 1048576: true; the input reads as it did. -/
def gridScrollStepsUptoRow : OpenClaim := { program := "ythpbagpnnokalaadoor", sum := "4b0e3a01d9425c7611f1a7244103e0471675d7441d1c01146c3678fd2a290f80", func := "narrator/narratorlaw08.GridScrollSteps", spec := "gridScrollSteps", unfollowed := true, recurses := true, named := ["unicode/utf8.first", "unicode/utf8.acceptRanges"], apart := false, laid := [("unicode/utf8.acceptRanges", laid_unicode_utf8_acceptRanges), ("unicode/utf8.first", laid_unicode_utf8_first)], narrowed := true }
def GridScrollStepsUptoSaid : Prop := gridScrollStepsUptoRow.holds Tryd.pinned (OpenSpec.upto gridScrollStepsSpec)

/-- 'narratorlaw08.GridCheck', WHERE WHAT IT READS IS OF BULK AT MOST 1048576: true; the input reads as it did. -/
def gridCheckUptoRow : OpenClaim := { program := "ythpbagpnnokalaadoor", sum := "4b0e3a01d9425c7611f1a7244103e0471675d7441d1c01146c3678fd2a290f80", func := "narrator/narratorlaw08.GridCheck", spec := "gridCheck", unfollowed := true, recurses := true, named := ["unicode/utf8.first", "unicode/utf8.acceptRanges"], apart := false, laid := [("unicode/utf8.acceptRanges", laid_unicode_utf8_acceptRanges), ("unicode/utf8.first", laid_unicode_utf8_first)], narrowed := true }
def GridCheckUptoSaid : Prop := gridCheckUptoRow.holds Tryd.pinned (OpenSpec.upto gridCheckSpec)

/-- 'narratorlaw08.GridScrollBack', WHERE WHAT IT READS IS OF BULK AT MOST 1048576: true; the input reads as it did. -/
def gridScrollBackUptoRow : OpenClaim := { program := "ythpbagpnnokalaadoor", sum := "4b0e3a01d9425c7611f1a7244103e0471675d7441d1c01146c3678fd2a290f80", func := "narrator/narratorlaw08.GridScrollBack", spec := "gridScrollBack", unfollowed := true, recurses := true, named := ["unicode/utf8.first", "unicode/utf8.acceptRanges"], apart := false, laid := [("unicode/utf8.acceptRanges", laid_unicode_utf8_acceptRanges), ("unicode/utf8.first", laid_unicode_utf8_first)], narrowed := true }
def GridScrollBackUptoSaid : Prop := gridScrollBackUptoRow.holds Tryd.pinned (OpenSpec.upto gridScrollBackSpec)

/-- 'narratorlaw08.GridEdits', WHERE WHAT IT READS IS OF BULK AT MOST 1048576: true; the input reads as it did. -/
def gridEditsUptoRow : OpenClaim := { program := "ythpbagpnnokalaadoor", sum := "4b0e3a01d9425c7611f1a7244103e0471675d7441d1c01146c3678fd2a290f80", func := "narrator/narratorlaw08.GridEdits", spec := "gridEdits", unfollowed := true, recurses := true, named := ["unicode/utf8.first", "unicode/utf8.acceptRanges"], apart := false, laid := [("unicode/utf8.acceptRanges", laid_unicode_utf8_acceptRanges), ("unicode/utf8.first", laid_unicode_utf8_first)], narrowed := true }
def GridEditsUptoSaid : Prop := gridEditsUptoRow.holds Tryd.pinned (OpenSpec.upto gridEditsSpec)

/-- 'narratorlaw08.GridResize', WHERE WHAT IT READS IS OF BULK AT MOST 1048576: true; the input reads as it did. -/
def gridResizeUptoRow : OpenClaim := { program := "ythpbagpnnokalaadoor", sum := "4b0e3a01d9425c7611f1a7244103e0471675d7441d1c01146c3678fd2a290f80", func := "narrator/narratorlaw08.GridResize", spec := "gridResize", unfollowed := true, recurses := true, named := ["unicode/utf8.first", "unicode/utf8.acceptRanges"], apart := false, laid := [("unicode/utf8.acceptRanges", laid_unicode_utf8_acceptRanges), ("unicode/utf8.first", laid_unicode_utf8_first)], narrowed := true }
def GridResizeUptoSaid : Prop := gridResizeUptoRow.holds Tryd.pinned (OpenSpec.upto gridResizeSpec)

/-- 'narratorlaw08.GridSizes', WHERE WHAT IT READS IS OF BULK AT MOST 1048576: true; the input reads as it did. -/
def gridSizesUptoRow : OpenClaim := { program := "ythpbagpnnokalaadoor", sum := "4b0e3a01d9425c7611f1a7244103e0471675d7441d1c01146c3678fd2a290f80", func := "narrator/narratorlaw08.GridSizes", spec := "gridSizes", unfollowed := true, recurses := true, named := ["unicode/utf8.first", "unicode/utf8.acceptRanges"], apart := false, laid := [("unicode/utf8.acceptRanges", laid_unicode_utf8_acceptRanges), ("unicode/utf8.first", laid_unicode_utf8_first)], narrowed := true }
def GridSizesUptoSaid : Prop := gridSizesUptoRow.holds Tryd.pinned (OpenSpec.upto gridSizesSpec)

/-- 'narratorlaw08.GridProper', WHERE WHAT IT READS IS OF BULK AT MOST 1048576: true; the input reads as it did. -/
def gridProperUptoRow : OpenClaim := { program := "ythpbagpnnokalaadoor", sum := "4b0e3a01d9425c7611f1a7244103e0471675d7441d1c01146c3678fd2a290f80", func := "narrator/narratorlaw08.GridProper", spec := "gridProper", unfollowed := true, recurses := true, named := ["unicode/utf8.first", "unicode/utf8.acceptRanges"], apart := false, laid := [("unicode/utf8.acceptRanges", laid_unicode_utf8_acceptRanges), ("unicode/utf8.first", laid_unicode_utf8_first)], narrowed := true }
def GridProperUptoSaid : Prop := gridProperUptoRow.holds Tryd.pinned (OpenSpec.upto gridProperSpec)

end Rows
end Go.Proofs.YthpbagpnnokalaaDoor
