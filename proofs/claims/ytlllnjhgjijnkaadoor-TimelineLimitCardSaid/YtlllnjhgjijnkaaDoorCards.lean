/-
  DERIVED. GIVEN WITH THE SEED: THE CARDS: each row of YtlllnjhgjijnkaaDoorRows.lean that lists a variable, with what it lists TIED to the program's text (the seventh form; the later family's looks); each row that meets fmt, with fmt's text TOLD by the authors' own Lean function (tested against real Go, not proved from fmt's source: count such statements apart). THE CARD IS WHAT COUNTS. Prove the row's statement (the work); the ties are given (YtlllnjhgjijnkaaDoorTie.lean); close each card by the builder's one call (the guide's Derived/Test/ToyasCard.lean, 'card_holds'). Laid BY PROGRAM, IN A SANDBOX (cutbox-door.mjs). By AI agents, Wed Nov 11 2026. No macro, syntax, notation, axiom, sorry.
-/
import Derived.Test.YtlllnjhgjijnkaaDoorRows
import GoSem.ClaimSeven
namespace Go.Proofs.YtlllnjhgjijnkaaDoor
namespace Rows

/-- THE TIED CARD OF 'narratorlaw21.TimelineViews'. -/
def timelineViewsCard : Claim7 := { stood := { row := timelineViewsRow, standIns := [], harness := (true, "2d3a8ca9b6867cf166ffd91d12a2bbab56675c0c30c90c3265e173bc28fad947"), looks := false }, kinds := [], alts := [], laidByText := true, laidKinds := [.data, .pinned], laidTests := true, laidLooks := .later }
def TimelineViewsCardSaid : Prop := Claim7.holds Tryd.pinned (.plain (OpenSpec.ofChange timelineViewsSpec)) timelineViewsCard

/-- THE TIED CARD OF 'narratorlaw21.TimelineTimes'. -/
def timelineTimesCard : Claim7 := { stood := { row := timelineTimesRow, standIns := [], harness := (true, "2d3a8ca9b6867cf166ffd91d12a2bbab56675c0c30c90c3265e173bc28fad947"), looks := false }, kinds := [], alts := [], laidByText := true, laidKinds := [.data, .pinned], laidTests := true, laidLooks := .later }
def TimelineTimesCardSaid : Prop := Claim7.holds Tryd.pinned (.plain (OpenSpec.ofChange timelineTimesSpec)) timelineTimesCard

/-- THE TIED CARD OF 'narratorlaw21.TimelineEqual'. -/
def timelineEqualCard : Claim7 := { stood := { row := timelineEqualRow, standIns := [], harness := (true, "2d3a8ca9b6867cf166ffd91d12a2bbab56675c0c30c90c3265e173bc28fad947"), looks := false }, kinds := [], alts := [], laidByText := true, laidKinds := [.data, .pinned], laidTests := true, laidLooks := .later }
def TimelineEqualCardSaid : Prop := Claim7.holds Tryd.pinned (.plain (OpenSpec.ofChange timelineEqualSpec)) timelineEqualCard

/-- THE TIED CARD OF 'narratorlaw21.TimelineLimit'. -/
def timelineLimitCard : Claim7 := { stood := { row := timelineLimitRow, standIns := [], harness := (true, "2d3a8ca9b6867cf166ffd91d12a2bbab56675c0c30c90c3265e173bc28fad947"), looks := false }, kinds := [], alts := [], laidByText := true, laidKinds := [.data, .pinned], laidTests := true, laidLooks := .later }
def TimelineLimitCardSaid : Prop := Claim7.holds Tryd.pinned (.plain (OpenSpec.ofChange timelineLimitSpec)) timelineLimitCard

/-- THE TIED CARD OF 'narratorlaw21.TimelineSteps'. -/
def timelineStepsCard : Claim7 := { stood := { row := timelineStepsRow, standIns := [], harness := (true, "2d3a8ca9b6867cf166ffd91d12a2bbab56675c0c30c90c3265e173bc28fad947"), looks := false }, kinds := [], alts := [], laidByText := true, laidKinds := [.data, .pinned], laidTests := true, laidLooks := .later }
def TimelineStepsCardSaid : Prop := Claim7.holds Tryd.pinned (.plain (OpenSpec.ofChange timelineStepsSpec)) timelineStepsCard

/-- THE TIED CARD OF 'narratorlaw21.TimelineKeep'. -/
def timelineKeepCard : Claim7 := { stood := { row := timelineKeepRow, standIns := [], harness := (true, "2d3a8ca9b6867cf166ffd91d12a2bbab56675c0c30c90c3265e173bc28fad947"), looks := false }, kinds := [], alts := [], laidByText := true, laidKinds := [.data, .pinned], laidTests := true, laidLooks := .later }
def TimelineKeepCardSaid : Prop := Claim7.holds Tryd.pinned (.plain (OpenSpec.ofChange timelineKeepSpec)) timelineKeepCard

/-- THE SECOND FORM's CARD OF 'narratorlaw21.TimelineViews'. -/
def timelineViewsUptoCard : Claim7 := { stood := { row := timelineViewsUptoRow, standIns := [], harness := (true, "2d3a8ca9b6867cf166ffd91d12a2bbab56675c0c30c90c3265e173bc28fad947"), looks := false }, kinds := [], alts := [], laidByText := true, laidKinds := [.data, .pinned], laidTests := true, laidLooks := .later }
def TimelineViewsUptoCardSaid : Prop := Claim7.holds Tryd.pinned (.plain (OpenSpec.upto timelineViewsSpec)) timelineViewsUptoCard

/-- THE SECOND FORM's CARD OF 'narratorlaw21.TimelineTimes'. -/
def timelineTimesUptoCard : Claim7 := { stood := { row := timelineTimesUptoRow, standIns := [], harness := (true, "2d3a8ca9b6867cf166ffd91d12a2bbab56675c0c30c90c3265e173bc28fad947"), looks := false }, kinds := [], alts := [], laidByText := true, laidKinds := [.data, .pinned], laidTests := true, laidLooks := .later }
def TimelineTimesUptoCardSaid : Prop := Claim7.holds Tryd.pinned (.plain (OpenSpec.upto timelineTimesSpec)) timelineTimesUptoCard

/-- THE SECOND FORM's CARD OF 'narratorlaw21.TimelineEqual'. -/
def timelineEqualUptoCard : Claim7 := { stood := { row := timelineEqualUptoRow, standIns := [], harness := (true, "2d3a8ca9b6867cf166ffd91d12a2bbab56675c0c30c90c3265e173bc28fad947"), looks := false }, kinds := [], alts := [], laidByText := true, laidKinds := [.data, .pinned], laidTests := true, laidLooks := .later }
def TimelineEqualUptoCardSaid : Prop := Claim7.holds Tryd.pinned (.plain (OpenSpec.upto timelineEqualSpec)) timelineEqualUptoCard

/-- THE SECOND FORM's CARD OF 'narratorlaw21.TimelineLimit'. -/
def timelineLimitUptoCard : Claim7 := { stood := { row := timelineLimitUptoRow, standIns := [], harness := (true, "2d3a8ca9b6867cf166ffd91d12a2bbab56675c0c30c90c3265e173bc28fad947"), looks := false }, kinds := [], alts := [], laidByText := true, laidKinds := [.data, .pinned], laidTests := true, laidLooks := .later }
def TimelineLimitUptoCardSaid : Prop := Claim7.holds Tryd.pinned (.plain (OpenSpec.upto timelineLimitSpec)) timelineLimitUptoCard

/-- THE SECOND FORM's CARD OF 'narratorlaw21.TimelineSteps'. -/
def timelineStepsUptoCard : Claim7 := { stood := { row := timelineStepsUptoRow, standIns := [], harness := (true, "2d3a8ca9b6867cf166ffd91d12a2bbab56675c0c30c90c3265e173bc28fad947"), looks := false }, kinds := [], alts := [], laidByText := true, laidKinds := [.data, .pinned], laidTests := true, laidLooks := .later }
def TimelineStepsUptoCardSaid : Prop := Claim7.holds Tryd.pinned (.plain (OpenSpec.upto timelineStepsSpec)) timelineStepsUptoCard

/-- THE SECOND FORM's CARD OF 'narratorlaw21.TimelineKeep'. -/
def timelineKeepUptoCard : Claim7 := { stood := { row := timelineKeepUptoRow, standIns := [], harness := (true, "2d3a8ca9b6867cf166ffd91d12a2bbab56675c0c30c90c3265e173bc28fad947"), looks := false }, kinds := [], alts := [], laidByText := true, laidKinds := [.data, .pinned], laidTests := true, laidLooks := .later }
def TimelineKeepUptoCardSaid : Prop := Claim7.holds Tryd.pinned (.plain (OpenSpec.upto timelineKeepSpec)) timelineKeepUptoCard
end Rows
end Go.Proofs.YtlllnjhgjijnkaaDoor
