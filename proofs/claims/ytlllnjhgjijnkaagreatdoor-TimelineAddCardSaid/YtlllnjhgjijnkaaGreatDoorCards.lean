/-
  DERIVED. GIVEN WITH THE SEED: THE CARDS: each row of YtlllnjhgjijnkaaGreatDoorRows.lean that lists a variable, with what it lists TIED to the program's text (the seventh form; the later family's looks); each row that meets fmt, with fmt's text TOLD by the authors' own Lean function (tested against real Go, not proved from fmt's source: count such statements apart). THE CARD IS WHAT COUNTS. Prove the row's statement (the work); the ties are given (YtlllnjhgjijnkaaGreatDoorTie.lean); close each card by the builder's one call (the guide's Derived/Test/ToyasCard.lean, 'card_holds'). Laid BY PROGRAM, IN A SANDBOX (cutbox-door.mjs). By AI agents, Wed Nov 11 2026. No macro, syntax, notation, axiom, sorry.
-/
import Derived.Test.YtlllnjhgjijnkaaGreatDoorRows
import GoSem.ClaimSeven
namespace Go.Proofs.YtlllnjhgjijnkaaGreatDoor
namespace Rows

/-- THE TIED CARD OF 'narratorlaw21.TimelineAdd'. -/
def timelineAddCard : Claim7 := { stood := { row := timelineAddRow, standIns := [], harness := (true, "b555703b13465f3031b7d28af365e2a571f79155763c3207ba3c69ae5f53076b"), looks := false }, kinds := [], alts := [], laidByText := true, laidKinds := [.data, .pinned], laidTests := true, laidLooks := .later }
def TimelineAddCardSaid : Prop := Claim7.holds Tryz.pinned (.plain (OpenSpec.ofChange timelineAddSpec)) timelineAddCard

/-- THE TIED CARD OF 'narratorlaw21.TimelineQueries'. -/
def timelineQueriesCard : Claim7 := { stood := { row := timelineQueriesRow, standIns := [], harness := (true, "b555703b13465f3031b7d28af365e2a571f79155763c3207ba3c69ae5f53076b"), looks := false }, kinds := [], alts := [], laidByText := true, laidKinds := [.data, .pinned], laidTests := true, laidLooks := .later }
def TimelineQueriesCardSaid : Prop := Claim7.holds Tryz.pinned (.plain (OpenSpec.ofChange timelineQueriesSpec)) timelineQueriesCard

/-- THE SECOND FORM's CARD OF 'narratorlaw21.TimelineAdd'. -/
def timelineAddUptoCard : Claim7 := { stood := { row := timelineAddUptoRow, standIns := [], harness := (true, "b555703b13465f3031b7d28af365e2a571f79155763c3207ba3c69ae5f53076b"), looks := false }, kinds := [], alts := [], laidByText := true, laidKinds := [.data, .pinned], laidTests := true, laidLooks := .later }
def TimelineAddUptoCardSaid : Prop := Claim7.holds Tryz.pinned (.plain (OpenSpec.upto timelineAddSpec)) timelineAddUptoCard

/-- THE SECOND FORM's CARD OF 'narratorlaw21.TimelineQueries'. -/
def timelineQueriesUptoCard : Claim7 := { stood := { row := timelineQueriesUptoRow, standIns := [], harness := (true, "b555703b13465f3031b7d28af365e2a571f79155763c3207ba3c69ae5f53076b"), looks := false }, kinds := [], alts := [], laidByText := true, laidKinds := [.data, .pinned], laidTests := true, laidLooks := .later }
def TimelineQueriesUptoCardSaid : Prop := Claim7.holds Tryz.pinned (.plain (OpenSpec.upto timelineQueriesSpec)) timelineQueriesUptoCard
end Rows
end Go.Proofs.YtlllnjhgjijnkaaGreatDoor
