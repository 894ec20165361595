/-
  DERIVED. GIVEN WITH THE SEED: THE CARDS: each row of YtadfkfgjhaijiaaDoorRows.lean that lists a variable, with what it lists TIED to the program's text (the seventh form; the later family's looks); each row that meets fmt, with fmt's text TOLD by the authors' own Lean function (tested against real Go, not proved from fmt's source: count such statements apart). THE CARD IS WHAT COUNTS. Prove the row's statement (the work); the ties are given (YtadfkfgjhaijiaaDoorTie.lean); close each card by the builder's one call (the guide's Derived/Test/ToyasCard.lean, 'card_holds'). Laid BY PROGRAM, IN A SANDBOX (cutbox-door.mjs). By AI agents, Wed Nov 11 2026. No macro, syntax, notation, axiom, sorry.
-/
import Derived.Test.YtadfkfgjhaijiaaDoorRows
import GoSem.ClaimSeven
namespace Go.Proofs.YtadfkfgjhaijiaaDoor
namespace Rows

/-- THE TIED CARD OF 'narratorlaw19.ChangeConcatenation'. -/
def changeConcatenationCard : Claim7 := { stood := { row := changeConcatenationRow, standIns := [], harness := (true, "bb5de4f963b3faaf450c51042327606475cc3b69aa1a003c43601539d6fc6273"), looks := false }, kinds := [], alts := [], laidByText := true, laidKinds := [.data, .pinned], laidTests := true, laidLooks := .later }
def ChangeConcatenationCardSaid : Prop := Claim7.holds Tryd.pinned (.plain (OpenSpec.ofChange changeConcatenationSpec)) changeConcatenationCard

/-- THE SECOND FORM's CARD OF 'narratorlaw19.ChangeConcatenation'. -/
def changeConcatenationUptoCard : Claim7 := { stood := { row := changeConcatenationUptoRow, standIns := [], harness := (true, "bb5de4f963b3faaf450c51042327606475cc3b69aa1a003c43601539d6fc6273"), looks := false }, kinds := [], alts := [], laidByText := true, laidKinds := [.data, .pinned], laidTests := true, laidLooks := .later }
def ChangeConcatenationUptoCardSaid : Prop := Claim7.holds Tryd.pinned (.plain (OpenSpec.upto changeConcatenationSpec)) changeConcatenationUptoCard
end Rows
end Go.Proofs.YtadfkfgjhaijiaaDoor
