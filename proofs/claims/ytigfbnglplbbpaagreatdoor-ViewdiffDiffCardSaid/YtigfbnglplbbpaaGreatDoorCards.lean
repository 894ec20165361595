/-
  DERIVED. GIVEN WITH THE SEED: THE CARDS: each row of YtigfbnglplbbpaaGreatDoorRows.lean that lists a variable, with what it lists TIED to the program's text (the seventh form; the later family's looks); each row that meets fmt, with fmt's text TOLD by the authors' own Lean function (tested against real Go, not proved from fmt's source: count such statements apart). THE CARD IS WHAT COUNTS. Prove the row's statement (the work); the ties are given (YtigfbnglplbbpaaGreatDoorTie.lean); close each card by the builder's one call (the guide's Derived/Test/ToyasCard.lean, 'card_holds'). Laid BY PROGRAM, IN A SANDBOX (cutbox-door.mjs). By AI agents, Wed Nov 11 2026. No macro, syntax, notation, axiom, sorry.
-/
import Derived.Test.YtigfbnglplbbpaaGreatDoorRows
import GoSem.ClaimSeven
namespace Go.Proofs.YtigfbnglplbbpaaGreatDoor
namespace Rows

/-- THE TIED CARD OF 'narratorlaw20.ViewdiffDiff'. -/
def viewdiffDiffCard : Claim7 := { stood := { row := viewdiffDiffRow, standIns := [], harness := (true, "634c92b47846bc9b6256ae453cee865cc096ce74ed1c915950f5e0bb6a867a3a"), looks := false }, kinds := [], alts := [], laidByText := true, laidKinds := [.data, .pinned], laidTests := true, laidLooks := .later }
def ViewdiffDiffCardSaid : Prop := Claim7.holds Tryz.pinned (.plain (OpenSpec.ofChange viewdiffDiffSpec)) viewdiffDiffCard

/-- THE SECOND FORM's CARD OF 'narratorlaw20.ViewdiffDiff'. -/
def viewdiffDiffUptoCard : Claim7 := { stood := { row := viewdiffDiffUptoRow, standIns := [], harness := (true, "634c92b47846bc9b6256ae453cee865cc096ce74ed1c915950f5e0bb6a867a3a"), looks := false }, kinds := [], alts := [], laidByText := true, laidKinds := [.data, .pinned], laidTests := true, laidLooks := .later }
def ViewdiffDiffUptoCardSaid : Prop := Claim7.holds Tryz.pinned (.plain (OpenSpec.upto viewdiffDiffSpec)) viewdiffDiffUptoCard
end Rows
end Go.Proofs.YtigfbnglplbbpaaGreatDoor
