/-
  DERIVED. GIVEN WITH THE SEED: THE CARDS: each row of YtigfbnglplbbpaaDoorRows.lean that lists a variable, with what it lists TIED to the program's text (the seventh form; the later family's looks); each row that meets fmt, with fmt's text TOLD by the authors' own Lean function (tested against real Go, not proved from fmt's source: count such statements apart). THE CARD IS WHAT COUNTS. Prove the row's statement (the work); the ties are given (YtigfbnglplbbpaaDoorTie.lean); close each card by the builder's one call (the guide's Derived/Test/ToyasCard.lean, 'card_holds'). Laid BY PROGRAM, IN A SANDBOX (cutbox-door.mjs). By AI agents, Wed Nov 11 2026. No macro, syntax, notation, axiom, sorry.
-/
import Derived.Test.YtigfbnglplbbpaaDoorRows
import GoSem.ClaimSeven
namespace Go.Proofs.YtigfbnglplbbpaaDoor
namespace Rows

/-- THE TIED CARD OF 'narratorlaw20.ViewdiffApplies'. -/
def viewdiffAppliesCard : Claim7 := { stood := { row := viewdiffAppliesRow, standIns := [], harness := (true, "942a48c3cd368e4cf3f25eea35fe96cb43c6f4f03ed10c6c8ce5b7e1894f30ec"), looks := false }, kinds := [], alts := [], laidByText := true, laidKinds := [.data, .pinned], laidTests := true, laidLooks := .later }
def ViewdiffAppliesCardSaid : Prop := Claim7.holds Tryd.pinned (.plain (OpenSpec.ofChange viewdiffAppliesSpec)) viewdiffAppliesCard

/-- THE TIED CARD OF 'narratorlaw20.ViewdiffEmpty'. -/
def viewdiffEmptyCard : Claim7 := { stood := { row := viewdiffEmptyRow, standIns := [], harness := (true, "942a48c3cd368e4cf3f25eea35fe96cb43c6f4f03ed10c6c8ce5b7e1894f30ec"), looks := false }, kinds := [], alts := [], laidByText := true, laidKinds := [.data, .pinned], laidTests := true, laidLooks := .later }
def ViewdiffEmptyCardSaid : Prop := Claim7.holds Tryd.pinned (.plain (OpenSpec.ofChange viewdiffEmptySpec)) viewdiffEmptyCard

/-- THE TIED CARD OF 'narratorlaw20.ViewdiffForm'. -/
def viewdiffFormCard : Claim7 := { stood := { row := viewdiffFormRow, standIns := [], harness := (true, "942a48c3cd368e4cf3f25eea35fe96cb43c6f4f03ed10c6c8ce5b7e1894f30ec"), looks := false }, kinds := [], alts := [], laidByText := true, laidKinds := [.data, .pinned], laidTests := true, laidLooks := .later }
def ViewdiffFormCardSaid : Prop := Claim7.holds Tryd.pinned (.plain (OpenSpec.ofChange viewdiffFormSpec)) viewdiffFormCard

/-- THE TIED CARD OF 'narratorlaw20.ViewdiffResults'. -/
def viewdiffResultsCard : Claim7 := { stood := { row := viewdiffResultsRow, standIns := [], harness := (true, "942a48c3cd368e4cf3f25eea35fe96cb43c6f4f03ed10c6c8ce5b7e1894f30ec"), looks := false }, kinds := [], alts := [], laidByText := true, laidKinds := [.data, .pinned], laidTests := true, laidLooks := .later }
def ViewdiffResultsCardSaid : Prop := Claim7.holds Tryd.pinned (.plain (OpenSpec.ofChange viewdiffResultsSpec)) viewdiffResultsCard

/-- THE TIED CARD OF 'narratorlaw20.ViewdiffCost'. -/
def viewdiffCostCard : Claim7 := { stood := { row := viewdiffCostRow, standIns := [], harness := (true, "942a48c3cd368e4cf3f25eea35fe96cb43c6f4f03ed10c6c8ce5b7e1894f30ec"), looks := false }, kinds := [], alts := [], laidByText := true, laidKinds := [.data, .pinned], laidTests := true, laidLooks := .later }
def ViewdiffCostCardSaid : Prop := Claim7.holds Tryd.pinned (.plain (OpenSpec.ofChange viewdiffCostSpec)) viewdiffCostCard

/-- THE TIED CARD OF 'narratorlaw20.ViewdiffLocal'. -/
def viewdiffLocalCard : Claim7 := { stood := { row := viewdiffLocalRow, standIns := [], harness := (true, "942a48c3cd368e4cf3f25eea35fe96cb43c6f4f03ed10c6c8ce5b7e1894f30ec"), looks := false }, kinds := [], alts := [], laidByText := true, laidKinds := [.data, .pinned], laidTests := true, laidLooks := .later }
def ViewdiffLocalCardSaid : Prop := Claim7.holds Tryd.pinned (.plain (OpenSpec.ofChange viewdiffLocalSpec)) viewdiffLocalCard

/-- THE TIED CARD OF 'narratorlaw20.ViewdiffUndone'. -/
def viewdiffUndoneCard : Claim7 := { stood := { row := viewdiffUndoneRow, standIns := [], harness := (true, "942a48c3cd368e4cf3f25eea35fe96cb43c6f4f03ed10c6c8ce5b7e1894f30ec"), looks := false }, kinds := [], alts := [], laidByText := true, laidKinds := [.data, .pinned], laidTests := true, laidLooks := .later }
def ViewdiffUndoneCardSaid : Prop := Claim7.holds Tryd.pinned (.plain (OpenSpec.ofChange viewdiffUndoneSpec)) viewdiffUndoneCard

/-- THE SECOND FORM's CARD OF 'narratorlaw20.ViewdiffApplies'. -/
def viewdiffAppliesUptoCard : Claim7 := { stood := { row := viewdiffAppliesUptoRow, standIns := [], harness := (true, "942a48c3cd368e4cf3f25eea35fe96cb43c6f4f03ed10c6c8ce5b7e1894f30ec"), looks := false }, kinds := [], alts := [], laidByText := true, laidKinds := [.data, .pinned], laidTests := true, laidLooks := .later }
def ViewdiffAppliesUptoCardSaid : Prop := Claim7.holds Tryd.pinned (.plain (OpenSpec.upto viewdiffAppliesSpec)) viewdiffAppliesUptoCard

/-- THE SECOND FORM's CARD OF 'narratorlaw20.ViewdiffEmpty'. -/
def viewdiffEmptyUptoCard : Claim7 := { stood := { row := viewdiffEmptyUptoRow, standIns := [], harness := (true, "942a48c3cd368e4cf3f25eea35fe96cb43c6f4f03ed10c6c8ce5b7e1894f30ec"), looks := false }, kinds := [], alts := [], laidByText := true, laidKinds := [.data, .pinned], laidTests := true, laidLooks := .later }
def ViewdiffEmptyUptoCardSaid : Prop := Claim7.holds Tryd.pinned (.plain (OpenSpec.upto viewdiffEmptySpec)) viewdiffEmptyUptoCard

/-- THE SECOND FORM's CARD OF 'narratorlaw20.ViewdiffForm'. -/
def viewdiffFormUptoCard : Claim7 := { stood := { row := viewdiffFormUptoRow, standIns := [], harness := (true, "942a48c3cd368e4cf3f25eea35fe96cb43c6f4f03ed10c6c8ce5b7e1894f30ec"), looks := false }, kinds := [], alts := [], laidByText := true, laidKinds := [.data, .pinned], laidTests := true, laidLooks := .later }
def ViewdiffFormUptoCardSaid : Prop := Claim7.holds Tryd.pinned (.plain (OpenSpec.upto viewdiffFormSpec)) viewdiffFormUptoCard

/-- THE SECOND FORM's CARD OF 'narratorlaw20.ViewdiffResults'. -/
def viewdiffResultsUptoCard : Claim7 := { stood := { row := viewdiffResultsUptoRow, standIns := [], harness := (true, "942a48c3cd368e4cf3f25eea35fe96cb43c6f4f03ed10c6c8ce5b7e1894f30ec"), looks := false }, kinds := [], alts := [], laidByText := true, laidKinds := [.data, .pinned], laidTests := true, laidLooks := .later }
def ViewdiffResultsUptoCardSaid : Prop := Claim7.holds Tryd.pinned (.plain (OpenSpec.upto viewdiffResultsSpec)) viewdiffResultsUptoCard

/-- THE SECOND FORM's CARD OF 'narratorlaw20.ViewdiffCost'. -/
def viewdiffCostUptoCard : Claim7 := { stood := { row := viewdiffCostUptoRow, standIns := [], harness := (true, "942a48c3cd368e4cf3f25eea35fe96cb43c6f4f03ed10c6c8ce5b7e1894f30ec"), looks := false }, kinds := [], alts := [], laidByText := true, laidKinds := [.data, .pinned], laidTests := true, laidLooks := .later }
def ViewdiffCostUptoCardSaid : Prop := Claim7.holds Tryd.pinned (.plain (OpenSpec.upto viewdiffCostSpec)) viewdiffCostUptoCard

/-- THE SECOND FORM's CARD OF 'narratorlaw20.ViewdiffLocal'. -/
def viewdiffLocalUptoCard : Claim7 := { stood := { row := viewdiffLocalUptoRow, standIns := [], harness := (true, "942a48c3cd368e4cf3f25eea35fe96cb43c6f4f03ed10c6c8ce5b7e1894f30ec"), looks := false }, kinds := [], alts := [], laidByText := true, laidKinds := [.data, .pinned], laidTests := true, laidLooks := .later }
def ViewdiffLocalUptoCardSaid : Prop := Claim7.holds Tryd.pinned (.plain (OpenSpec.upto viewdiffLocalSpec)) viewdiffLocalUptoCard

/-- THE SECOND FORM's CARD OF 'narratorlaw20.ViewdiffUndone'. -/
def viewdiffUndoneUptoCard : Claim7 := { stood := { row := viewdiffUndoneUptoRow, standIns := [], harness := (true, "942a48c3cd368e4cf3f25eea35fe96cb43c6f4f03ed10c6c8ce5b7e1894f30ec"), looks := false }, kinds := [], alts := [], laidByText := true, laidKinds := [.data, .pinned], laidTests := true, laidLooks := .later }
def ViewdiffUndoneUptoCardSaid : Prop := Claim7.holds Tryd.pinned (.plain (OpenSpec.upto viewdiffUndoneSpec)) viewdiffUndoneUptoCard
end Rows
end Go.Proofs.YtigfbnglplbbpaaDoor
