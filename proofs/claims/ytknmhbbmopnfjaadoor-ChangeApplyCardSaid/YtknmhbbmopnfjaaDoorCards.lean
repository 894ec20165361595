/-
  DERIVED. GIVEN WITH THE SEED: THE CARDS: each row of YtknmhbbmopnfjaaDoorRows.lean that lists a variable, with what it lists TIED to the program's text (the seventh form; the later family's looks); each row that meets fmt, with fmt's text TOLD by the authors' own Lean function (tested against real Go, not proved from fmt's source: count such statements apart). THE CARD IS WHAT COUNTS. Prove the row's statement (the work); the ties are given (YtknmhbbmopnfjaaDoorTie.lean); close each card by the builder's one call (the guide's Derived/Test/ToyasCard.lean, 'card_holds'). Laid BY PROGRAM, IN A SANDBOX (cutbox-door.mjs). By AI agents, Wed Nov 11 2026. No macro, syntax, notation, axiom, sorry.
-/
import Derived.Test.YtknmhbbmopnfjaaDoorRows
import GoSem.ClaimSeven
namespace Go.Proofs.YtknmhbbmopnfjaaDoor
namespace Rows

/-- THE TIED CARD OF 'narratorlaw19.ChangeProper'. -/
def changeProperCard : Claim7 := { stood := { row := changeProperRow, standIns := [], harness := (true, "77331c941379a71633fe22536ad7c534d632a1e960083e72d6a7a2c1fcf3a727"), looks := false }, kinds := [], alts := [], laidByText := true, laidKinds := [.data, .pinned], laidTests := true, laidLooks := .later }
def ChangeProperCardSaid : Prop := Claim7.holds Tryd.pinned (.plain (OpenSpec.ofChange changeProperSpec)) changeProperCard

/-- THE TIED CARD OF 'narratorlaw19.ChangeCheck'. -/
def changeCheckCard : Claim7 := { stood := { row := changeCheckRow, standIns := [], harness := (true, "77331c941379a71633fe22536ad7c534d632a1e960083e72d6a7a2c1fcf3a727"), looks := false }, kinds := [], alts := [], laidByText := true, laidKinds := [.data, .pinned], laidTests := true, laidLooks := .later }
def ChangeCheckCardSaid : Prop := Claim7.holds Tryd.pinned (.plain (OpenSpec.ofChange changeCheckSpec)) changeCheckCard

/-- THE TIED CARD OF 'narratorlaw19.ChangeSingle'. -/
def changeSingleCard : Claim7 := { stood := { row := changeSingleRow, standIns := [], harness := (true, "77331c941379a71633fe22536ad7c534d632a1e960083e72d6a7a2c1fcf3a727"), looks := false }, kinds := [], alts := [], laidByText := true, laidKinds := [.data, .pinned], laidTests := true, laidLooks := .later }
def ChangeSingleCardSaid : Prop := Claim7.holds Tryd.pinned (.plain (OpenSpec.ofChange changeSingleSpec)) changeSingleCard

/-- THE TIED CARD OF 'narratorlaw19.ChangeScroll'. -/
def changeScrollCard : Claim7 := { stood := { row := changeScrollRow, standIns := [], harness := (true, "77331c941379a71633fe22536ad7c534d632a1e960083e72d6a7a2c1fcf3a727"), looks := false }, kinds := [], alts := [], laidByText := true, laidKinds := [.data, .pinned], laidTests := true, laidLooks := .later }
def ChangeScrollCardSaid : Prop := Claim7.holds Tryd.pinned (.plain (OpenSpec.ofChange changeScrollSpec)) changeScrollCard

/-- THE TIED CARD OF 'narratorlaw19.ChangeApply'. -/
def changeApplyCard : Claim7 := { stood := { row := changeApplyRow, standIns := [], harness := (true, "77331c941379a71633fe22536ad7c534d632a1e960083e72d6a7a2c1fcf3a727"), looks := false }, kinds := [], alts := [], laidByText := true, laidKinds := [.data, .pinned], laidTests := true, laidLooks := .later }
def ChangeApplyCardSaid : Prop := Claim7.holds Tryd.pinned (.plain (OpenSpec.ofChange changeApplySpec)) changeApplyCard

/-- THE TIED CARD OF 'narratorlaw19.ChangeUndo'. -/
def changeUndoCard : Claim7 := { stood := { row := changeUndoRow, standIns := [], harness := (true, "77331c941379a71633fe22536ad7c534d632a1e960083e72d6a7a2c1fcf3a727"), looks := false }, kinds := [], alts := [], laidByText := true, laidKinds := [.data, .pinned], laidTests := true, laidLooks := .later }
def ChangeUndoCardSaid : Prop := Claim7.holds Tryd.pinned (.plain (OpenSpec.ofChange changeUndoSpec)) changeUndoCard

/-- THE TIED CARD OF 'narratorlaw19.ChangeConcatenation'. -/
def changeConcatenationCard : Claim7 := { stood := { row := changeConcatenationRow, standIns := [], harness := (true, "77331c941379a71633fe22536ad7c534d632a1e960083e72d6a7a2c1fcf3a727"), looks := false }, kinds := [], alts := [], laidByText := true, laidKinds := [.data, .pinned], laidTests := true, laidLooks := .later }
def ChangeConcatenationCardSaid : Prop := Claim7.holds Tryd.pinned (.plain (OpenSpec.ofChange changeConcatenationSpec)) changeConcatenationCard

/-- THE TIED CARD OF 'narratorlaw19.ChangeEqual'. -/
def changeEqualCard : Claim7 := { stood := { row := changeEqualRow, standIns := [], harness := (true, "77331c941379a71633fe22536ad7c534d632a1e960083e72d6a7a2c1fcf3a727"), looks := false }, kinds := [], alts := [], laidByText := true, laidKinds := [.data, .pinned], laidTests := true, laidLooks := .later }
def ChangeEqualCardSaid : Prop := Claim7.holds Tryd.pinned (.plain (OpenSpec.ofChange changeEqualSpec)) changeEqualCard

/-- THE TIED CARD OF 'narratorlaw19.ChangeExchange'. -/
def changeExchangeCard : Claim7 := { stood := { row := changeExchangeRow, standIns := [], harness := (true, "77331c941379a71633fe22536ad7c534d632a1e960083e72d6a7a2c1fcf3a727"), looks := false }, kinds := [], alts := [], laidByText := true, laidKinds := [.data, .pinned], laidTests := true, laidLooks := .later }
def ChangeExchangeCardSaid : Prop := Claim7.holds Tryd.pinned (.plain (OpenSpec.ofChange changeExchangeSpec)) changeExchangeCard

/-- THE TIED CARD OF 'narratorlaw19.ChangeNothing'. -/
def changeNothingCard : Claim7 := { stood := { row := changeNothingRow, standIns := [], harness := (true, "77331c941379a71633fe22536ad7c534d632a1e960083e72d6a7a2c1fcf3a727"), looks := false }, kinds := [], alts := [], laidByText := true, laidKinds := [.data, .pinned], laidTests := true, laidLooks := .later }
def ChangeNothingCardSaid : Prop := Claim7.holds Tryd.pinned (.plain (OpenSpec.ofChange changeNothingSpec)) changeNothingCard

/-- THE SECOND FORM's CARD OF 'narratorlaw19.ChangeProper'. -/
def changeProperUptoCard : Claim7 := { stood := { row := changeProperUptoRow, standIns := [], harness := (true, "77331c941379a71633fe22536ad7c534d632a1e960083e72d6a7a2c1fcf3a727"), looks := false }, kinds := [], alts := [], laidByText := true, laidKinds := [.data, .pinned], laidTests := true, laidLooks := .later }
def ChangeProperUptoCardSaid : Prop := Claim7.holds Tryd.pinned (.plain (OpenSpec.upto changeProperSpec)) changeProperUptoCard

/-- THE SECOND FORM's CARD OF 'narratorlaw19.ChangeCheck'. -/
def changeCheckUptoCard : Claim7 := { stood := { row := changeCheckUptoRow, standIns := [], harness := (true, "77331c941379a71633fe22536ad7c534d632a1e960083e72d6a7a2c1fcf3a727"), looks := false }, kinds := [], alts := [], laidByText := true, laidKinds := [.data, .pinned], laidTests := true, laidLooks := .later }
def ChangeCheckUptoCardSaid : Prop := Claim7.holds Tryd.pinned (.plain (OpenSpec.upto changeCheckSpec)) changeCheckUptoCard

/-- THE SECOND FORM's CARD OF 'narratorlaw19.ChangeSingle'. -/
def changeSingleUptoCard : Claim7 := { stood := { row := changeSingleUptoRow, standIns := [], harness := (true, "77331c941379a71633fe22536ad7c534d632a1e960083e72d6a7a2c1fcf3a727"), looks := false }, kinds := [], alts := [], laidByText := true, laidKinds := [.data, .pinned], laidTests := true, laidLooks := .later }
def ChangeSingleUptoCardSaid : Prop := Claim7.holds Tryd.pinned (.plain (OpenSpec.upto changeSingleSpec)) changeSingleUptoCard

/-- THE SECOND FORM's CARD OF 'narratorlaw19.ChangeScroll'. -/
def changeScrollUptoCard : Claim7 := { stood := { row := changeScrollUptoRow, standIns := [], harness := (true, "77331c941379a71633fe22536ad7c534d632a1e960083e72d6a7a2c1fcf3a727"), looks := false }, kinds := [], alts := [], laidByText := true, laidKinds := [.data, .pinned], laidTests := true, laidLooks := .later }
def ChangeScrollUptoCardSaid : Prop := Claim7.holds Tryd.pinned (.plain (OpenSpec.upto changeScrollSpec)) changeScrollUptoCard

/-- THE SECOND FORM's CARD OF 'narratorlaw19.ChangeApply'. -/
def changeApplyUptoCard : Claim7 := { stood := { row := changeApplyUptoRow, standIns := [], harness := (true, "77331c941379a71633fe22536ad7c534d632a1e960083e72d6a7a2c1fcf3a727"), looks := false }, kinds := [], alts := [], laidByText := true, laidKinds := [.data, .pinned], laidTests := true, laidLooks := .later }
def ChangeApplyUptoCardSaid : Prop := Claim7.holds Tryd.pinned (.plain (OpenSpec.upto changeApplySpec)) changeApplyUptoCard

/-- THE SECOND FORM's CARD OF 'narratorlaw19.ChangeUndo'. -/
def changeUndoUptoCard : Claim7 := { stood := { row := changeUndoUptoRow, standIns := [], harness := (true, "77331c941379a71633fe22536ad7c534d632a1e960083e72d6a7a2c1fcf3a727"), looks := false }, kinds := [], alts := [], laidByText := true, laidKinds := [.data, .pinned], laidTests := true, laidLooks := .later }
def ChangeUndoUptoCardSaid : Prop := Claim7.holds Tryd.pinned (.plain (OpenSpec.upto changeUndoSpec)) changeUndoUptoCard

/-- THE SECOND FORM's CARD OF 'narratorlaw19.ChangeConcatenation'. -/
def changeConcatenationUptoCard : Claim7 := { stood := { row := changeConcatenationUptoRow, standIns := [], harness := (true, "77331c941379a71633fe22536ad7c534d632a1e960083e72d6a7a2c1fcf3a727"), looks := false }, kinds := [], alts := [], laidByText := true, laidKinds := [.data, .pinned], laidTests := true, laidLooks := .later }
def ChangeConcatenationUptoCardSaid : Prop := Claim7.holds Tryd.pinned (.plain (OpenSpec.upto changeConcatenationSpec)) changeConcatenationUptoCard

/-- THE SECOND FORM's CARD OF 'narratorlaw19.ChangeEqual'. -/
def changeEqualUptoCard : Claim7 := { stood := { row := changeEqualUptoRow, standIns := [], harness := (true, "77331c941379a71633fe22536ad7c534d632a1e960083e72d6a7a2c1fcf3a727"), looks := false }, kinds := [], alts := [], laidByText := true, laidKinds := [.data, .pinned], laidTests := true, laidLooks := .later }
def ChangeEqualUptoCardSaid : Prop := Claim7.holds Tryd.pinned (.plain (OpenSpec.upto changeEqualSpec)) changeEqualUptoCard

/-- THE SECOND FORM's CARD OF 'narratorlaw19.ChangeExchange'. -/
def changeExchangeUptoCard : Claim7 := { stood := { row := changeExchangeUptoRow, standIns := [], harness := (true, "77331c941379a71633fe22536ad7c534d632a1e960083e72d6a7a2c1fcf3a727"), looks := false }, kinds := [], alts := [], laidByText := true, laidKinds := [.data, .pinned], laidTests := true, laidLooks := .later }
def ChangeExchangeUptoCardSaid : Prop := Claim7.holds Tryd.pinned (.plain (OpenSpec.upto changeExchangeSpec)) changeExchangeUptoCard

/-- THE SECOND FORM's CARD OF 'narratorlaw19.ChangeNothing'. -/
def changeNothingUptoCard : Claim7 := { stood := { row := changeNothingUptoRow, standIns := [], harness := (true, "77331c941379a71633fe22536ad7c534d632a1e960083e72d6a7a2c1fcf3a727"), looks := false }, kinds := [], alts := [], laidByText := true, laidKinds := [.data, .pinned], laidTests := true, laidLooks := .later }
def ChangeNothingUptoCardSaid : Prop := Claim7.holds Tryd.pinned (.plain (OpenSpec.upto changeNothingSpec)) changeNothingUptoCard
end Rows
end Go.Proofs.YtknmhbbmopnfjaaDoor
