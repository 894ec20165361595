/-
  DERIVED. GIVEN WITH THE SEED: THE CARDS: each row of YtckglkbbdbmdkaaDoorRows.lean that lists a variable, with what it lists TIED to the program's text (the seventh form; the later family's looks); each row that meets fmt, with fmt's text TOLD by the authors' own Lean function (tested against real Go, not proved from fmt's source: count such statements apart). THE CARD IS WHAT COUNTS. Prove the row's statement (the work); the ties are given (YtckglkbbdbmdkaaDoorTie.lean); close each card by the builder's one call (the guide's Derived/Test/ToyasCard.lean, 'card_holds'). Laid BY PROGRAM, IN A SANDBOX (cutbox-door.mjs). By AI agents, Wed Nov 11 2026. No macro, syntax, notation, axiom, sorry.
-/
import Derived.Test.YtckglkbbdbmdkaaDoorRows
import GoSem.ClaimSeven
namespace Go.Proofs.YtckglkbbdbmdkaaDoor
namespace Rows

/-- THE TIED CARD OF 'narratorlaw07.CellrowCheck'. -/
def cellrowCheckCard : Claim7 := { stood := { row := cellrowCheckRow, standIns := [], harness := (true, "3b24764eaae104d6c8e05c22dc7384b4a388a3a473486591bc86e2cdb280ac04"), looks := false }, kinds := [], alts := [], laidByText := true, laidKinds := [.data, .pinned], laidTests := true, laidLooks := .later }
def CellrowCheckCardSaid : Prop := Claim7.holds Tryd.pinned (.plain (OpenSpec.ofChange cellrowCheckSpec)) cellrowCheckCard

/-- THE TIED CARD OF 'narratorlaw07.CellrowPut'. -/
def cellrowPutCard : Claim7 := { stood := { row := cellrowPutRow, standIns := [], harness := (true, "3b24764eaae104d6c8e05c22dc7384b4a388a3a473486591bc86e2cdb280ac04"), looks := false }, kinds := [], alts := [], laidByText := true, laidKinds := [.data, .pinned], laidTests := true, laidLooks := .later }
def CellrowPutCardSaid : Prop := Claim7.holds Tryd.pinned (.plain (OpenSpec.ofChange cellrowPutSpec)) cellrowPutCard

/-- THE TIED CARD OF 'narratorlaw07.CellrowPutReads'. -/
def cellrowPutReadsCard : Claim7 := { stood := { row := cellrowPutReadsRow, standIns := [], harness := (true, "3b24764eaae104d6c8e05c22dc7384b4a388a3a473486591bc86e2cdb280ac04"), looks := false }, kinds := [], alts := [], laidByText := true, laidKinds := [.data, .pinned], laidTests := true, laidLooks := .later }
def CellrowPutReadsCardSaid : Prop := Claim7.holds Tryd.pinned (.plain (OpenSpec.ofChange cellrowPutReadsSpec)) cellrowPutReadsCard

/-- THE TIED CARD OF 'narratorlaw07.CellrowShift'. -/
def cellrowShiftCard : Claim7 := { stood := { row := cellrowShiftRow, standIns := [], harness := (true, "3b24764eaae104d6c8e05c22dc7384b4a388a3a473486591bc86e2cdb280ac04"), looks := false }, kinds := [], alts := [], laidByText := true, laidKinds := [.data, .pinned], laidTests := true, laidLooks := .later }
def CellrowShiftCardSaid : Prop := Claim7.holds Tryd.pinned (.plain (OpenSpec.ofChange cellrowShiftSpec)) cellrowShiftCard

/-- THE TIED CARD OF 'narratorlaw07.CellrowFits'. -/
def cellrowFitsCard : Claim7 := { stood := { row := cellrowFitsRow, standIns := [], harness := (true, "3b24764eaae104d6c8e05c22dc7384b4a388a3a473486591bc86e2cdb280ac04"), looks := false }, kinds := [], alts := [], laidByText := true, laidKinds := [.data, .pinned], laidTests := true, laidLooks := .later }
def CellrowFitsCardSaid : Prop := Claim7.holds Tryd.pinned (.plain (OpenSpec.ofChange cellrowFitsSpec)) cellrowFitsCard

/-- THE TIED CARD OF 'narratorlaw07.CellrowErases'. -/
def cellrowErasesCard : Claim7 := { stood := { row := cellrowErasesRow, standIns := [], harness := (true, "3b24764eaae104d6c8e05c22dc7384b4a388a3a473486591bc86e2cdb280ac04"), looks := false }, kinds := [], alts := [], laidByText := true, laidKinds := [.data, .pinned], laidTests := true, laidLooks := .later }
def CellrowErasesCardSaid : Prop := Claim7.holds Tryd.pinned (.plain (OpenSpec.ofChange cellrowErasesSpec)) cellrowErasesCard

/-- THE TIED CARD OF 'narratorlaw07.CellrowInsertDelete'. -/
def cellrowInsertDeleteCard : Claim7 := { stood := { row := cellrowInsertDeleteRow, standIns := [], harness := (true, "3b24764eaae104d6c8e05c22dc7384b4a388a3a473486591bc86e2cdb280ac04"), looks := false }, kinds := [], alts := [], laidByText := true, laidKinds := [.data, .pinned], laidTests := true, laidLooks := .later }
def CellrowInsertDeleteCardSaid : Prop := Claim7.holds Tryd.pinned (.plain (OpenSpec.ofChange cellrowInsertDeleteSpec)) cellrowInsertDeleteCard

/-- THE TIED CARD OF 'narratorlaw07.CellrowErase'. -/
def cellrowEraseCard : Claim7 := { stood := { row := cellrowEraseRow, standIns := [], harness := (true, "3b24764eaae104d6c8e05c22dc7384b4a388a3a473486591bc86e2cdb280ac04"), looks := false }, kinds := [], alts := [], laidByText := true, laidKinds := [.data, .pinned], laidTests := true, laidLooks := .later }
def CellrowEraseCardSaid : Prop := Claim7.holds Tryd.pinned (.plain (OpenSpec.ofChange cellrowEraseSpec)) cellrowEraseCard

/-- THE TIED CARD OF 'narratorlaw07.CellrowProper'. -/
def cellrowProperCard : Claim7 := { stood := { row := cellrowProperRow, standIns := [], harness := (true, "3b24764eaae104d6c8e05c22dc7384b4a388a3a473486591bc86e2cdb280ac04"), looks := false }, kinds := [], alts := [], laidByText := true, laidKinds := [.data, .pinned], laidTests := true, laidLooks := .later }
def CellrowProperCardSaid : Prop := Claim7.holds Tryd.pinned (.plain (OpenSpec.ofChange cellrowProperSpec)) cellrowProperCard

/-- THE SECOND FORM's CARD OF 'narratorlaw07.CellrowCheck'. -/
def cellrowCheckUptoCard : Claim7 := { stood := { row := cellrowCheckUptoRow, standIns := [], harness := (true, "3b24764eaae104d6c8e05c22dc7384b4a388a3a473486591bc86e2cdb280ac04"), looks := false }, kinds := [], alts := [], laidByText := true, laidKinds := [.data, .pinned], laidTests := true, laidLooks := .later }
def CellrowCheckUptoCardSaid : Prop := Claim7.holds Tryd.pinned (.plain (OpenSpec.upto cellrowCheckSpec)) cellrowCheckUptoCard

/-- THE SECOND FORM's CARD OF 'narratorlaw07.CellrowPut'. -/
def cellrowPutUptoCard : Claim7 := { stood := { row := cellrowPutUptoRow, standIns := [], harness := (true, "3b24764eaae104d6c8e05c22dc7384b4a388a3a473486591bc86e2cdb280ac04"), looks := false }, kinds := [], alts := [], laidByText := true, laidKinds := [.data, .pinned], laidTests := true, laidLooks := .later }
def CellrowPutUptoCardSaid : Prop := Claim7.holds Tryd.pinned (.plain (OpenSpec.upto cellrowPutSpec)) cellrowPutUptoCard

/-- THE SECOND FORM's CARD OF 'narratorlaw07.CellrowPutReads'. -/
def cellrowPutReadsUptoCard : Claim7 := { stood := { row := cellrowPutReadsUptoRow, standIns := [], harness := (true, "3b24764eaae104d6c8e05c22dc7384b4a388a3a473486591bc86e2cdb280ac04"), looks := false }, kinds := [], alts := [], laidByText := true, laidKinds := [.data, .pinned], laidTests := true, laidLooks := .later }
def CellrowPutReadsUptoCardSaid : Prop := Claim7.holds Tryd.pinned (.plain (OpenSpec.upto cellrowPutReadsSpec)) cellrowPutReadsUptoCard

/-- THE SECOND FORM's CARD OF 'narratorlaw07.CellrowShift'. -/
def cellrowShiftUptoCard : Claim7 := { stood := { row := cellrowShiftUptoRow, standIns := [], harness := (true, "3b24764eaae104d6c8e05c22dc7384b4a388a3a473486591bc86e2cdb280ac04"), looks := false }, kinds := [], alts := [], laidByText := true, laidKinds := [.data, .pinned], laidTests := true, laidLooks := .later }
def CellrowShiftUptoCardSaid : Prop := Claim7.holds Tryd.pinned (.plain (OpenSpec.upto cellrowShiftSpec)) cellrowShiftUptoCard

/-- THE SECOND FORM's CARD OF 'narratorlaw07.CellrowFits'. -/
def cellrowFitsUptoCard : Claim7 := { stood := { row := cellrowFitsUptoRow, standIns := [], harness := (true, "3b24764eaae104d6c8e05c22dc7384b4a388a3a473486591bc86e2cdb280ac04"), looks := false }, kinds := [], alts := [], laidByText := true, laidKinds := [.data, .pinned], laidTests := true, laidLooks := .later }
def CellrowFitsUptoCardSaid : Prop := Claim7.holds Tryd.pinned (.plain (OpenSpec.upto cellrowFitsSpec)) cellrowFitsUptoCard

/-- THE SECOND FORM's CARD OF 'narratorlaw07.CellrowErases'. -/
def cellrowErasesUptoCard : Claim7 := { stood := { row := cellrowErasesUptoRow, standIns := [], harness := (true, "3b24764eaae104d6c8e05c22dc7384b4a388a3a473486591bc86e2cdb280ac04"), looks := false }, kinds := [], alts := [], laidByText := true, laidKinds := [.data, .pinned], laidTests := true, laidLooks := .later }
def CellrowErasesUptoCardSaid : Prop := Claim7.holds Tryd.pinned (.plain (OpenSpec.upto cellrowErasesSpec)) cellrowErasesUptoCard

/-- THE SECOND FORM's CARD OF 'narratorlaw07.CellrowInsertDelete'. -/
def cellrowInsertDeleteUptoCard : Claim7 := { stood := { row := cellrowInsertDeleteUptoRow, standIns := [], harness := (true, "3b24764eaae104d6c8e05c22dc7384b4a388a3a473486591bc86e2cdb280ac04"), looks := false }, kinds := [], alts := [], laidByText := true, laidKinds := [.data, .pinned], laidTests := true, laidLooks := .later }
def CellrowInsertDeleteUptoCardSaid : Prop := Claim7.holds Tryd.pinned (.plain (OpenSpec.upto cellrowInsertDeleteSpec)) cellrowInsertDeleteUptoCard

/-- THE SECOND FORM's CARD OF 'narratorlaw07.CellrowErase'. -/
def cellrowEraseUptoCard : Claim7 := { stood := { row := cellrowEraseUptoRow, standIns := [], harness := (true, "3b24764eaae104d6c8e05c22dc7384b4a388a3a473486591bc86e2cdb280ac04"), looks := false }, kinds := [], alts := [], laidByText := true, laidKinds := [.data, .pinned], laidTests := true, laidLooks := .later }
def CellrowEraseUptoCardSaid : Prop := Claim7.holds Tryd.pinned (.plain (OpenSpec.upto cellrowEraseSpec)) cellrowEraseUptoCard

/-- THE SECOND FORM's CARD OF 'narratorlaw07.CellrowProper'. -/
def cellrowProperUptoCard : Claim7 := { stood := { row := cellrowProperUptoRow, standIns := [], harness := (true, "3b24764eaae104d6c8e05c22dc7384b4a388a3a473486591bc86e2cdb280ac04"), looks := false }, kinds := [], alts := [], laidByText := true, laidKinds := [.data, .pinned], laidTests := true, laidLooks := .later }
def CellrowProperUptoCardSaid : Prop := Claim7.holds Tryd.pinned (.plain (OpenSpec.upto cellrowProperSpec)) cellrowProperUptoCard
end Rows
end Go.Proofs.YtckglkbbdbmdkaaDoor
