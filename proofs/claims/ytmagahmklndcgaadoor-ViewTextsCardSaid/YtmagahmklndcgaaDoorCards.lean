/-
  DERIVED. GIVEN WITH THE SEED: THE CARDS: each row of YtmagahmklndcgaaDoorRows.lean that lists a variable, with what it lists TIED to the program's text (the seventh form; the later family's looks); each row that meets fmt, with fmt's text TOLD by the authors' own Lean function (tested against real Go, not proved from fmt's source: count such statements apart). THE CARD IS WHAT COUNTS. Prove the row's statement (the work); the ties are given (YtmagahmklndcgaaDoorTie.lean); close each card by the builder's one call (the guide's Derived/Test/ToyasCard.lean, 'card_holds'). Laid BY PROGRAM, IN A SANDBOX (cutbox-door.mjs). By AI agents, Wed Nov 11 2026. No macro, syntax, notation, axiom, sorry.
-/
import Derived.Test.YtmagahmklndcgaaDoorRows
import GoSem.ClaimSeven
namespace Go.Proofs.YtmagahmklndcgaaDoor
namespace Rows

/-- THE TIED CARD OF 'narratorlaw15.ViewOf'. -/
def viewOfCard : Claim7 := { stood := { row := viewOfRow, standIns := [], harness := (true, "dc88cfe1c1fce755e01f6cec0d09b115b61e29a1d05d3c456af257446b5ba49e"), looks := false }, kinds := [], alts := [], laidByText := true, laidKinds := [.data, .pinned], laidTests := true, laidLooks := .later }
def ViewOfCardSaid : Prop := Claim7.holds Tryd.pinned (.plain (OpenSpec.ofChange viewOfSpec)) viewOfCard

/-- THE TIED CARD OF 'narratorlaw15.ViewTrims'. -/
def viewTrimsCard : Claim7 := { stood := { row := viewTrimsRow, standIns := [], harness := (true, "dc88cfe1c1fce755e01f6cec0d09b115b61e29a1d05d3c456af257446b5ba49e"), looks := false }, kinds := [], alts := [], laidByText := true, laidKinds := [.data, .pinned], laidTests := true, laidLooks := .later }
def ViewTrimsCardSaid : Prop := Claim7.holds Tryd.pinned (.plain (OpenSpec.ofChange viewTrimsSpec)) viewTrimsCard

/-- THE TIED CARD OF 'narratorlaw15.ViewColumns'. -/
def viewColumnsCard : Claim7 := { stood := { row := viewColumnsRow, standIns := [], harness := (true, "dc88cfe1c1fce755e01f6cec0d09b115b61e29a1d05d3c456af257446b5ba49e"), looks := false }, kinds := [], alts := [], laidByText := true, laidKinds := [.data, .pinned], laidTests := true, laidLooks := .later }
def ViewColumnsCardSaid : Prop := Claim7.holds Tryd.pinned (.plain (OpenSpec.ofChange viewColumnsSpec)) viewColumnsCard

/-- THE TIED CARD OF 'narratorlaw15.ViewEqual'. -/
def viewEqualCard : Claim7 := { stood := { row := viewEqualRow, standIns := [], harness := (true, "dc88cfe1c1fce755e01f6cec0d09b115b61e29a1d05d3c456af257446b5ba49e"), looks := false }, kinds := [], alts := [], laidByText := true, laidKinds := [.data, .pinned], laidTests := true, laidLooks := .later }
def ViewEqualCardSaid : Prop := Claim7.holds Tryd.pinned (.plain (OpenSpec.ofChange viewEqualSpec)) viewEqualCard

/-- THE TIED CARD OF 'narratorlaw15.ViewConceals'. -/
def viewConcealsCard : Claim7 := { stood := { row := viewConcealsRow, standIns := [], harness := (true, "dc88cfe1c1fce755e01f6cec0d09b115b61e29a1d05d3c456af257446b5ba49e"), looks := false }, kinds := [], alts := [], laidByText := true, laidKinds := [.data, .pinned], laidTests := true, laidLooks := .later }
def ViewConcealsCardSaid : Prop := Claim7.holds Tryd.pinned (.plain (OpenSpec.ofChange viewConcealsSpec)) viewConcealsCard

/-- THE TIED CARD OF 'narratorlaw15.ViewTexts'. -/
def viewTextsCard : Claim7 := { stood := { row := viewTextsRow, standIns := [], harness := (true, "dc88cfe1c1fce755e01f6cec0d09b115b61e29a1d05d3c456af257446b5ba49e"), looks := false }, kinds := [], alts := [], laidByText := true, laidKinds := [.data, .pinned], laidTests := true, laidLooks := .later }
def ViewTextsCardSaid : Prop := Claim7.holds Tryd.pinned (.plain (OpenSpec.ofChange viewTextsSpec)) viewTextsCard

/-- THE TIED CARD OF 'narratorlaw15.ViewRows'. -/
def viewRowsCard : Claim7 := { stood := { row := viewRowsRow, standIns := [], harness := (true, "dc88cfe1c1fce755e01f6cec0d09b115b61e29a1d05d3c456af257446b5ba49e"), looks := false }, kinds := [], alts := [], laidByText := true, laidKinds := [.data, .pinned], laidTests := true, laidLooks := .later }
def ViewRowsCardSaid : Prop := Claim7.holds Tryd.pinned (.plain (OpenSpec.ofChange viewRowsSpec)) viewRowsCard

/-- THE TIED CARD OF 'narratorlaw15.ViewCheck'. -/
def viewCheckCard : Claim7 := { stood := { row := viewCheckRow, standIns := [], harness := (true, "dc88cfe1c1fce755e01f6cec0d09b115b61e29a1d05d3c456af257446b5ba49e"), looks := false }, kinds := [], alts := [], laidByText := true, laidKinds := [.data, .pinned], laidTests := true, laidLooks := .later }
def ViewCheckCardSaid : Prop := Claim7.holds Tryd.pinned (.plain (OpenSpec.ofChange viewCheckSpec)) viewCheckCard

/-- THE TIED CARD OF 'narratorlaw15.ViewProper'. -/
def viewProperCard : Claim7 := { stood := { row := viewProperRow, standIns := [], harness := (true, "dc88cfe1c1fce755e01f6cec0d09b115b61e29a1d05d3c456af257446b5ba49e"), looks := false }, kinds := [], alts := [], laidByText := true, laidKinds := [.data, .pinned], laidTests := true, laidLooks := .later }
def ViewProperCardSaid : Prop := Claim7.holds Tryd.pinned (.plain (OpenSpec.ofChange viewProperSpec)) viewProperCard

/-- THE SECOND FORM's CARD OF 'narratorlaw15.ViewOf'. -/
def viewOfUptoCard : Claim7 := { stood := { row := viewOfUptoRow, standIns := [], harness := (true, "dc88cfe1c1fce755e01f6cec0d09b115b61e29a1d05d3c456af257446b5ba49e"), looks := false }, kinds := [], alts := [], laidByText := true, laidKinds := [.data, .pinned], laidTests := true, laidLooks := .later }
def ViewOfUptoCardSaid : Prop := Claim7.holds Tryd.pinned (.plain (OpenSpec.upto viewOfSpec)) viewOfUptoCard

/-- THE SECOND FORM's CARD OF 'narratorlaw15.ViewTrims'. -/
def viewTrimsUptoCard : Claim7 := { stood := { row := viewTrimsUptoRow, standIns := [], harness := (true, "dc88cfe1c1fce755e01f6cec0d09b115b61e29a1d05d3c456af257446b5ba49e"), looks := false }, kinds := [], alts := [], laidByText := true, laidKinds := [.data, .pinned], laidTests := true, laidLooks := .later }
def ViewTrimsUptoCardSaid : Prop := Claim7.holds Tryd.pinned (.plain (OpenSpec.upto viewTrimsSpec)) viewTrimsUptoCard

/-- THE SECOND FORM's CARD OF 'narratorlaw15.ViewColumns'. -/
def viewColumnsUptoCard : Claim7 := { stood := { row := viewColumnsUptoRow, standIns := [], harness := (true, "dc88cfe1c1fce755e01f6cec0d09b115b61e29a1d05d3c456af257446b5ba49e"), looks := false }, kinds := [], alts := [], laidByText := true, laidKinds := [.data, .pinned], laidTests := true, laidLooks := .later }
def ViewColumnsUptoCardSaid : Prop := Claim7.holds Tryd.pinned (.plain (OpenSpec.upto viewColumnsSpec)) viewColumnsUptoCard

/-- THE SECOND FORM's CARD OF 'narratorlaw15.ViewEqual'. -/
def viewEqualUptoCard : Claim7 := { stood := { row := viewEqualUptoRow, standIns := [], harness := (true, "dc88cfe1c1fce755e01f6cec0d09b115b61e29a1d05d3c456af257446b5ba49e"), looks := false }, kinds := [], alts := [], laidByText := true, laidKinds := [.data, .pinned], laidTests := true, laidLooks := .later }
def ViewEqualUptoCardSaid : Prop := Claim7.holds Tryd.pinned (.plain (OpenSpec.upto viewEqualSpec)) viewEqualUptoCard

/-- THE SECOND FORM's CARD OF 'narratorlaw15.ViewConceals'. -/
def viewConcealsUptoCard : Claim7 := { stood := { row := viewConcealsUptoRow, standIns := [], harness := (true, "dc88cfe1c1fce755e01f6cec0d09b115b61e29a1d05d3c456af257446b5ba49e"), looks := false }, kinds := [], alts := [], laidByText := true, laidKinds := [.data, .pinned], laidTests := true, laidLooks := .later }
def ViewConcealsUptoCardSaid : Prop := Claim7.holds Tryd.pinned (.plain (OpenSpec.upto viewConcealsSpec)) viewConcealsUptoCard

/-- THE SECOND FORM's CARD OF 'narratorlaw15.ViewTexts'. -/
def viewTextsUptoCard : Claim7 := { stood := { row := viewTextsUptoRow, standIns := [], harness := (true, "dc88cfe1c1fce755e01f6cec0d09b115b61e29a1d05d3c456af257446b5ba49e"), looks := false }, kinds := [], alts := [], laidByText := true, laidKinds := [.data, .pinned], laidTests := true, laidLooks := .later }
def ViewTextsUptoCardSaid : Prop := Claim7.holds Tryd.pinned (.plain (OpenSpec.upto viewTextsSpec)) viewTextsUptoCard

/-- THE SECOND FORM's CARD OF 'narratorlaw15.ViewRows'. -/
def viewRowsUptoCard : Claim7 := { stood := { row := viewRowsUptoRow, standIns := [], harness := (true, "dc88cfe1c1fce755e01f6cec0d09b115b61e29a1d05d3c456af257446b5ba49e"), looks := false }, kinds := [], alts := [], laidByText := true, laidKinds := [.data, .pinned], laidTests := true, laidLooks := .later }
def ViewRowsUptoCardSaid : Prop := Claim7.holds Tryd.pinned (.plain (OpenSpec.upto viewRowsSpec)) viewRowsUptoCard

/-- THE SECOND FORM's CARD OF 'narratorlaw15.ViewCheck'. -/
def viewCheckUptoCard : Claim7 := { stood := { row := viewCheckUptoRow, standIns := [], harness := (true, "dc88cfe1c1fce755e01f6cec0d09b115b61e29a1d05d3c456af257446b5ba49e"), looks := false }, kinds := [], alts := [], laidByText := true, laidKinds := [.data, .pinned], laidTests := true, laidLooks := .later }
def ViewCheckUptoCardSaid : Prop := Claim7.holds Tryd.pinned (.plain (OpenSpec.upto viewCheckSpec)) viewCheckUptoCard

/-- THE SECOND FORM's CARD OF 'narratorlaw15.ViewProper'. -/
def viewProperUptoCard : Claim7 := { stood := { row := viewProperUptoRow, standIns := [], harness := (true, "dc88cfe1c1fce755e01f6cec0d09b115b61e29a1d05d3c456af257446b5ba49e"), looks := false }, kinds := [], alts := [], laidByText := true, laidKinds := [.data, .pinned], laidTests := true, laidLooks := .later }
def ViewProperUptoCardSaid : Prop := Claim7.holds Tryd.pinned (.plain (OpenSpec.upto viewProperSpec)) viewProperUptoCard
end Rows
end Go.Proofs.YtmagahmklndcgaaDoor
