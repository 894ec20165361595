/-
  DERIVED. GIVEN WITH THE SEED: THE CARDS: each row of YthpbagpnnokalaaDoorRows.lean that lists a variable, with what it lists TIED to the program's text (the seventh form; the later family's looks); each row that meets fmt, with fmt's text TOLD by the authors' own Lean function (tested against real Go, not proved from fmt's source: count such statements apart). THE CARD IS WHAT COUNTS. Prove the row's statement (the work); the ties are given (YthpbagpnnokalaaDoorTie.lean); close each card by the builder's one call (the guide's Derived/Test/ToyasCard.lean, 'card_holds'). Laid BY PROGRAM, IN A SANDBOX (cutbox-door.mjs). By AI agents, Wed Nov 11 2026. No macro, syntax, notation, axiom, sorry.
-/
import Derived.Test.YthpbagpnnokalaaDoorRows
import GoSem.ClaimSeven
namespace Go.Proofs.YthpbagpnnokalaaDoor
namespace Rows

/-- THE TIED CARD OF 'narratorlaw08.GridScroll'. -/
def gridScrollCard : Claim7 := { stood := { row := gridScrollRow, standIns := [], harness := (true, "a445c2f013510a1ad09a40a631a84d97b2c007302d65f536b1644dfa09d1d95a"), looks := false }, kinds := [], alts := [], laidByText := true, laidKinds := [.data, .pinned], laidTests := true, laidLooks := .later }
def GridScrollCardSaid : Prop := Claim7.holds Tryd.pinned (.plain (OpenSpec.ofChange gridScrollSpec)) gridScrollCard

/-- THE TIED CARD OF 'narratorlaw08.GridScrollSteps'. -/
def gridScrollStepsCard : Claim7 := { stood := { row := gridScrollStepsRow, standIns := [], harness := (true, "a445c2f013510a1ad09a40a631a84d97b2c007302d65f536b1644dfa09d1d95a"), looks := false }, kinds := [], alts := [], laidByText := true, laidKinds := [.data, .pinned], laidTests := true, laidLooks := .later }
def GridScrollStepsCardSaid : Prop := Claim7.holds Tryd.pinned (.plain (OpenSpec.ofChange gridScrollStepsSpec)) gridScrollStepsCard

/-- THE TIED CARD OF 'narratorlaw08.GridCheck'. -/
def gridCheckCard : Claim7 := { stood := { row := gridCheckRow, standIns := [], harness := (true, "a445c2f013510a1ad09a40a631a84d97b2c007302d65f536b1644dfa09d1d95a"), looks := false }, kinds := [], alts := [], laidByText := true, laidKinds := [.data, .pinned], laidTests := true, laidLooks := .later }
def GridCheckCardSaid : Prop := Claim7.holds Tryd.pinned (.plain (OpenSpec.ofChange gridCheckSpec)) gridCheckCard

/-- THE TIED CARD OF 'narratorlaw08.GridScrollBack'. -/
def gridScrollBackCard : Claim7 := { stood := { row := gridScrollBackRow, standIns := [], harness := (true, "a445c2f013510a1ad09a40a631a84d97b2c007302d65f536b1644dfa09d1d95a"), looks := false }, kinds := [], alts := [], laidByText := true, laidKinds := [.data, .pinned], laidTests := true, laidLooks := .later }
def GridScrollBackCardSaid : Prop := Claim7.holds Tryd.pinned (.plain (OpenSpec.ofChange gridScrollBackSpec)) gridScrollBackCard

/-- THE TIED CARD OF 'narratorlaw08.GridEdits'. -/
def gridEditsCard : Claim7 := { stood := { row := gridEditsRow, standIns := [], harness := (true, "a445c2f013510a1ad09a40a631a84d97b2c007302d65f536b1644dfa09d1d95a"), looks := false }, kinds := [], alts := [], laidByText := true, laidKinds := [.data, .pinned], laidTests := true, laidLooks := .later }
def GridEditsCardSaid : Prop := Claim7.holds Tryd.pinned (.plain (OpenSpec.ofChange gridEditsSpec)) gridEditsCard

/-- THE TIED CARD OF 'narratorlaw08.GridResize'. -/
def gridResizeCard : Claim7 := { stood := { row := gridResizeRow, standIns := [], harness := (true, "a445c2f013510a1ad09a40a631a84d97b2c007302d65f536b1644dfa09d1d95a"), looks := false }, kinds := [], alts := [], laidByText := true, laidKinds := [.data, .pinned], laidTests := true, laidLooks := .later }
def GridResizeCardSaid : Prop := Claim7.holds Tryd.pinned (.plain (OpenSpec.ofChange gridResizeSpec)) gridResizeCard

/-- THE TIED CARD OF 'narratorlaw08.GridSizes'. -/
def gridSizesCard : Claim7 := { stood := { row := gridSizesRow, standIns := [], harness := (true, "a445c2f013510a1ad09a40a631a84d97b2c007302d65f536b1644dfa09d1d95a"), looks := false }, kinds := [], alts := [], laidByText := true, laidKinds := [.data, .pinned], laidTests := true, laidLooks := .later }
def GridSizesCardSaid : Prop := Claim7.holds Tryd.pinned (.plain (OpenSpec.ofChange gridSizesSpec)) gridSizesCard

/-- THE TIED CARD OF 'narratorlaw08.GridProper'. -/
def gridProperCard : Claim7 := { stood := { row := gridProperRow, standIns := [], harness := (true, "a445c2f013510a1ad09a40a631a84d97b2c007302d65f536b1644dfa09d1d95a"), looks := false }, kinds := [], alts := [], laidByText := true, laidKinds := [.data, .pinned], laidTests := true, laidLooks := .later }
def GridProperCardSaid : Prop := Claim7.holds Tryd.pinned (.plain (OpenSpec.ofChange gridProperSpec)) gridProperCard

/-- THE SECOND FORM's CARD OF 'narratorlaw08.GridScroll'. -/
def gridScrollUptoCard : Claim7 := { stood := { row := gridScrollUptoRow, standIns := [], harness := (true, "a445c2f013510a1ad09a40a631a84d97b2c007302d65f536b1644dfa09d1d95a"), looks := false }, kinds := [], alts := [], laidByText := true, laidKinds := [.data, .pinned], laidTests := true, laidLooks := .later }
def GridScrollUptoCardSaid : Prop := Claim7.holds Tryd.pinned (.plain (OpenSpec.upto gridScrollSpec)) gridScrollUptoCard

/-- THE SECOND FORM's CARD OF 'narratorlaw08.GridScrollSteps'. -/
def gridScrollStepsUptoCard : Claim7 := { stood := { row := gridScrollStepsUptoRow, standIns := [], harness := (true, "a445c2f013510a1ad09a40a631a84d97b2c007302d65f536b1644dfa09d1d95a"), looks := false }, kinds := [], alts := [], laidByText := true, laidKinds := [.data, .pinned], laidTests := true, laidLooks := .later }
def GridScrollStepsUptoCardSaid : Prop := Claim7.holds Tryd.pinned (.plain (OpenSpec.upto gridScrollStepsSpec)) gridScrollStepsUptoCard

/-- THE SECOND FORM's CARD OF 'narratorlaw08.GridCheck'. -/
def gridCheckUptoCard : Claim7 := { stood := { row := gridCheckUptoRow, standIns := [], harness := (true, "a445c2f013510a1ad09a40a631a84d97b2c007302d65f536b1644dfa09d1d95a"), looks := false }, kinds := [], alts := [], laidByText := true, laidKinds := [.data, .pinned], laidTests := true, laidLooks := .later }
def GridCheckUptoCardSaid : Prop := Claim7.holds Tryd.pinned (.plain (OpenSpec.upto gridCheckSpec)) gridCheckUptoCard

/-- THE SECOND FORM's CARD OF 'narratorlaw08.GridScrollBack'. -/
def gridScrollBackUptoCard : Claim7 := { stood := { row := gridScrollBackUptoRow, standIns := [], harness := (true, "a445c2f013510a1ad09a40a631a84d97b2c007302d65f536b1644dfa09d1d95a"), looks := false }, kinds := [], alts := [], laidByText := true, laidKinds := [.data, .pinned], laidTests := true, laidLooks := .later }
def GridScrollBackUptoCardSaid : Prop := Claim7.holds Tryd.pinned (.plain (OpenSpec.upto gridScrollBackSpec)) gridScrollBackUptoCard

/-- THE SECOND FORM's CARD OF 'narratorlaw08.GridEdits'. -/
def gridEditsUptoCard : Claim7 := { stood := { row := gridEditsUptoRow, standIns := [], harness := (true, "a445c2f013510a1ad09a40a631a84d97b2c007302d65f536b1644dfa09d1d95a"), looks := false }, kinds := [], alts := [], laidByText := true, laidKinds := [.data, .pinned], laidTests := true, laidLooks := .later }
def GridEditsUptoCardSaid : Prop := Claim7.holds Tryd.pinned (.plain (OpenSpec.upto gridEditsSpec)) gridEditsUptoCard

/-- THE SECOND FORM's CARD OF 'narratorlaw08.GridResize'. -/
def gridResizeUptoCard : Claim7 := { stood := { row := gridResizeUptoRow, standIns := [], harness := (true, "a445c2f013510a1ad09a40a631a84d97b2c007302d65f536b1644dfa09d1d95a"), looks := false }, kinds := [], alts := [], laidByText := true, laidKinds := [.data, .pinned], laidTests := true, laidLooks := .later }
def GridResizeUptoCardSaid : Prop := Claim7.holds Tryd.pinned (.plain (OpenSpec.upto gridResizeSpec)) gridResizeUptoCard

/-- THE SECOND FORM's CARD OF 'narratorlaw08.GridSizes'. -/
def gridSizesUptoCard : Claim7 := { stood := { row := gridSizesUptoRow, standIns := [], harness := (true, "a445c2f013510a1ad09a40a631a84d97b2c007302d65f536b1644dfa09d1d95a"), looks := false }, kinds := [], alts := [], laidByText := true, laidKinds := [.data, .pinned], laidTests := true, laidLooks := .later }
def GridSizesUptoCardSaid : Prop := Claim7.holds Tryd.pinned (.plain (OpenSpec.upto gridSizesSpec)) gridSizesUptoCard

/-- THE SECOND FORM's CARD OF 'narratorlaw08.GridProper'. -/
def gridProperUptoCard : Claim7 := { stood := { row := gridProperUptoRow, standIns := [], harness := (true, "a445c2f013510a1ad09a40a631a84d97b2c007302d65f536b1644dfa09d1d95a"), looks := false }, kinds := [], alts := [], laidByText := true, laidKinds := [.data, .pinned], laidTests := true, laidLooks := .later }
def GridProperUptoCardSaid : Prop := Claim7.holds Tryd.pinned (.plain (OpenSpec.upto gridProperSpec)) gridProperUptoCard
end Rows
end Go.Proofs.YthpbagpnnokalaaDoor
