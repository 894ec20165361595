/-
  DERIVED. GIVEN WITH THE SEED: THE CARDS: each row of YthhjkfilfhmakaaDoorRows.lean that lists a variable, with what it lists TIED to the program's text (the seventh form; the later family's looks); each row that meets fmt, with fmt's text TOLD by the authors' own Lean function (tested against real Go, not proved from fmt's source: count such statements apart). THE CARD IS WHAT COUNTS. Prove the row's statement (the work); the ties are given (YthhjkfilfhmakaaDoorTie.lean); close each card by the builder's one call (the guide's Derived/Test/ToyasCard.lean, 'card_holds'). Laid BY PROGRAM, IN A SANDBOX (cutbox-door.mjs). By AI agents, Wed Nov 11 2026. No macro, syntax, notation, axiom, sorry.
-/
import Derived.Test.YthhjkfilfhmakaaDoorRows
import GoSem.ClaimSeven
namespace Go.Proofs.YthhjkfilfhmakaaDoor
namespace Rows

/-- THE TIED CARD OF 'narratorlaw12.ScrollbackWindow'. -/
def scrollbackWindowCard : Claim7 := { stood := { row := scrollbackWindowRow, standIns := [], harness := (true, "a05bdefb9bdfd260f12241a021c6412accc5512478c473084746a599e4adbdf4"), looks := false }, kinds := [], alts := [], laidByText := true, laidKinds := [.data, .pinned], laidTests := true, laidLooks := .later }
def ScrollbackWindowCardSaid : Prop := Claim7.holds Tryd.pinned (.plain (OpenSpec.ofChange scrollbackWindowSpec)) scrollbackWindowCard

/-- THE TIED CARD OF 'narratorlaw12.ScrollbackMoves'. -/
def scrollbackMovesCard : Claim7 := { stood := { row := scrollbackMovesRow, standIns := [], harness := (true, "a05bdefb9bdfd260f12241a021c6412accc5512478c473084746a599e4adbdf4"), looks := false }, kinds := [], alts := [], laidByText := true, laidKinds := [.data, .pinned], laidTests := true, laidLooks := .later }
def ScrollbackMovesCardSaid : Prop := Claim7.holds Tryd.pinned (.plain (OpenSpec.ofChange scrollbackMovesSpec)) scrollbackMovesCard

/-- THE TIED CARD OF 'narratorlaw12.ScrollbackTrims'. -/
def scrollbackTrimsCard : Claim7 := { stood := { row := scrollbackTrimsRow, standIns := [], harness := (true, "a05bdefb9bdfd260f12241a021c6412accc5512478c473084746a599e4adbdf4"), looks := false }, kinds := [], alts := [], laidByText := true, laidKinds := [.data, .pinned], laidTests := true, laidLooks := .later }
def ScrollbackTrimsCardSaid : Prop := Claim7.holds Tryd.pinned (.plain (OpenSpec.ofChange scrollbackTrimsSpec)) scrollbackTrimsCard

/-- THE TIED CARD OF 'narratorlaw12.ScrollbackLimit'. -/
def scrollbackLimitCard : Claim7 := { stood := { row := scrollbackLimitRow, standIns := [], harness := (true, "a05bdefb9bdfd260f12241a021c6412accc5512478c473084746a599e4adbdf4"), looks := false }, kinds := [], alts := [], laidByText := true, laidKinds := [.data, .pinned], laidTests := true, laidLooks := .later }
def ScrollbackLimitCardSaid : Prop := Claim7.holds Tryd.pinned (.plain (OpenSpec.ofChange scrollbackLimitSpec)) scrollbackLimitCard

/-- THE TIED CARD OF 'narratorlaw12.ScrollbackPushes'. -/
def scrollbackPushesCard : Claim7 := { stood := { row := scrollbackPushesRow, standIns := [], harness := (true, "a05bdefb9bdfd260f12241a021c6412accc5512478c473084746a599e4adbdf4"), looks := false }, kinds := [], alts := [], laidByText := true, laidKinds := [.data, .pinned], laidTests := true, laidLooks := .later }
def ScrollbackPushesCardSaid : Prop := Claim7.holds Tryd.pinned (.plain (OpenSpec.ofChange scrollbackPushesSpec)) scrollbackPushesCard

/-- THE TIED CARD OF 'narratorlaw12.ScrollbackNewest'. -/
def scrollbackNewestCard : Claim7 := { stood := { row := scrollbackNewestRow, standIns := [], harness := (true, "a05bdefb9bdfd260f12241a021c6412accc5512478c473084746a599e4adbdf4"), looks := false }, kinds := [], alts := [], laidByText := true, laidKinds := [.data, .pinned], laidTests := true, laidLooks := .later }
def ScrollbackNewestCardSaid : Prop := Claim7.holds Tryd.pinned (.plain (OpenSpec.ofChange scrollbackNewestSpec)) scrollbackNewestCard

/-- THE TIED CARD OF 'narratorlaw12.ScrollbackRows'. -/
def scrollbackRowsCard : Claim7 := { stood := { row := scrollbackRowsRow, standIns := [], harness := (true, "a05bdefb9bdfd260f12241a021c6412accc5512478c473084746a599e4adbdf4"), looks := false }, kinds := [], alts := [], laidByText := true, laidKinds := [.data, .pinned], laidTests := true, laidLooks := .later }
def ScrollbackRowsCardSaid : Prop := Claim7.holds Tryd.pinned (.plain (OpenSpec.ofChange scrollbackRowsSpec)) scrollbackRowsCard

/-- THE TIED CARD OF 'narratorlaw12.ScrollbackContinues'. -/
def scrollbackContinuesCard : Claim7 := { stood := { row := scrollbackContinuesRow, standIns := [], harness := (true, "a05bdefb9bdfd260f12241a021c6412accc5512478c473084746a599e4adbdf4"), looks := false }, kinds := [], alts := [], laidByText := true, laidKinds := [.data, .pinned], laidTests := true, laidLooks := .later }
def ScrollbackContinuesCardSaid : Prop := Claim7.holds Tryd.pinned (.plain (OpenSpec.ofChange scrollbackContinuesSpec)) scrollbackContinuesCard

/-- THE SECOND FORM's CARD OF 'narratorlaw12.ScrollbackWindow'. -/
def scrollbackWindowUptoCard : Claim7 := { stood := { row := scrollbackWindowUptoRow, standIns := [], harness := (true, "a05bdefb9bdfd260f12241a021c6412accc5512478c473084746a599e4adbdf4"), looks := false }, kinds := [], alts := [], laidByText := true, laidKinds := [.data, .pinned], laidTests := true, laidLooks := .later }
def ScrollbackWindowUptoCardSaid : Prop := Claim7.holds Tryd.pinned (.plain (OpenSpec.upto scrollbackWindowSpec)) scrollbackWindowUptoCard

/-- THE SECOND FORM's CARD OF 'narratorlaw12.ScrollbackMoves'. -/
def scrollbackMovesUptoCard : Claim7 := { stood := { row := scrollbackMovesUptoRow, standIns := [], harness := (true, "a05bdefb9bdfd260f12241a021c6412accc5512478c473084746a599e4adbdf4"), looks := false }, kinds := [], alts := [], laidByText := true, laidKinds := [.data, .pinned], laidTests := true, laidLooks := .later }
def ScrollbackMovesUptoCardSaid : Prop := Claim7.holds Tryd.pinned (.plain (OpenSpec.upto scrollbackMovesSpec)) scrollbackMovesUptoCard

/-- THE SECOND FORM's CARD OF 'narratorlaw12.ScrollbackTrims'. -/
def scrollbackTrimsUptoCard : Claim7 := { stood := { row := scrollbackTrimsUptoRow, standIns := [], harness := (true, "a05bdefb9bdfd260f12241a021c6412accc5512478c473084746a599e4adbdf4"), looks := false }, kinds := [], alts := [], laidByText := true, laidKinds := [.data, .pinned], laidTests := true, laidLooks := .later }
def ScrollbackTrimsUptoCardSaid : Prop := Claim7.holds Tryd.pinned (.plain (OpenSpec.upto scrollbackTrimsSpec)) scrollbackTrimsUptoCard

/-- THE SECOND FORM's CARD OF 'narratorlaw12.ScrollbackLimit'. -/
def scrollbackLimitUptoCard : Claim7 := { stood := { row := scrollbackLimitUptoRow, standIns := [], harness := (true, "a05bdefb9bdfd260f12241a021c6412accc5512478c473084746a599e4adbdf4"), looks := false }, kinds := [], alts := [], laidByText := true, laidKinds := [.data, .pinned], laidTests := true, laidLooks := .later }
def ScrollbackLimitUptoCardSaid : Prop := Claim7.holds Tryd.pinned (.plain (OpenSpec.upto scrollbackLimitSpec)) scrollbackLimitUptoCard

/-- THE SECOND FORM's CARD OF 'narratorlaw12.ScrollbackPushes'. -/
def scrollbackPushesUptoCard : Claim7 := { stood := { row := scrollbackPushesUptoRow, standIns := [], harness := (true, "a05bdefb9bdfd260f12241a021c6412accc5512478c473084746a599e4adbdf4"), looks := false }, kinds := [], alts := [], laidByText := true, laidKinds := [.data, .pinned], laidTests := true, laidLooks := .later }
def ScrollbackPushesUptoCardSaid : Prop := Claim7.holds Tryd.pinned (.plain (OpenSpec.upto scrollbackPushesSpec)) scrollbackPushesUptoCard

/-- THE SECOND FORM's CARD OF 'narratorlaw12.ScrollbackNewest'. -/
def scrollbackNewestUptoCard : Claim7 := { stood := { row := scrollbackNewestUptoRow, standIns := [], harness := (true, "a05bdefb9bdfd260f12241a021c6412accc5512478c473084746a599e4adbdf4"), looks := false }, kinds := [], alts := [], laidByText := true, laidKinds := [.data, .pinned], laidTests := true, laidLooks := .later }
def ScrollbackNewestUptoCardSaid : Prop := Claim7.holds Tryd.pinned (.plain (OpenSpec.upto scrollbackNewestSpec)) scrollbackNewestUptoCard

/-- THE SECOND FORM's CARD OF 'narratorlaw12.ScrollbackRows'. -/
def scrollbackRowsUptoCard : Claim7 := { stood := { row := scrollbackRowsUptoRow, standIns := [], harness := (true, "a05bdefb9bdfd260f12241a021c6412accc5512478c473084746a599e4adbdf4"), looks := false }, kinds := [], alts := [], laidByText := true, laidKinds := [.data, .pinned], laidTests := true, laidLooks := .later }
def ScrollbackRowsUptoCardSaid : Prop := Claim7.holds Tryd.pinned (.plain (OpenSpec.upto scrollbackRowsSpec)) scrollbackRowsUptoCard

/-- THE SECOND FORM's CARD OF 'narratorlaw12.ScrollbackContinues'. -/
def scrollbackContinuesUptoCard : Claim7 := { stood := { row := scrollbackContinuesUptoRow, standIns := [], harness := (true, "a05bdefb9bdfd260f12241a021c6412accc5512478c473084746a599e4adbdf4"), looks := false }, kinds := [], alts := [], laidByText := true, laidKinds := [.data, .pinned], laidTests := true, laidLooks := .later }
def ScrollbackContinuesUptoCardSaid : Prop := Claim7.holds Tryd.pinned (.plain (OpenSpec.upto scrollbackContinuesSpec)) scrollbackContinuesUptoCard
end Rows
end Go.Proofs.YthhjkfilfhmakaaDoor
