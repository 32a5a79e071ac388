/-
  DERIVED. GIVEN WITH THE SEED: THE CARDS: each row of YtlfhildbjipheaaGreatDoorRows.lean that lists a variable, with what it lists TIED to the program's text (the seventh form; the later family's looks); each row that meets fmt, with fmt's text TOLD by the authors' own Lean function (tested against real Go, not proved from fmt's source: count such statements apart). THE CARD IS WHAT COUNTS. Prove the row's statement (the work); the ties are given (YtlfhildbjipheaaGreatDoorTie.lean); close each card by the builder's one call (the guide's Derived/Test/ToyasCard.lean, 'card_holds'). Laid BY PROGRAM, IN A SANDBOX (cutbox-door.mjs). By AI agents, Wed Nov 11 2026. No macro, syntax, notation, axiom, sorry.
-/
import Derived.Test.YtlfhildbjipheaaGreatDoorRows
import GoSem.ClaimSeven
namespace Go.Proofs.YtlfhildbjipheaaGreatDoor
namespace Rows

/-- THE TIED CARD OF 'synopticlaw03.GridLists'. -/
def gridListsCard : Claim7 := { stood := { row := gridListsRow, standIns := [], harness := (true, "27bd0054f4da6b82068c14828eca005e1b652d70b218697f8963c31c6ef285cb"), looks := false }, kinds := [], alts := [], laidByText := true, laidKinds := [.data], laidTests := true, laidLooks := .later }
def GridListsCardSaid : Prop := Claim7.holds Tryz.pinned (.plain (OpenSpec.ofChange gridListsSpec)) gridListsCard

/-- THE TIED CARD OF 'synopticlaw22.PrecisionApplies'. -/
def precisionAppliesCard : Claim7 := { stood := { row := precisionAppliesRow, standIns := [], harness := (true, "27bd0054f4da6b82068c14828eca005e1b652d70b218697f8963c31c6ef285cb"), looks := false }, kinds := [], alts := [], laidByText := true, laidKinds := [.data], laidTests := true, laidLooks := .later }
def PrecisionAppliesCardSaid : Prop := Claim7.holds Tryz.pinned (.plain (OpenSpec.ofChange precisionAppliesSpec)) precisionAppliesCard

/-- THE TIED CARD OF 'synopticlaw03.GridLocates'. -/
def gridLocatesCard : Claim7 := { stood := { row := gridLocatesRow, standIns := [], harness := (true, "27bd0054f4da6b82068c14828eca005e1b652d70b218697f8963c31c6ef285cb"), looks := false }, kinds := [], alts := [], laidByText := true, laidKinds := [.data], laidTests := true, laidLooks := .later }
def GridLocatesCardSaid : Prop := Claim7.holds Tryz.pinned (.plain (OpenSpec.ofChange gridLocatesSpec)) gridLocatesCard

/-- THE TIED CARD OF 'synopticlaw03.GridHops'. -/
def gridHopsCard : Claim7 := { stood := { row := gridHopsRow, standIns := [], harness := (true, "27bd0054f4da6b82068c14828eca005e1b652d70b218697f8963c31c6ef285cb"), looks := false }, kinds := [], alts := [], laidByText := true, laidKinds := [.data], laidTests := true, laidLooks := .later }
def GridHopsCardSaid : Prop := Claim7.holds Tryz.pinned (.plain (OpenSpec.ofChange gridHopsSpec)) gridHopsCard

/-- THE TIED CARD OF 'synopticlaw03.GridNested'. -/
def gridNestedCard : Claim7 := { stood := { row := gridNestedRow, standIns := [], harness := (true, "27bd0054f4da6b82068c14828eca005e1b652d70b218697f8963c31c6ef285cb"), looks := false }, kinds := [], alts := [], laidByText := true, laidKinds := [.data], laidTests := true, laidLooks := .later }
def GridNestedCardSaid : Prop := Claim7.holds Tryz.pinned (.plain (OpenSpec.ofChange gridNestedSpec)) gridNestedCard

/-- THE SECOND FORM's CARD OF 'synopticlaw03.GridLists'. -/
def gridListsUptoCard : Claim7 := { stood := { row := gridListsUptoRow, standIns := [], harness := (true, "27bd0054f4da6b82068c14828eca005e1b652d70b218697f8963c31c6ef285cb"), looks := false }, kinds := [], alts := [], laidByText := true, laidKinds := [.data], laidTests := true, laidLooks := .later }
def GridListsUptoCardSaid : Prop := Claim7.holds Tryz.pinned (.plain (OpenSpec.upto gridListsSpec)) gridListsUptoCard

/-- THE SECOND FORM's CARD OF 'synopticlaw22.PrecisionApplies'. -/
def precisionAppliesUptoCard : Claim7 := { stood := { row := precisionAppliesUptoRow, standIns := [], harness := (true, "27bd0054f4da6b82068c14828eca005e1b652d70b218697f8963c31c6ef285cb"), looks := false }, kinds := [], alts := [], laidByText := true, laidKinds := [.data], laidTests := true, laidLooks := .later }
def PrecisionAppliesUptoCardSaid : Prop := Claim7.holds Tryz.pinned (.plain (OpenSpec.upto precisionAppliesSpec)) precisionAppliesUptoCard

/-- THE SECOND FORM's CARD OF 'synopticlaw03.GridLocates'. -/
def gridLocatesUptoCard : Claim7 := { stood := { row := gridLocatesUptoRow, standIns := [], harness := (true, "27bd0054f4da6b82068c14828eca005e1b652d70b218697f8963c31c6ef285cb"), looks := false }, kinds := [], alts := [], laidByText := true, laidKinds := [.data], laidTests := true, laidLooks := .later }
def GridLocatesUptoCardSaid : Prop := Claim7.holds Tryz.pinned (.plain (OpenSpec.upto gridLocatesSpec)) gridLocatesUptoCard

/-- THE SECOND FORM's CARD OF 'synopticlaw03.GridHops'. -/
def gridHopsUptoCard : Claim7 := { stood := { row := gridHopsUptoRow, standIns := [], harness := (true, "27bd0054f4da6b82068c14828eca005e1b652d70b218697f8963c31c6ef285cb"), looks := false }, kinds := [], alts := [], laidByText := true, laidKinds := [.data], laidTests := true, laidLooks := .later }
def GridHopsUptoCardSaid : Prop := Claim7.holds Tryz.pinned (.plain (OpenSpec.upto gridHopsSpec)) gridHopsUptoCard

/-- THE SECOND FORM's CARD OF 'synopticlaw03.GridNested'. -/
def gridNestedUptoCard : Claim7 := { stood := { row := gridNestedUptoRow, standIns := [], harness := (true, "27bd0054f4da6b82068c14828eca005e1b652d70b218697f8963c31c6ef285cb"), looks := false }, kinds := [], alts := [], laidByText := true, laidKinds := [.data], laidTests := true, laidLooks := .later }
def GridNestedUptoCardSaid : Prop := Claim7.holds Tryz.pinned (.plain (OpenSpec.upto gridNestedSpec)) gridNestedUptoCard
end Rows
end Go.Proofs.YtlfhildbjipheaaGreatDoor
