/-
  DERIVED. GIVEN WITH THE SEED: THE CARDS: each row of YtednaajanciabaaGreatDoorRows.lean that lists a variable, with what it lists TIED to the program's text (the seventh form; the later family's looks); each row that meets fmt, with fmt's text TOLD by the authors' own Lean function (tested against real Go, not proved from fmt's source: count such statements apart). THE CARD IS WHAT COUNTS. Prove the row's statement (the work); the ties are given (YtednaajanciabaaGreatDoorTie.lean); close each card by the builder's one call (the guide's Derived/Test/ToyasCard.lean, 'card_holds'). Laid BY PROGRAM, IN A SANDBOX (cutbox-door.mjs). By AI agents, Wed Nov 11 2026. No macro, syntax, notation, axiom, sorry.
-/
import Derived.Test.YtednaajanciabaaGreatDoorRows
import GoSem.ClaimSeven
namespace Go.Proofs.YtednaajanciabaaGreatDoor
namespace Rows

/-- THE TIED CARD OF 'synopticlaw18.BuddyGreatest'. -/
def buddyGreatestCard : Claim7 := { stood := { row := buddyGreatestRow, standIns := [], harness := (true, "be244247b3e462c22559e7721cff753b6eddba59284b9eaa4b1c85ab60fe88ae"), looks := false }, kinds := [], alts := [], laidByText := true, laidKinds := [.data, .data], laidTests := true, laidLooks := .later }
def BuddyGreatestCardSaid : Prop := Claim7.holds Tryz.pinned (.plain (OpenSpec.ofChange buddyGreatestSpec)) buddyGreatestCard

/-- THE TIED CARD OF 'synopticlaw18.BuddyOrder'. -/
def buddyOrderCard : Claim7 := { stood := { row := buddyOrderRow, standIns := [], harness := (true, "be244247b3e462c22559e7721cff753b6eddba59284b9eaa4b1c85ab60fe88ae"), looks := false }, kinds := [], alts := [], laidByText := true, laidKinds := [.data, .data], laidTests := true, laidLooks := .later }
def BuddyOrderCardSaid : Prop := Claim7.holds Tryz.pinned (.plain (OpenSpec.ofChange buddyOrderSpec)) buddyOrderCard

/-- THE TIED CARD OF 'synopticlaw18.BuddyShifted'. -/
def buddyShiftedCard : Claim7 := { stood := { row := buddyShiftedRow, standIns := [], harness := (true, "be244247b3e462c22559e7721cff753b6eddba59284b9eaa4b1c85ab60fe88ae"), looks := false }, kinds := [], alts := [], laidByText := true, laidKinds := [.data, .data], laidTests := true, laidLooks := .later }
def BuddyShiftedCardSaid : Prop := Claim7.holds Tryz.pinned (.plain (OpenSpec.ofChange buddyShiftedSpec)) buddyShiftedCard

/-- THE TIED CARD OF 'synopticlaw18.BuddyAnswers'. -/
def buddyAnswersCard : Claim7 := { stood := { row := buddyAnswersRow, standIns := [], harness := (true, "be244247b3e462c22559e7721cff753b6eddba59284b9eaa4b1c85ab60fe88ae"), looks := false }, kinds := [], alts := [], laidByText := true, laidKinds := [.data, .data], laidTests := true, laidLooks := .later }
def BuddyAnswersCardSaid : Prop := Claim7.holds Tryz.pinned (.plain (OpenSpec.ofChange buddyAnswersSpec)) buddyAnswersCard

/-- THE TIED CARD OF 'synopticlaw18.BuddyWider'. -/
def buddyWiderCard : Claim7 := { stood := { row := buddyWiderRow, standIns := [], harness := (true, "be244247b3e462c22559e7721cff753b6eddba59284b9eaa4b1c85ab60fe88ae"), looks := false }, kinds := [], alts := [], laidByText := true, laidKinds := [.data, .data], laidTests := true, laidLooks := .later }
def BuddyWiderCardSaid : Prop := Claim7.holds Tryz.pinned (.plain (OpenSpec.ofChange buddyWiderSpec)) buddyWiderCard

/-- THE TIED CARD OF 'synopticlaw18.BuddyFew'. -/
def buddyFewCard : Claim7 := { stood := { row := buddyFewRow, standIns := [], harness := (true, "be244247b3e462c22559e7721cff753b6eddba59284b9eaa4b1c85ab60fe88ae"), looks := false }, kinds := [], alts := [], laidByText := true, laidKinds := [.data, .data], laidTests := true, laidLooks := .later }
def BuddyFewCardSaid : Prop := Claim7.holds Tryz.pinned (.plain (OpenSpec.ofChange buddyFewSpec)) buddyFewCard

/-- THE SECOND FORM's CARD OF 'synopticlaw18.BuddyGreatest'. -/
def buddyGreatestUptoCard : Claim7 := { stood := { row := buddyGreatestUptoRow, standIns := [], harness := (true, "be244247b3e462c22559e7721cff753b6eddba59284b9eaa4b1c85ab60fe88ae"), looks := false }, kinds := [], alts := [], laidByText := true, laidKinds := [.data, .data], laidTests := true, laidLooks := .later }
def BuddyGreatestUptoCardSaid : Prop := Claim7.holds Tryz.pinned (.plain (OpenSpec.upto buddyGreatestSpec)) buddyGreatestUptoCard

/-- THE SECOND FORM's CARD OF 'synopticlaw18.BuddyOrder'. -/
def buddyOrderUptoCard : Claim7 := { stood := { row := buddyOrderUptoRow, standIns := [], harness := (true, "be244247b3e462c22559e7721cff753b6eddba59284b9eaa4b1c85ab60fe88ae"), looks := false }, kinds := [], alts := [], laidByText := true, laidKinds := [.data, .data], laidTests := true, laidLooks := .later }
def BuddyOrderUptoCardSaid : Prop := Claim7.holds Tryz.pinned (.plain (OpenSpec.upto buddyOrderSpec)) buddyOrderUptoCard

/-- THE SECOND FORM's CARD OF 'synopticlaw18.BuddyShifted'. -/
def buddyShiftedUptoCard : Claim7 := { stood := { row := buddyShiftedUptoRow, standIns := [], harness := (true, "be244247b3e462c22559e7721cff753b6eddba59284b9eaa4b1c85ab60fe88ae"), looks := false }, kinds := [], alts := [], laidByText := true, laidKinds := [.data, .data], laidTests := true, laidLooks := .later }
def BuddyShiftedUptoCardSaid : Prop := Claim7.holds Tryz.pinned (.plain (OpenSpec.upto buddyShiftedSpec)) buddyShiftedUptoCard

/-- THE SECOND FORM's CARD OF 'synopticlaw18.BuddyAnswers'. -/
def buddyAnswersUptoCard : Claim7 := { stood := { row := buddyAnswersUptoRow, standIns := [], harness := (true, "be244247b3e462c22559e7721cff753b6eddba59284b9eaa4b1c85ab60fe88ae"), looks := false }, kinds := [], alts := [], laidByText := true, laidKinds := [.data, .data], laidTests := true, laidLooks := .later }
def BuddyAnswersUptoCardSaid : Prop := Claim7.holds Tryz.pinned (.plain (OpenSpec.upto buddyAnswersSpec)) buddyAnswersUptoCard

/-- THE SECOND FORM's CARD OF 'synopticlaw18.BuddyWider'. -/
def buddyWiderUptoCard : Claim7 := { stood := { row := buddyWiderUptoRow, standIns := [], harness := (true, "be244247b3e462c22559e7721cff753b6eddba59284b9eaa4b1c85ab60fe88ae"), looks := false }, kinds := [], alts := [], laidByText := true, laidKinds := [.data, .data], laidTests := true, laidLooks := .later }
def BuddyWiderUptoCardSaid : Prop := Claim7.holds Tryz.pinned (.plain (OpenSpec.upto buddyWiderSpec)) buddyWiderUptoCard

/-- THE SECOND FORM's CARD OF 'synopticlaw18.BuddyFew'. -/
def buddyFewUptoCard : Claim7 := { stood := { row := buddyFewUptoRow, standIns := [], harness := (true, "be244247b3e462c22559e7721cff753b6eddba59284b9eaa4b1c85ab60fe88ae"), looks := false }, kinds := [], alts := [], laidByText := true, laidKinds := [.data, .data], laidTests := true, laidLooks := .later }
def BuddyFewUptoCardSaid : Prop := Claim7.holds Tryz.pinned (.plain (OpenSpec.upto buddyFewSpec)) buddyFewUptoCard
end Rows
end Go.Proofs.YtednaajanciabaaGreatDoor
