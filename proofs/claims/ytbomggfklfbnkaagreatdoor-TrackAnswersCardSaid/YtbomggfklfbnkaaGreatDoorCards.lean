/-
  DERIVED. GIVEN WITH THE SEED: THE CARDS: each row of YtbomggfklfbnkaaGreatDoorRows.lean that lists a variable, with what it lists TIED to the program's text (the seventh form; the later family's looks); each row that meets fmt, with fmt's text TOLD by the authors' own Lean function (tested against real Go, not proved from fmt's source: count such statements apart). THE CARD IS WHAT COUNTS. Prove the row's statement (the work); the ties are given (YtbomggfklfbnkaaGreatDoorTie.lean); close each card by the builder's one call (the guide's Derived/Test/ToyasCard.lean, 'card_holds'). Laid BY PROGRAM, IN A SANDBOX (cutbox-door.mjs). By AI agents, Wed Nov 11 2026. No macro, syntax, notation, axiom, sorry.
-/
import Derived.Test.YtbomggfklfbnkaaGreatDoorRows
import GoSem.ClaimSeven
namespace Go.Proofs.YtbomggfklfbnkaaGreatDoor
namespace Rows

/-- THE TIED CARD OF 'synopticlaw12.TrackAnswers'. -/
def trackAnswersCard : Claim7 := { stood := { row := trackAnswersRow, standIns := [], harness := (true, "c1924facf7bef2c17e484037b5b25cdb9e4675c90403a9f7a0a3cacf0e49cd40"), looks := false }, kinds := [], alts := [], laidByText := true, laidKinds := [.data], laidTests := true, laidLooks := .later }
def TrackAnswersCardSaid : Prop := Claim7.holds Tryz.pinned (.plain (OpenSpec.ofChange trackAnswersSpec)) trackAnswersCard

/-- THE TIED CARD OF 'synopticlaw12.TrackLongest'. -/
def trackLongestCard : Claim7 := { stood := { row := trackLongestRow, standIns := [], harness := (true, "c1924facf7bef2c17e484037b5b25cdb9e4675c90403a9f7a0a3cacf0e49cd40"), looks := false }, kinds := [], alts := [], laidByText := true, laidKinds := [.data], laidTests := true, laidLooks := .later }
def TrackLongestCardSaid : Prop := Claim7.holds Tryz.pinned (.plain (OpenSpec.ofChange trackLongestSpec)) trackLongestCard

/-- THE TIED CARD OF 'synopticlaw12.TrackOrder'. -/
def trackOrderCard : Claim7 := { stood := { row := trackOrderRow, standIns := [], harness := (true, "c1924facf7bef2c17e484037b5b25cdb9e4675c90403a9f7a0a3cacf0e49cd40"), looks := false }, kinds := [], alts := [], laidByText := true, laidKinds := [.data], laidTests := true, laidLooks := .later }
def TrackOrderCardSaid : Prop := Claim7.holds Tryz.pinned (.plain (OpenSpec.ofChange trackOrderSpec)) trackOrderCard

/-- THE TIED CARD OF 'synopticlaw12.TrackFaster'. -/
def trackFasterCard : Claim7 := { stood := { row := trackFasterRow, standIns := [], harness := (true, "c1924facf7bef2c17e484037b5b25cdb9e4675c90403a9f7a0a3cacf0e49cd40"), looks := false }, kinds := [], alts := [], laidByText := true, laidKinds := [.data], laidTests := true, laidLooks := .later }
def TrackFasterCardSaid : Prop := Claim7.holds Tryz.pinned (.plain (OpenSpec.ofChange trackFasterSpec)) trackFasterCard

/-- THE TIED CARD OF 'synopticlaw12.TrackNames'. -/
def trackNamesCard : Claim7 := { stood := { row := trackNamesRow, standIns := [], harness := (true, "c1924facf7bef2c17e484037b5b25cdb9e4675c90403a9f7a0a3cacf0e49cd40"), looks := false }, kinds := [], alts := [], laidByText := true, laidKinds := [.data], laidTests := true, laidLooks := .later }
def TrackNamesCardSaid : Prop := Claim7.holds Tryz.pinned (.plain (OpenSpec.ofChange trackNamesSpec)) trackNamesCard

/-- THE SECOND FORM's CARD OF 'synopticlaw12.TrackAnswers'. -/
def trackAnswersUptoCard : Claim7 := { stood := { row := trackAnswersUptoRow, standIns := [], harness := (true, "c1924facf7bef2c17e484037b5b25cdb9e4675c90403a9f7a0a3cacf0e49cd40"), looks := false }, kinds := [], alts := [], laidByText := true, laidKinds := [.data], laidTests := true, laidLooks := .later }
def TrackAnswersUptoCardSaid : Prop := Claim7.holds Tryz.pinned (.plain (OpenSpec.upto trackAnswersSpec)) trackAnswersUptoCard

/-- THE SECOND FORM's CARD OF 'synopticlaw12.TrackLongest'. -/
def trackLongestUptoCard : Claim7 := { stood := { row := trackLongestUptoRow, standIns := [], harness := (true, "c1924facf7bef2c17e484037b5b25cdb9e4675c90403a9f7a0a3cacf0e49cd40"), looks := false }, kinds := [], alts := [], laidByText := true, laidKinds := [.data], laidTests := true, laidLooks := .later }
def TrackLongestUptoCardSaid : Prop := Claim7.holds Tryz.pinned (.plain (OpenSpec.upto trackLongestSpec)) trackLongestUptoCard

/-- THE SECOND FORM's CARD OF 'synopticlaw12.TrackOrder'. -/
def trackOrderUptoCard : Claim7 := { stood := { row := trackOrderUptoRow, standIns := [], harness := (true, "c1924facf7bef2c17e484037b5b25cdb9e4675c90403a9f7a0a3cacf0e49cd40"), looks := false }, kinds := [], alts := [], laidByText := true, laidKinds := [.data], laidTests := true, laidLooks := .later }
def TrackOrderUptoCardSaid : Prop := Claim7.holds Tryz.pinned (.plain (OpenSpec.upto trackOrderSpec)) trackOrderUptoCard

/-- THE SECOND FORM's CARD OF 'synopticlaw12.TrackFaster'. -/
def trackFasterUptoCard : Claim7 := { stood := { row := trackFasterUptoRow, standIns := [], harness := (true, "c1924facf7bef2c17e484037b5b25cdb9e4675c90403a9f7a0a3cacf0e49cd40"), looks := false }, kinds := [], alts := [], laidByText := true, laidKinds := [.data], laidTests := true, laidLooks := .later }
def TrackFasterUptoCardSaid : Prop := Claim7.holds Tryz.pinned (.plain (OpenSpec.upto trackFasterSpec)) trackFasterUptoCard

/-- THE SECOND FORM's CARD OF 'synopticlaw12.TrackNames'. -/
def trackNamesUptoCard : Claim7 := { stood := { row := trackNamesUptoRow, standIns := [], harness := (true, "c1924facf7bef2c17e484037b5b25cdb9e4675c90403a9f7a0a3cacf0e49cd40"), looks := false }, kinds := [], alts := [], laidByText := true, laidKinds := [.data], laidTests := true, laidLooks := .later }
def TrackNamesUptoCardSaid : Prop := Claim7.holds Tryz.pinned (.plain (OpenSpec.upto trackNamesSpec)) trackNamesUptoCard
end Rows
end Go.Proofs.YtbomggfklfbnkaaGreatDoor
