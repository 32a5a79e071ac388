/-
  DERIVED. GIVEN WITH THE SEED: THE CARDS: each row of YtpbfgnffkhabnaaDoorRows.lean that lists a variable, with what it lists TIED to the program's text (the seventh form; the later family's looks); each row that meets fmt, with fmt's text TOLD by the authors' own Lean function (tested against real Go, not proved from fmt's source: count such statements apart). THE CARD IS WHAT COUNTS. Prove the row's statement (the work); the ties are given (YtpbfgnffkhabnaaDoorTie.lean); close each card by the builder's one call (the guide's Derived/Test/ToyasCard.lean, 'card_holds'). Laid BY PROGRAM, IN A SANDBOX (cutbox-door.mjs). By AI agents, Wed Nov 11 2026. No macro, syntax, notation, axiom, sorry.
-/
import Derived.Test.YtpbfgnffkhabnaaDoorRows
import GoSem.ClaimSeven
namespace Go.Proofs.YtpbfgnffkhabnaaDoor
namespace Rows

/-- THE TIED CARD OF 'synopticlaw03.GridAnswers'. -/
def gridAnswersCard : Claim7 := { stood := { row := gridAnswersRow, standIns := [], harness := (true, "fd245857c04f9852babd61fa5308b15005f0f36f1b1dfe4dac068765f0632451"), looks := false }, kinds := [], alts := [], laidByText := true, laidKinds := [.data], laidTests := true, laidLooks := .later }
def GridAnswersCardSaid : Prop := Claim7.holds Tryd.pinned (.plain (OpenSpec.ofChange gridAnswersSpec)) gridAnswersCard

/-- THE TIED CARD OF 'synopticlaw03.GridNearest'. -/
def gridNearestCard : Claim7 := { stood := { row := gridNearestRow, standIns := [], harness := (true, "fd245857c04f9852babd61fa5308b15005f0f36f1b1dfe4dac068765f0632451"), looks := false }, kinds := [], alts := [], laidByText := true, laidKinds := [.data], laidTests := true, laidLooks := .later }
def GridNearestCardSaid : Prop := Claim7.holds Tryd.pinned (.plain (OpenSpec.ofChange gridNearestSpec)) gridNearestCard

/-- THE TIED CARD OF 'synopticlaw03.GridSurface'. -/
def gridSurfaceCard : Claim7 := { stood := { row := gridSurfaceRow, standIns := [], harness := (true, "fd245857c04f9852babd61fa5308b15005f0f36f1b1dfe4dac068765f0632451"), looks := false }, kinds := [], alts := [], laidByText := true, laidKinds := [.data], laidTests := true, laidLooks := .later }
def GridSurfaceCardSaid : Prop := Claim7.holds Tryd.pinned (.plain (OpenSpec.ofChange gridSurfaceSpec)) gridSurfaceCard

/-- THE TIED CARD OF 'synopticlaw22.PrecisionRing'. -/
def precisionRingCard : Claim7 := { stood := { row := precisionRingRow, standIns := [], harness := (true, "fd245857c04f9852babd61fa5308b15005f0f36f1b1dfe4dac068765f0632451"), looks := false }, kinds := [], alts := [], laidByText := true, laidKinds := [.data], laidTests := true, laidLooks := .later }
def PrecisionRingCardSaid : Prop := Claim7.holds Tryd.pinned (.plain (OpenSpec.ofChange precisionRingSpec)) precisionRingCard

/-- THE TIED CARD OF 'synopticlaw22.PrecisionLinear'. -/
def precisionLinearCard : Claim7 := { stood := { row := precisionLinearRow, standIns := [], harness := (true, "fd245857c04f9852babd61fa5308b15005f0f36f1b1dfe4dac068765f0632451"), looks := false }, kinds := [], alts := [], laidByText := true, laidKinds := [.data], laidTests := true, laidLooks := .later }
def PrecisionLinearCardSaid : Prop := Claim7.holds Tryd.pinned (.plain (OpenSpec.ofChange precisionLinearSpec)) precisionLinearCard

/-- THE TIED CARD OF 'synopticlaw22.PrecisionWide'. -/
def precisionWideCard : Claim7 := { stood := { row := precisionWideRow, standIns := [], harness := (true, "fd245857c04f9852babd61fa5308b15005f0f36f1b1dfe4dac068765f0632451"), looks := false }, kinds := [], alts := [], laidByText := true, laidKinds := [.data], laidTests := true, laidLooks := .later }
def PrecisionWideCardSaid : Prop := Claim7.holds Tryd.pinned (.plain (OpenSpec.ofChange precisionWideSpec)) precisionWideCard

/-- THE TIED CARD OF 'synopticlaw22.PrecisionDefinite'. -/
def precisionDefiniteCard : Claim7 := { stood := { row := precisionDefiniteRow, standIns := [], harness := (true, "fd245857c04f9852babd61fa5308b15005f0f36f1b1dfe4dac068765f0632451"), looks := false }, kinds := [], alts := [], laidByText := true, laidKinds := [.data], laidTests := true, laidLooks := .later }
def PrecisionDefiniteCardSaid : Prop := Claim7.holds Tryd.pinned (.plain (OpenSpec.ofChange precisionDefiniteSpec)) precisionDefiniteCard

/-- THE TIED CARD OF 'synopticlaw22.PrecisionBounds'. -/
def precisionBoundsCard : Claim7 := { stood := { row := precisionBoundsRow, standIns := [], harness := (true, "fd245857c04f9852babd61fa5308b15005f0f36f1b1dfe4dac068765f0632451"), looks := false }, kinds := [], alts := [], laidByText := true, laidKinds := [.data], laidTests := true, laidLooks := .later }
def PrecisionBoundsCardSaid : Prop := Claim7.holds Tryd.pinned (.plain (OpenSpec.ofChange precisionBoundsSpec)) precisionBoundsCard

/-- THE SECOND FORM's CARD OF 'synopticlaw03.GridAnswers'. -/
def gridAnswersUptoCard : Claim7 := { stood := { row := gridAnswersUptoRow, standIns := [], harness := (true, "fd245857c04f9852babd61fa5308b15005f0f36f1b1dfe4dac068765f0632451"), looks := false }, kinds := [], alts := [], laidByText := true, laidKinds := [.data], laidTests := true, laidLooks := .later }
def GridAnswersUptoCardSaid : Prop := Claim7.holds Tryd.pinned (.plain (OpenSpec.upto gridAnswersSpec)) gridAnswersUptoCard

/-- THE SECOND FORM's CARD OF 'synopticlaw03.GridNearest'. -/
def gridNearestUptoCard : Claim7 := { stood := { row := gridNearestUptoRow, standIns := [], harness := (true, "fd245857c04f9852babd61fa5308b15005f0f36f1b1dfe4dac068765f0632451"), looks := false }, kinds := [], alts := [], laidByText := true, laidKinds := [.data], laidTests := true, laidLooks := .later }
def GridNearestUptoCardSaid : Prop := Claim7.holds Tryd.pinned (.plain (OpenSpec.upto gridNearestSpec)) gridNearestUptoCard

/-- THE SECOND FORM's CARD OF 'synopticlaw03.GridSurface'. -/
def gridSurfaceUptoCard : Claim7 := { stood := { row := gridSurfaceUptoRow, standIns := [], harness := (true, "fd245857c04f9852babd61fa5308b15005f0f36f1b1dfe4dac068765f0632451"), looks := false }, kinds := [], alts := [], laidByText := true, laidKinds := [.data], laidTests := true, laidLooks := .later }
def GridSurfaceUptoCardSaid : Prop := Claim7.holds Tryd.pinned (.plain (OpenSpec.upto gridSurfaceSpec)) gridSurfaceUptoCard

/-- THE SECOND FORM's CARD OF 'synopticlaw22.PrecisionRing'. -/
def precisionRingUptoCard : Claim7 := { stood := { row := precisionRingUptoRow, standIns := [], harness := (true, "fd245857c04f9852babd61fa5308b15005f0f36f1b1dfe4dac068765f0632451"), looks := false }, kinds := [], alts := [], laidByText := true, laidKinds := [.data], laidTests := true, laidLooks := .later }
def PrecisionRingUptoCardSaid : Prop := Claim7.holds Tryd.pinned (.plain (OpenSpec.upto precisionRingSpec)) precisionRingUptoCard

/-- THE SECOND FORM's CARD OF 'synopticlaw22.PrecisionLinear'. -/
def precisionLinearUptoCard : Claim7 := { stood := { row := precisionLinearUptoRow, standIns := [], harness := (true, "fd245857c04f9852babd61fa5308b15005f0f36f1b1dfe4dac068765f0632451"), looks := false }, kinds := [], alts := [], laidByText := true, laidKinds := [.data], laidTests := true, laidLooks := .later }
def PrecisionLinearUptoCardSaid : Prop := Claim7.holds Tryd.pinned (.plain (OpenSpec.upto precisionLinearSpec)) precisionLinearUptoCard

/-- THE SECOND FORM's CARD OF 'synopticlaw22.PrecisionWide'. -/
def precisionWideUptoCard : Claim7 := { stood := { row := precisionWideUptoRow, standIns := [], harness := (true, "fd245857c04f9852babd61fa5308b15005f0f36f1b1dfe4dac068765f0632451"), looks := false }, kinds := [], alts := [], laidByText := true, laidKinds := [.data], laidTests := true, laidLooks := .later }
def PrecisionWideUptoCardSaid : Prop := Claim7.holds Tryd.pinned (.plain (OpenSpec.upto precisionWideSpec)) precisionWideUptoCard

/-- THE SECOND FORM's CARD OF 'synopticlaw22.PrecisionDefinite'. -/
def precisionDefiniteUptoCard : Claim7 := { stood := { row := precisionDefiniteUptoRow, standIns := [], harness := (true, "fd245857c04f9852babd61fa5308b15005f0f36f1b1dfe4dac068765f0632451"), looks := false }, kinds := [], alts := [], laidByText := true, laidKinds := [.data], laidTests := true, laidLooks := .later }
def PrecisionDefiniteUptoCardSaid : Prop := Claim7.holds Tryd.pinned (.plain (OpenSpec.upto precisionDefiniteSpec)) precisionDefiniteUptoCard

/-- THE SECOND FORM's CARD OF 'synopticlaw22.PrecisionBounds'. -/
def precisionBoundsUptoCard : Claim7 := { stood := { row := precisionBoundsUptoRow, standIns := [], harness := (true, "fd245857c04f9852babd61fa5308b15005f0f36f1b1dfe4dac068765f0632451"), looks := false }, kinds := [], alts := [], laidByText := true, laidKinds := [.data], laidTests := true, laidLooks := .later }
def PrecisionBoundsUptoCardSaid : Prop := Claim7.holds Tryd.pinned (.plain (OpenSpec.upto precisionBoundsSpec)) precisionBoundsUptoCard
end Rows
end Go.Proofs.YtpbfgnffkhabnaaDoor
