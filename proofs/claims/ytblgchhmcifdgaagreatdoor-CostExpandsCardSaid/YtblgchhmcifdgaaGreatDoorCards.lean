/-
  DERIVED. GIVEN WITH THE SEED: THE CARDS: each row of YtblgchhmcifdgaaGreatDoorRows.lean that lists a variable, with what it lists TIED to the program's text (the seventh form; the later family's looks); each row that meets fmt, with fmt's text TOLD by the authors' own Lean function (tested against real Go, not proved from fmt's source: count such statements apart). THE CARD IS WHAT COUNTS. Prove the row's statement (the work); the ties are given (YtblgchhmcifdgaaGreatDoorTie.lean); close each card by the builder's one call (the guide's Derived/Test/ToyasCard.lean, 'card_holds'). Laid BY PROGRAM, IN A SANDBOX (cutbox-door.mjs). By AI agents, Wed Nov 11 2026. No macro, syntax, notation, axiom, sorry.
-/
import Derived.Test.YtblgchhmcifdgaaGreatDoorRows
import GoSem.ClaimSeven
namespace Go.Proofs.YtblgchhmcifdgaaGreatDoor
namespace Rows

/-- THE TIED CARD OF 'synopticlaw23.CostChecks'. -/
def costChecksCard : Claim7 := { stood := { row := costChecksRow, standIns := [], harness := (true, "977d187f2c65d4f14882795e2f36a5d0aed505462dc67cafca7548f015570138"), looks := false }, kinds := [], alts := [], laidByText := true, laidKinds := [.data], laidTests := true, laidLooks := .later }
def CostChecksCardSaid : Prop := Claim7.holds Tryz.pinned (.plain (OpenSpec.ofChange costChecksSpec)) costChecksCard

/-- THE TIED CARD OF 'synopticlaw23.CostComputes'. -/
def costComputesCard : Claim7 := { stood := { row := costComputesRow, standIns := [], harness := (true, "977d187f2c65d4f14882795e2f36a5d0aed505462dc67cafca7548f015570138"), looks := false }, kinds := [], alts := [], laidByText := true, laidKinds := [.data], laidTests := true, laidLooks := .later }
def CostComputesCardSaid : Prop := Claim7.holds Tryz.pinned (.plain (OpenSpec.ofChange costComputesSpec)) costComputesCard

/-- THE TIED CARD OF 'synopticlaw23.CostExpands'. -/
def costExpandsCard : Claim7 := { stood := { row := costExpandsRow, standIns := [], harness := (true, "977d187f2c65d4f14882795e2f36a5d0aed505462dc67cafca7548f015570138"), looks := false }, kinds := [], alts := [], laidByText := true, laidKinds := [.data], laidTests := true, laidLooks := .later }
def CostExpandsCardSaid : Prop := Claim7.holds Tryz.pinned (.plain (OpenSpec.ofChange costExpandsSpec)) costExpandsCard

/-- THE TIED CARD OF 'synopticlaw23.CostSymmetric'. -/
def costSymmetricCard : Claim7 := { stood := { row := costSymmetricRow, standIns := [], harness := (true, "977d187f2c65d4f14882795e2f36a5d0aed505462dc67cafca7548f015570138"), looks := false }, kinds := [], alts := [], laidByText := true, laidKinds := [.data], laidTests := true, laidLooks := .later }
def CostSymmetricCardSaid : Prop := Claim7.holds Tryz.pinned (.plain (OpenSpec.ofChange costSymmetricSpec)) costSymmetricCard

/-- THE TIED CARD OF 'synopticlaw23.CostMinimum'. -/
def costMinimumCard : Claim7 := { stood := { row := costMinimumRow, standIns := [], harness := (true, "977d187f2c65d4f14882795e2f36a5d0aed505462dc67cafca7548f015570138"), looks := false }, kinds := [], alts := [], laidByText := true, laidKinds := [.data], laidTests := true, laidLooks := .later }
def CostMinimumCardSaid : Prop := Claim7.holds Tryz.pinned (.plain (OpenSpec.ofChange costMinimumSpec)) costMinimumCard

/-- THE TIED CARD OF 'synopticlaw23.CostOperator'. -/
def costOperatorCard : Claim7 := { stood := { row := costOperatorRow, standIns := [], harness := (true, "977d187f2c65d4f14882795e2f36a5d0aed505462dc67cafca7548f015570138"), looks := false }, kinds := [], alts := [], laidByText := true, laidKinds := [.data], laidTests := true, laidLooks := .later }
def CostOperatorCardSaid : Prop := Claim7.holds Tryz.pinned (.plain (OpenSpec.ofChange costOperatorSpec)) costOperatorCard

/-- THE SECOND FORM's CARD OF 'synopticlaw23.CostChecks'. -/
def costChecksUptoCard : Claim7 := { stood := { row := costChecksUptoRow, standIns := [], harness := (true, "977d187f2c65d4f14882795e2f36a5d0aed505462dc67cafca7548f015570138"), looks := false }, kinds := [], alts := [], laidByText := true, laidKinds := [.data], laidTests := true, laidLooks := .later }
def CostChecksUptoCardSaid : Prop := Claim7.holds Tryz.pinned (.plain (OpenSpec.upto costChecksSpec)) costChecksUptoCard

/-- THE SECOND FORM's CARD OF 'synopticlaw23.CostComputes'. -/
def costComputesUptoCard : Claim7 := { stood := { row := costComputesUptoRow, standIns := [], harness := (true, "977d187f2c65d4f14882795e2f36a5d0aed505462dc67cafca7548f015570138"), looks := false }, kinds := [], alts := [], laidByText := true, laidKinds := [.data], laidTests := true, laidLooks := .later }
def CostComputesUptoCardSaid : Prop := Claim7.holds Tryz.pinned (.plain (OpenSpec.upto costComputesSpec)) costComputesUptoCard

/-- THE SECOND FORM's CARD OF 'synopticlaw23.CostExpands'. -/
def costExpandsUptoCard : Claim7 := { stood := { row := costExpandsUptoRow, standIns := [], harness := (true, "977d187f2c65d4f14882795e2f36a5d0aed505462dc67cafca7548f015570138"), looks := false }, kinds := [], alts := [], laidByText := true, laidKinds := [.data], laidTests := true, laidLooks := .later }
def CostExpandsUptoCardSaid : Prop := Claim7.holds Tryz.pinned (.plain (OpenSpec.upto costExpandsSpec)) costExpandsUptoCard

/-- THE SECOND FORM's CARD OF 'synopticlaw23.CostSymmetric'. -/
def costSymmetricUptoCard : Claim7 := { stood := { row := costSymmetricUptoRow, standIns := [], harness := (true, "977d187f2c65d4f14882795e2f36a5d0aed505462dc67cafca7548f015570138"), looks := false }, kinds := [], alts := [], laidByText := true, laidKinds := [.data], laidTests := true, laidLooks := .later }
def CostSymmetricUptoCardSaid : Prop := Claim7.holds Tryz.pinned (.plain (OpenSpec.upto costSymmetricSpec)) costSymmetricUptoCard

/-- THE SECOND FORM's CARD OF 'synopticlaw23.CostMinimum'. -/
def costMinimumUptoCard : Claim7 := { stood := { row := costMinimumUptoRow, standIns := [], harness := (true, "977d187f2c65d4f14882795e2f36a5d0aed505462dc67cafca7548f015570138"), looks := false }, kinds := [], alts := [], laidByText := true, laidKinds := [.data], laidTests := true, laidLooks := .later }
def CostMinimumUptoCardSaid : Prop := Claim7.holds Tryz.pinned (.plain (OpenSpec.upto costMinimumSpec)) costMinimumUptoCard

/-- THE SECOND FORM's CARD OF 'synopticlaw23.CostOperator'. -/
def costOperatorUptoCard : Claim7 := { stood := { row := costOperatorUptoRow, standIns := [], harness := (true, "977d187f2c65d4f14882795e2f36a5d0aed505462dc67cafca7548f015570138"), looks := false }, kinds := [], alts := [], laidByText := true, laidKinds := [.data], laidTests := true, laidLooks := .later }
def CostOperatorUptoCardSaid : Prop := Claim7.holds Tryz.pinned (.plain (OpenSpec.upto costOperatorSpec)) costOperatorUptoCard
end Rows
end Go.Proofs.YtblgchhmcifdgaaGreatDoor
