/-
  DERIVED. GIVEN WITH THE SEED: THE CARDS: each row of YtojkamfabapcoaaGreatDoorRows.lean that lists a variable, with what it lists TIED to the program's text (the seventh form; the later family's looks); each row that meets fmt, with fmt's text TOLD by the authors' own Lean function (tested against real Go, not proved from fmt's source: count such statements apart). THE CARD IS WHAT COUNTS. Prove the row's statement (the work); the ties are given (YtojkamfabapcoaaGreatDoorTie.lean); close each card by the builder's one call (the guide's Derived/Test/ToyasCard.lean, 'card_holds'). Laid BY PROGRAM, IN A SANDBOX (cutbox-door.mjs). By AI agents, Wed Nov 11 2026. No macro, syntax, notation, axiom, sorry.
-/
import Derived.Test.YtojkamfabapcoaaGreatDoorRows
import GoSem.ClaimSeven
namespace Go.Proofs.YtojkamfabapcoaaGreatDoor
namespace Rows

/-- THE TIED CARD OF 'synopticlaw23.CostChecks'. -/
def costChecksCard : Claim7 := { stood := { row := costChecksRow, standIns := [], harness := (true, "176c7f5283a6a6706f49abe3e1f19f146df6f200d72e8f16851d38008d01f51e"), looks := false }, kinds := [], alts := [], laidByText := true, laidKinds := [.data], laidTests := true, laidLooks := .later }
def CostChecksCardSaid : Prop := Claim7.holds Tryz.pinned (.plain (OpenSpec.ofChange costChecksSpec)) costChecksCard

/-- THE TIED CARD OF 'synopticlaw23.CostOperator'. -/
def costOperatorCard : Claim7 := { stood := { row := costOperatorRow, standIns := [], harness := (true, "176c7f5283a6a6706f49abe3e1f19f146df6f200d72e8f16851d38008d01f51e"), looks := false }, kinds := [], alts := [], laidByText := true, laidKinds := [.data], laidTests := true, laidLooks := .later }
def CostOperatorCardSaid : Prop := Claim7.holds Tryz.pinned (.plain (OpenSpec.ofChange costOperatorSpec)) costOperatorCard

/-- THE TIED CARD OF 'synopticlaw23.CostComputes'. -/
def costComputesCard : Claim7 := { stood := { row := costComputesRow, standIns := [], harness := (true, "176c7f5283a6a6706f49abe3e1f19f146df6f200d72e8f16851d38008d01f51e"), looks := false }, kinds := [], alts := [], laidByText := true, laidKinds := [.data], laidTests := true, laidLooks := .later }
def CostComputesCardSaid : Prop := Claim7.holds Tryz.pinned (.plain (OpenSpec.ofChange costComputesSpec)) costComputesCard

/-- THE TIED CARD OF 'synopticlaw26.CertificateComputes'. -/
def certificateComputesCard : Claim7 := { stood := { row := certificateComputesRow, standIns := [], harness := (true, "176c7f5283a6a6706f49abe3e1f19f146df6f200d72e8f16851d38008d01f51e"), looks := false }, kinds := [], alts := [], laidByText := true, laidKinds := [.data], laidTests := true, laidLooks := .later }
def CertificateComputesCardSaid : Prop := Claim7.holds Tryz.pinned (.plain (OpenSpec.ofChange certificateComputesSpec)) certificateComputesCard

/-- THE TIED CARD OF 'synopticlaw26.CertificateProves'. -/
def certificateProvesCard : Claim7 := { stood := { row := certificateProvesRow, standIns := [], harness := (true, "176c7f5283a6a6706f49abe3e1f19f146df6f200d72e8f16851d38008d01f51e"), looks := false }, kinds := [], alts := [], laidByText := true, laidKinds := [.data], laidTests := true, laidLooks := .later }
def CertificateProvesCardSaid : Prop := Claim7.holds Tryz.pinned (.plain (OpenSpec.ofChange certificateProvesSpec)) certificateProvesCard

/-- THE SECOND FORM's CARD OF 'synopticlaw23.CostChecks'. -/
def costChecksUptoCard : Claim7 := { stood := { row := costChecksUptoRow, standIns := [], harness := (true, "176c7f5283a6a6706f49abe3e1f19f146df6f200d72e8f16851d38008d01f51e"), looks := false }, kinds := [], alts := [], laidByText := true, laidKinds := [.data], laidTests := true, laidLooks := .later }
def CostChecksUptoCardSaid : Prop := Claim7.holds Tryz.pinned (.plain (OpenSpec.upto costChecksSpec)) costChecksUptoCard

/-- THE SECOND FORM's CARD OF 'synopticlaw23.CostOperator'. -/
def costOperatorUptoCard : Claim7 := { stood := { row := costOperatorUptoRow, standIns := [], harness := (true, "176c7f5283a6a6706f49abe3e1f19f146df6f200d72e8f16851d38008d01f51e"), looks := false }, kinds := [], alts := [], laidByText := true, laidKinds := [.data], laidTests := true, laidLooks := .later }
def CostOperatorUptoCardSaid : Prop := Claim7.holds Tryz.pinned (.plain (OpenSpec.upto costOperatorSpec)) costOperatorUptoCard

/-- THE SECOND FORM's CARD OF 'synopticlaw23.CostComputes'. -/
def costComputesUptoCard : Claim7 := { stood := { row := costComputesUptoRow, standIns := [], harness := (true, "176c7f5283a6a6706f49abe3e1f19f146df6f200d72e8f16851d38008d01f51e"), looks := false }, kinds := [], alts := [], laidByText := true, laidKinds := [.data], laidTests := true, laidLooks := .later }
def CostComputesUptoCardSaid : Prop := Claim7.holds Tryz.pinned (.plain (OpenSpec.upto costComputesSpec)) costComputesUptoCard

/-- THE SECOND FORM's CARD OF 'synopticlaw26.CertificateComputes'. -/
def certificateComputesUptoCard : Claim7 := { stood := { row := certificateComputesUptoRow, standIns := [], harness := (true, "176c7f5283a6a6706f49abe3e1f19f146df6f200d72e8f16851d38008d01f51e"), looks := false }, kinds := [], alts := [], laidByText := true, laidKinds := [.data], laidTests := true, laidLooks := .later }
def CertificateComputesUptoCardSaid : Prop := Claim7.holds Tryz.pinned (.plain (OpenSpec.upto certificateComputesSpec)) certificateComputesUptoCard

/-- THE SECOND FORM's CARD OF 'synopticlaw26.CertificateProves'. -/
def certificateProvesUptoCard : Claim7 := { stood := { row := certificateProvesUptoRow, standIns := [], harness := (true, "176c7f5283a6a6706f49abe3e1f19f146df6f200d72e8f16851d38008d01f51e"), looks := false }, kinds := [], alts := [], laidByText := true, laidKinds := [.data], laidTests := true, laidLooks := .later }
def CertificateProvesUptoCardSaid : Prop := Claim7.holds Tryz.pinned (.plain (OpenSpec.upto certificateProvesSpec)) certificateProvesUptoCard
end Rows
end Go.Proofs.YtojkamfabapcoaaGreatDoor
