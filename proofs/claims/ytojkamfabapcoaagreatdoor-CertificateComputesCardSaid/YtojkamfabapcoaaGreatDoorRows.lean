/-
  NARROWER THAN 'FOR EVERY INPUT', by the rows' own cells (each row's printed sentence says how): CostChecks: laid · CostOperator: laid · CostComputes: laid · CertificateComputes: laid · CertificateProves: laid.
  DERIVED. THE GIVEN ROWS OF THIS SEAT. 5 by the template 'for every input the law returns true; each argument reads behind the call as it read before'; 0 by the template 'total and deterministic' (their statements: YtojkamfabapcoaaGreatDoorTotals.lean).
  GIVEN WITH THE SEED: the statements are not yours to turn. If you find one false, say at which input.
  Laid BY PROGRAM, IN A SANDBOX (cutbox-rows.mjs): the forced cells as the released guide's own fill.sh prints them over the translation ad9e7657f6093918… (all of the seat's roots in one cut). By AI agents, Wed Nov 11 2026. No macro, syntax, notation, axiom, sorry.
-/
import Derived.Test.YtojkamfabapcoaaGreatDoorChecked
import GoSem.Claim
import GoSem.ClaimJoined
import GoSem.ClaimMapViews
import Derived.JoinedTies
import Derived.KernelRfl
namespace Go.Proofs.YtojkamfabapcoaaGreatDoor
/- THE CELL 'sum', in the pinned program and in every row, IS THE sha256 OF THE DUMP (.gsa) THAT YtojkamfabapcoaaGreatDoorProg.lean LOADS. Nothing in Lean hashes anything: it is a label: what it is worth is what the hold of that sum in a sandbox is worth. -/
noncomputable def Tryz.pinned : Pinned := { name := "ytojkamfabapcoaagreatdoor", sum := "ad9e7657f60939189b1553ec7a49a223045cc27d48ed0efb8c50e55eaf3c25a6", checked := Tryz.checked }
namespace Rows
def none {H : Type} : Left H := { results := [], args := [] }

/- WHAT THE LISTED PACKAGE-LEVEL VARIABLES READ AS WHEN THE CALL BEGINS. Each datum BY PROGRAM (the guide's laid-datum.mjs) off the statement by which the dump's own 'gosem.cut.vars' lays the variable. In a bare row this is a premise. The card (YtojkamfabapcoaaGreatDoorCards.lean) ties it to the program's text. -/
def laid_synoptic_place_corners {H : Type} : DataW H := .agg [.agg [.lit (.int .i64 0), .lit (.int .i64 1), .lit (.int .i64 2)], .agg [.lit (.int .i64 0), .lit (.int .i64 2), .lit (.int .i64 3)], .agg [.lit (.int .i64 0), .lit (.int .i64 3), .lit (.int .i64 4)], .agg [.lit (.int .i64 0), .lit (.int .i64 4), .lit (.int .i64 5)], .agg [.lit (.int .i64 0), .lit (.int .i64 5), .lit (.int .i64 1)], .agg [.lit (.int .i64 1), .lit (.int .i64 6), .lit (.int .i64 2)], .agg [.lit (.int .i64 2), .lit (.int .i64 7), .lit (.int .i64 3)], .agg [.lit (.int .i64 3), .lit (.int .i64 8), .lit (.int .i64 4)], .agg [.lit (.int .i64 4), .lit (.int .i64 9), .lit (.int .i64 5)], .agg [.lit (.int .i64 5), .lit (.int .i64 10), .lit (.int .i64 1)], .agg [.lit (.int .i64 6), .lit (.int .i64 7), .lit (.int .i64 2)], .agg [.lit (.int .i64 7), .lit (.int .i64 8), .lit (.int .i64 3)], .agg [.lit (.int .i64 8), .lit (.int .i64 9), .lit (.int .i64 4)], .agg [.lit (.int .i64 9), .lit (.int .i64 10), .lit (.int .i64 5)], .agg [.lit (.int .i64 10), .lit (.int .i64 6), .lit (.int .i64 1)], .agg [.lit (.int .i64 11), .lit (.int .i64 7), .lit (.int .i64 6)], .agg [.lit (.int .i64 11), .lit (.int .i64 8), .lit (.int .i64 7)], .agg [.lit (.int .i64 11), .lit (.int .i64 9), .lit (.int .i64 8)], .agg [.lit (.int .i64 11), .lit (.int .i64 10), .lit (.int .i64 9)], .agg [.lit (.int .i64 11), .lit (.int .i64 6), .lit (.int .i64 10)]]

/-- 'synopticlaw23.CostChecks': WHATEVER THE INPUT: true; the input reads as it did. -/
def costChecksSpec : ChangeSpec := { name := "costChecks", fn := fun _ => fun
  | [d1, d2] => { results := [.lit (.bool true)], args := [d1, d2] }
  | _ => none }
def costChecksRow : OpenClaim := { program := "ytojkamfabapcoaagreatdoor", sum := "ad9e7657f60939189b1553ec7a49a223045cc27d48ed0efb8c50e55eaf3c25a6", func := "synoptic/synopticlaw23.CostChecks", spec := "costChecks", unfollowed := true, recurses := true, named := ["synoptic/place.corners"], plainKeys := false, apart := false, laid := [("synoptic/place.corners", laid_synoptic_place_corners)] }
def CostChecksSaid : Prop := costChecksRow.holds Tryz.pinned (OpenSpec.ofChange costChecksSpec)

/-- ITS FALSE NEIGHBOUR: 'it returns false'. Refute it at one input. -/
def costChecksWrong : ChangeSpec := { name := "costChecks", fn := fun _ => fun
  | [d1, d2] => { results := [.lit (.bool false)], args := [d1, d2] }
  | _ => none }
def CostChecksWrongFalsely : Prop := costChecksRow.holds Tryz.pinned (OpenSpec.ofChange costChecksWrong)

/-- 'synopticlaw23.CostOperator': WHATEVER THE INPUT: true; the input reads as it did. -/
def costOperatorSpec : ChangeSpec := { name := "costOperator", fn := fun _ => fun
  | [d] => { results := [.lit (.bool true)], args := [d] }
  | _ => none }
def costOperatorRow : OpenClaim := { program := "ytojkamfabapcoaagreatdoor", sum := "ad9e7657f60939189b1553ec7a49a223045cc27d48ed0efb8c50e55eaf3c25a6", func := "synoptic/synopticlaw23.CostOperator", spec := "costOperator", unfollowed := true, recurses := true, named := ["synoptic/place.corners"], plainKeys := false, apart := false, laid := [("synoptic/place.corners", laid_synoptic_place_corners)] }
def CostOperatorSaid : Prop := costOperatorRow.holds Tryz.pinned (OpenSpec.ofChange costOperatorSpec)

/-- ITS FALSE NEIGHBOUR: 'it returns false'. Refute it at one input. -/
def costOperatorWrong : ChangeSpec := { name := "costOperator", fn := fun _ => fun
  | [d] => { results := [.lit (.bool false)], args := [d] }
  | _ => none }
def CostOperatorWrongFalsely : Prop := costOperatorRow.holds Tryz.pinned (OpenSpec.ofChange costOperatorWrong)

/-- 'synopticlaw23.CostComputes': WHATEVER THE INPUT: true; the input reads as it did. -/
def costComputesSpec : ChangeSpec := { name := "costComputes", fn := fun _ => fun
  | [d1, d2] => { results := [.lit (.bool true)], args := [d1, d2] }
  | _ => none }
def costComputesRow : OpenClaim := { program := "ytojkamfabapcoaagreatdoor", sum := "ad9e7657f60939189b1553ec7a49a223045cc27d48ed0efb8c50e55eaf3c25a6", func := "synoptic/synopticlaw23.CostComputes", spec := "costComputes", inPlace := ["math/bits.Add64"], unfollowed := true, recurses := true, named := ["synoptic/place.corners"], plainKeys := false, apart := false, laid := [("synoptic/place.corners", laid_synoptic_place_corners)] }
def CostComputesSaid : Prop := costComputesRow.holds Tryz.pinned (OpenSpec.ofChange costComputesSpec)

/-- ITS FALSE NEIGHBOUR: 'it returns false'. Refute it at one input. -/
def costComputesWrong : ChangeSpec := { name := "costComputes", fn := fun _ => fun
  | [d1, d2] => { results := [.lit (.bool false)], args := [d1, d2] }
  | _ => none }
def CostComputesWrongFalsely : Prop := costComputesRow.holds Tryz.pinned (OpenSpec.ofChange costComputesWrong)

/-- 'synopticlaw26.CertificateComputes': WHATEVER THE INPUT: true; the input reads as it did. -/
def certificateComputesSpec : ChangeSpec := { name := "certificateComputes", fn := fun _ => fun
  | [d1, d2, d3, d4] => { results := [.lit (.bool true)], args := [d1, d2, d3, d4] }
  | _ => none }
def certificateComputesRow : OpenClaim := { program := "ytojkamfabapcoaagreatdoor", sum := "ad9e7657f60939189b1553ec7a49a223045cc27d48ed0efb8c50e55eaf3c25a6", func := "synoptic/synopticlaw26.CertificateComputes", spec := "certificateComputes", inPlace := ["math/bits.Add64"], unfollowed := true, recurses := true, named := ["synoptic/place.corners"], plainKeys := false, apart := false, laid := [("synoptic/place.corners", laid_synoptic_place_corners)] }
def CertificateComputesSaid : Prop := certificateComputesRow.holds Tryz.pinned (OpenSpec.ofChange certificateComputesSpec)

/-- ITS FALSE NEIGHBOUR: 'it returns false'. Refute it at one input. -/
def certificateComputesWrong : ChangeSpec := { name := "certificateComputes", fn := fun _ => fun
  | [d1, d2, d3, d4] => { results := [.lit (.bool false)], args := [d1, d2, d3, d4] }
  | _ => none }
def CertificateComputesWrongFalsely : Prop := certificateComputesRow.holds Tryz.pinned (OpenSpec.ofChange certificateComputesWrong)

/-- 'synopticlaw26.CertificateProves': WHATEVER THE INPUT: true; the input reads as it did. -/
def certificateProvesSpec : ChangeSpec := { name := "certificateProves", fn := fun _ => fun
  | [d1, d2] => { results := [.lit (.bool true)], args := [d1, d2] }
  | _ => none }
def certificateProvesRow : OpenClaim := { program := "ytojkamfabapcoaagreatdoor", sum := "ad9e7657f60939189b1553ec7a49a223045cc27d48ed0efb8c50e55eaf3c25a6", func := "synoptic/synopticlaw26.CertificateProves", spec := "certificateProves", inPlace := ["math/bits.Add64"], unfollowed := true, recurses := true, named := ["synoptic/place.corners"], plainKeys := false, apart := false, laid := [("synoptic/place.corners", laid_synoptic_place_corners)] }
def CertificateProvesSaid : Prop := certificateProvesRow.holds Tryz.pinned (OpenSpec.ofChange certificateProvesSpec)

/-- ITS FALSE NEIGHBOUR: 'it returns false'. Refute it at one input. -/
def certificateProvesWrong : ChangeSpec := { name := "certificateProves", fn := fun _ => fun
  | [d1, d2] => { results := [.lit (.bool false)], args := [d1, d2] }
  | _ => none }
def CertificateProvesWrongFalsely : Prop := certificateProvesRow.holds Tryz.pinned (OpenSpec.ofChange certificateProvesWrong)

/- THE SECOND FORM. 'bulk': how many values and letters a reading holds, each counted each time it is reached (what is shared counts as often as it is met; a slice's spare places count too). A statement '..UptoSaid' is the law's where the arguments, and the package variables that the reading takes, are together of bulk at most 1048576: NARROWER than '..Said'. Prove '..Said' where nothing that the law and all that it calls make is longer than what came in: it says more and counts as full. Else prove '..UptoSaid'. A law counts once. -/
mutual
def uptoBulk {H : Type} : DataW H → Nat
  | .lit (.string bytes) => bytes.length + 1
  | .lit _ => 1
  | .nil => 1
  | .ptr d => uptoBulk d + 1
  | .slice elems spare => uptoBulkAll elems + uptoBulkAll spare + 1
  | .agg parts => uptoBulkAll parts + 1
  | .iface _ d => uptoBulk d + 1
  | .map entries => uptoBulkEntries entries + 1
  | .held _ => 1
def uptoBulkAll {H : Type} : List (DataW H) → Nat
  | [] => 0
  | d :: r => uptoBulk d + uptoBulkAll r
def uptoBulkEntries {H : Type} : List (Lit × DataW H) → Nat
  | [] => 0
  | x :: r => uptoBulkEntry x + uptoBulkEntries r
def uptoBulkEntry {H : Type} : Lit × DataW H → Nat
  | (.string bytes, d) => bytes.length + uptoBulk d + 1
  | (_, d) => uptoBulk d + 1
 end
def uptoSmall : (H : Type) → List (DataW H) → Bool := fun _ ds => decide (uptoBulkAll ds ≤ 1048576)
def OpenSpec.upto (s : _root_.Go.ChangeSpec) : _root_.Go.OpenSpec := { _root_.Go.OpenSpec.ofChange s with cond := some uptoSmall }

/-- 'synopticlaw23.CostChecks', WHERE WHAT IT READS IS OF BULK AT MOST 1048576: true; the input reads as it did. -/
def costChecksUptoRow : OpenClaim := { program := "ytojkamfabapcoaagreatdoor", sum := "ad9e7657f60939189b1553ec7a49a223045cc27d48ed0efb8c50e55eaf3c25a6", func := "synoptic/synopticlaw23.CostChecks", spec := "costChecks", unfollowed := true, recurses := true, named := ["synoptic/place.corners"], plainKeys := false, apart := false, laid := [("synoptic/place.corners", laid_synoptic_place_corners)], narrowed := true }
def CostChecksUptoSaid : Prop := costChecksUptoRow.holds Tryz.pinned (OpenSpec.upto costChecksSpec)

/-- 'synopticlaw23.CostOperator', WHERE WHAT IT READS IS OF BULK AT MOST 1048576: true; the input reads as it did. -/
def costOperatorUptoRow : OpenClaim := { program := "ytojkamfabapcoaagreatdoor", sum := "ad9e7657f60939189b1553ec7a49a223045cc27d48ed0efb8c50e55eaf3c25a6", func := "synoptic/synopticlaw23.CostOperator", spec := "costOperator", unfollowed := true, recurses := true, named := ["synoptic/place.corners"], plainKeys := false, apart := false, laid := [("synoptic/place.corners", laid_synoptic_place_corners)], narrowed := true }
def CostOperatorUptoSaid : Prop := costOperatorUptoRow.holds Tryz.pinned (OpenSpec.upto costOperatorSpec)

/-- 'synopticlaw23.CostComputes', WHERE WHAT IT READS IS OF BULK AT MOST 1048576: true; the input reads as it did. -/
def costComputesUptoRow : OpenClaim := { program := "ytojkamfabapcoaagreatdoor", sum := "ad9e7657f60939189b1553ec7a49a223045cc27d48ed0efb8c50e55eaf3c25a6", func := "synoptic/synopticlaw23.CostComputes", spec := "costComputes", inPlace := ["math/bits.Add64"], unfollowed := true, recurses := true, named := ["synoptic/place.corners"], plainKeys := false, apart := false, laid := [("synoptic/place.corners", laid_synoptic_place_corners)], narrowed := true }
def CostComputesUptoSaid : Prop := costComputesUptoRow.holds Tryz.pinned (OpenSpec.upto costComputesSpec)

/-- 'synopticlaw26.CertificateComputes', WHERE WHAT IT READS IS OF BULK AT MOST 1048576: true; the input reads as it did. -/
def certificateComputesUptoRow : OpenClaim := { program := "ytojkamfabapcoaagreatdoor", sum := "ad9e7657f60939189b1553ec7a49a223045cc27d48ed0efb8c50e55eaf3c25a6", func := "synoptic/synopticlaw26.CertificateComputes", spec := "certificateComputes", inPlace := ["math/bits.Add64"], unfollowed := true, recurses := true, named := ["synoptic/place.corners"], plainKeys := false, apart := false, laid := [("synoptic/place.corners", laid_synoptic_place_corners)], narrowed := true }
def CertificateComputesUptoSaid : Prop := certificateComputesUptoRow.holds Tryz.pinned (OpenSpec.upto certificateComputesSpec)

/-- 'synopticlaw26.CertificateProves', WHERE WHAT IT READS IS OF BULK AT MOST 1048576: true; the input reads as it did. -/
def certificateProvesUptoRow : OpenClaim := { program := "ytojkamfabapcoaagreatdoor", sum := "ad9e7657f60939189b1553ec7a49a223045cc27d48ed0efb8c50e55eaf3c25a6", func := "synoptic/synopticlaw26.CertificateProves", spec := "certificateProves", inPlace := ["math/bits.Add64"], unfollowed := true, recurses := true, named := ["synoptic/place.corners"], plainKeys := false, apart := false, laid := [("synoptic/place.corners", laid_synoptic_place_corners)], narrowed := true }
def CertificateProvesUptoSaid : Prop := certificateProvesUptoRow.holds Tryz.pinned (OpenSpec.upto certificateProvesSpec)

end Rows
end Go.Proofs.YtojkamfabapcoaaGreatDoor
