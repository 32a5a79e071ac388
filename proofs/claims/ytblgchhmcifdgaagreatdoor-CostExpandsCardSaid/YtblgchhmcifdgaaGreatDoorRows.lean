/-
  NARROWER THAN 'FOR EVERY INPUT', by the rows' own cells (each row's printed sentence says how): CostChecks: laid · CostComputes: laid · CostExpands: laid · CostSymmetric: laid · CostMinimum: laid · CostOperator: laid.
  DERIVED. THE GIVEN ROWS OF THIS SEAT. 6 by the template 'for every input the law returns true; each argument reads behind the call as it read before'; 0 by the template 'total and deterministic' (their statements: YtblgchhmcifdgaaGreatDoorTotals.lean).
  GIVEN WITH THE SEED: the statements are not yours to turn. If you find one false, say at which input.
  Laid BY PROGRAM, IN A SANDBOX (cutbox-rows.mjs): the forced cells as the released guide's own fill.sh prints them over the translation 846bc4ad9ff113ce… (all of the seat's roots in one cut). By AI agents, Wed Nov 11 2026. No macro, syntax, notation, axiom, sorry.
-/
import Derived.Test.YtblgchhmcifdgaaGreatDoorChecked
import GoSem.Claim
import GoSem.ClaimJoined
import GoSem.ClaimMapViews
import Derived.JoinedTies
import Derived.KernelRfl
namespace Go.Proofs.YtblgchhmcifdgaaGreatDoor
/- THE CELL 'sum', in the pinned program and in every row, IS THE sha256 OF THE DUMP (.gsa) THAT YtblgchhmcifdgaaGreatDoorProg.lean LOADS. Nothing in Lean hashes anything: it is a label: what it is worth is what the hold of that sum in a sandbox is worth. -/
noncomputable def Tryz.pinned : Pinned := { name := "ytblgchhmcifdgaagreatdoor", sum := "846bc4ad9ff113ce85e9f478739a53a3b8bff65462df15e84bb9f91837edfbae", checked := Tryz.checked }
namespace Rows
def none {H : Type} : Left H := { results := [], args := [] }

/- WHAT THE LISTED PACKAGE-LEVEL VARIABLES READ AS WHEN THE CALL BEGINS. Each datum BY PROGRAM (the guide's laid-datum.mjs) off the statement by which the dump's own 'gosem.cut.vars' lays the variable. In a bare row this is a premise. The card (YtblgchhmcifdgaaGreatDoorCards.lean) ties it to the program's text. -/
def laid_synoptic_place_corners {H : Type} : DataW H := .agg [.agg [.lit (.int .i64 0), .lit (.int .i64 1), .lit (.int .i64 2)], .agg [.lit (.int .i64 0), .lit (.int .i64 2), .lit (.int .i64 3)], .agg [.lit (.int .i64 0), .lit (.int .i64 3), .lit (.int .i64 4)], .agg [.lit (.int .i64 0), .lit (.int .i64 4), .lit (.int .i64 5)], .agg [.lit (.int .i64 0), .lit (.int .i64 5), .lit (.int .i64 1)], .agg [.lit (.int .i64 1), .lit (.int .i64 6), .lit (.int .i64 2)], .agg [.lit (.int .i64 2), .lit (.int .i64 7), .lit (.int .i64 3)], .agg [.lit (.int .i64 3), .lit (.int .i64 8), .lit (.int .i64 4)], .agg [.lit (.int .i64 4), .lit (.int .i64 9), .lit (.int .i64 5)], .agg [.lit (.int .i64 5), .lit (.int .i64 10), .lit (.int .i64 1)], .agg [.lit (.int .i64 6), .lit (.int .i64 7), .lit (.int .i64 2)], .agg [.lit (.int .i64 7), .lit (.int .i64 8), .lit (.int .i64 3)], .agg [.lit (.int .i64 8), .lit (.int .i64 9), .lit (.int .i64 4)], .agg [.lit (.int .i64 9), .lit (.int .i64 10), .lit (.int .i64 5)], .agg [.lit (.int .i64 10), .lit (.int .i64 6), .lit (.int .i64 1)], .agg [.lit (.int .i64 11), .lit (.int .i64 7), .lit (.int .i64 6)], .agg [.lit (.int .i64 11), .lit (.int .i64 8), .lit (.int .i64 7)], .agg [.lit (.int .i64 11), .lit (.int .i64 9), .lit (.int .i64 8)], .agg [.lit (.int .i64 11), .lit (.int .i64 10), .lit (.int .i64 9)], .agg [.lit (.int .i64 11), .lit (.int .i64 6), .lit (.int .i64 10)]]

/-- 'synopticlaw23.CostChecks': WHATEVER THE INPUT: true; the input reads as it did. -/
def costChecksSpec : ChangeSpec := { name := "costChecks", fn := fun _ => fun
  | [d1, d2] => { results := [.lit (.bool true)], args := [d1, d2] }
  | _ => none }
def costChecksRow : OpenClaim := { program := "ytblgchhmcifdgaagreatdoor", sum := "846bc4ad9ff113ce85e9f478739a53a3b8bff65462df15e84bb9f91837edfbae", func := "synoptic/synopticlaw23.CostChecks", spec := "costChecks", unfollowed := true, recurses := true, named := ["synoptic/place.corners"], plainKeys := false, apart := false, laid := [("synoptic/place.corners", laid_synoptic_place_corners)] }
def CostChecksSaid : Prop := costChecksRow.holds Tryz.pinned (OpenSpec.ofChange costChecksSpec)

/-- ITS FALSE NEIGHBOUR: 'it returns false'. Refute it at one input. -/
def costChecksWrong : ChangeSpec := { name := "costChecks", fn := fun _ => fun
  | [d1, d2] => { results := [.lit (.bool false)], args := [d1, d2] }
  | _ => none }
def CostChecksWrongFalsely : Prop := costChecksRow.holds Tryz.pinned (OpenSpec.ofChange costChecksWrong)

/-- 'synopticlaw23.CostComputes': WHATEVER THE INPUT: true; the input reads as it did. -/
def costComputesSpec : ChangeSpec := { name := "costComputes", fn := fun _ => fun
  | [d1, d2] => { results := [.lit (.bool true)], args := [d1, d2] }
  | _ => none }
def costComputesRow : OpenClaim := { program := "ytblgchhmcifdgaagreatdoor", sum := "846bc4ad9ff113ce85e9f478739a53a3b8bff65462df15e84bb9f91837edfbae", func := "synoptic/synopticlaw23.CostComputes", spec := "costComputes", inPlace := ["math/bits.Add64"], unfollowed := true, recurses := true, named := ["synoptic/place.corners"], plainKeys := false, apart := false, laid := [("synoptic/place.corners", laid_synoptic_place_corners)] }
def CostComputesSaid : Prop := costComputesRow.holds Tryz.pinned (OpenSpec.ofChange costComputesSpec)

/-- ITS FALSE NEIGHBOUR: 'it returns false'. Refute it at one input. -/
def costComputesWrong : ChangeSpec := { name := "costComputes", fn := fun _ => fun
  | [d1, d2] => { results := [.lit (.bool false)], args := [d1, d2] }
  | _ => none }
def CostComputesWrongFalsely : Prop := costComputesRow.holds Tryz.pinned (OpenSpec.ofChange costComputesWrong)

/-- 'synopticlaw23.CostExpands': WHATEVER THE INPUT: true; the input reads as it did. -/
def costExpandsSpec : ChangeSpec := { name := "costExpands", fn := fun _ => fun
  | [d] => { results := [.lit (.bool true)], args := [d] }
  | _ => none }
def costExpandsRow : OpenClaim := { program := "ytblgchhmcifdgaagreatdoor", sum := "846bc4ad9ff113ce85e9f478739a53a3b8bff65462df15e84bb9f91837edfbae", func := "synoptic/synopticlaw23.CostExpands", spec := "costExpands", inPlace := ["math/bits.Add64"], unfollowed := true, recurses := true, named := ["synoptic/place.corners"], plainKeys := false, apart := false, laid := [("synoptic/place.corners", laid_synoptic_place_corners)] }
def CostExpandsSaid : Prop := costExpandsRow.holds Tryz.pinned (OpenSpec.ofChange costExpandsSpec)

/-- ITS FALSE NEIGHBOUR: 'it returns false'. Refute it at one input. -/
def costExpandsWrong : ChangeSpec := { name := "costExpands", fn := fun _ => fun
  | [d] => { results := [.lit (.bool false)], args := [d] }
  | _ => none }
def CostExpandsWrongFalsely : Prop := costExpandsRow.holds Tryz.pinned (OpenSpec.ofChange costExpandsWrong)

/-- 'synopticlaw23.CostSymmetric': WHATEVER THE INPUT: true; the input reads as it did. -/
def costSymmetricSpec : ChangeSpec := { name := "costSymmetric", fn := fun _ => fun
  | [d1, d2] => { results := [.lit (.bool true)], args := [d1, d2] }
  | _ => none }
def costSymmetricRow : OpenClaim := { program := "ytblgchhmcifdgaagreatdoor", sum := "846bc4ad9ff113ce85e9f478739a53a3b8bff65462df15e84bb9f91837edfbae", func := "synoptic/synopticlaw23.CostSymmetric", spec := "costSymmetric", inPlace := ["math/bits.Add64"], unfollowed := true, recurses := true, named := ["synoptic/place.corners"], plainKeys := false, apart := false, laid := [("synoptic/place.corners", laid_synoptic_place_corners)] }
def CostSymmetricSaid : Prop := costSymmetricRow.holds Tryz.pinned (OpenSpec.ofChange costSymmetricSpec)

/-- ITS FALSE NEIGHBOUR: 'it returns false'. Refute it at one input. -/
def costSymmetricWrong : ChangeSpec := { name := "costSymmetric", fn := fun _ => fun
  | [d1, d2] => { results := [.lit (.bool false)], args := [d1, d2] }
  | _ => none }
def CostSymmetricWrongFalsely : Prop := costSymmetricRow.holds Tryz.pinned (OpenSpec.ofChange costSymmetricWrong)

/-- 'synopticlaw23.CostMinimum': WHATEVER THE INPUT: true; the input reads as it did. -/
def costMinimumSpec : ChangeSpec := { name := "costMinimum", fn := fun _ => fun
  | [d] => { results := [.lit (.bool true)], args := [d] }
  | _ => none }
def costMinimumRow : OpenClaim := { program := "ytblgchhmcifdgaagreatdoor", sum := "846bc4ad9ff113ce85e9f478739a53a3b8bff65462df15e84bb9f91837edfbae", func := "synoptic/synopticlaw23.CostMinimum", spec := "costMinimum", inPlace := ["math/bits.Add64"], unfollowed := true, recurses := true, named := ["synoptic/place.corners"], plainKeys := false, apart := false, laid := [("synoptic/place.corners", laid_synoptic_place_corners)] }
def CostMinimumSaid : Prop := costMinimumRow.holds Tryz.pinned (OpenSpec.ofChange costMinimumSpec)

/-- ITS FALSE NEIGHBOUR: 'it returns false'. Refute it at one input. -/
def costMinimumWrong : ChangeSpec := { name := "costMinimum", fn := fun _ => fun
  | [d] => { results := [.lit (.bool false)], args := [d] }
  | _ => none }
def CostMinimumWrongFalsely : Prop := costMinimumRow.holds Tryz.pinned (OpenSpec.ofChange costMinimumWrong)

/-- 'synopticlaw23.CostOperator': WHATEVER THE INPUT: true; the input reads as it did. -/
def costOperatorSpec : ChangeSpec := { name := "costOperator", fn := fun _ => fun
  | [d] => { results := [.lit (.bool true)], args := [d] }
  | _ => none }
def costOperatorRow : OpenClaim := { program := "ytblgchhmcifdgaagreatdoor", sum := "846bc4ad9ff113ce85e9f478739a53a3b8bff65462df15e84bb9f91837edfbae", func := "synoptic/synopticlaw23.CostOperator", spec := "costOperator", unfollowed := true, recurses := true, named := ["synoptic/place.corners"], plainKeys := false, apart := false, laid := [("synoptic/place.corners", laid_synoptic_place_corners)] }
def CostOperatorSaid : Prop := costOperatorRow.holds Tryz.pinned (OpenSpec.ofChange costOperatorSpec)

/-- ITS FALSE NEIGHBOUR: 'it returns false'. Refute it at one input. -/
def costOperatorWrong : ChangeSpec := { name := "costOperator", fn := fun _ => fun
  | [d] => { results := [.lit (.bool false)], args := [d] }
  | _ => none }
def CostOperatorWrongFalsely : Prop := costOperatorRow.holds Tryz.pinned (OpenSpec.ofChange costOperatorWrong)

/- THE SECOND FORM. 'bulk': how many values and letters a reading holds, each counted each time it is reached (what is shared counts as often as it is met; a slice's spare places count too). A statement '..UptoSaid' is the law's where the arguments, and the package variables that the reading takes, are together of bulk at most 1048576: NARROWER than '..Said'. Prove '..Said' where nothing that the law and all that it calls make is longer than what came in: it says more and counts as full. Else prove '..UptoSaid'. A law counts once. -/
mutual
def uptoBulk {H : Type} : DataW H → Nat
  | .lit (.string bytes) => bytes.length + 1
  | .lit _ => 1
  | .nil => 1
  | .ptr d => uptoBulk d + 1
  | .slice elems spare => uptoBulkAll elems + uptoBulkAll spare + 1
  | .agg parts => uptoBulkAll parts + 1
  | .iface _ d => uptoBulk d + 1
  | .map entries => uptoBulkEntries entries + 1
  | .held _ => 1
def uptoBulkAll {H : Type} : List (DataW H) → Nat
  | [] => 0
  | d :: r => uptoBulk d + uptoBulkAll r
def uptoBulkEntries {H : Type} : List (Lit × DataW H) → Nat
  | [] => 0
  | x :: r => uptoBulkEntry x + uptoBulkEntries r
def uptoBulkEntry {H : Type} : Lit × DataW H → Nat
  | (.string bytes, d) => bytes.length + uptoBulk d + 1
  | (_, d) => uptoBulk d + 1
 end
def uptoSmall : (H : Type) → List (DataW H) → Bool := fun _ ds => decide (uptoBulkAll ds ≤ 1048576)
def OpenSpec.upto (s : _root_.Go.ChangeSpec) : _root_.Go.OpenSpec := { _root_.Go.OpenSpec.ofChange s with cond := some uptoSmall }

/-- 'synopticlaw23.CostChecks', WHERE WHAT IT READS IS OF BULK AT MOST 1048576: true; the input reads as it did. -/
def costChecksUptoRow : OpenClaim := { program := "ytblgchhmcifdgaagreatdoor", sum := "846bc4ad9ff113ce85e9f478739a53a3b8bff65462df15e84bb9f91837edfbae", func := "synoptic/synopticlaw23.CostChecks", spec := "costChecks", unfollowed := true, recurses := true, named := ["synoptic/place.corners"], plainKeys := false, apart := false, laid := [("synoptic/place.corners", laid_synoptic_place_corners)], narrowed := true }
def CostChecksUptoSaid : Prop := costChecksUptoRow.holds Tryz.pinned (OpenSpec.upto costChecksSpec)

/-- 'synopticlaw23.CostComputes', WHERE WHAT IT READS IS OF BULK AT MOST 1048576: true; the input reads as it did. -/
def costComputesUptoRow : OpenClaim := { program := "ytblgchhmcifdgaagreatdoor", sum := "846bc4ad9ff113ce85e9f478739a53a3b8bff65462df15e84bb9f91837edfbae", func := "synoptic/synopticlaw23.CostComputes", spec := "costComputes", inPlace := ["math/bits.Add64"], unfollowed := true, recurses := true, named := ["synoptic/place.corners"], plainKeys := false, apart := false, laid := [("synoptic/place.corners", laid_synoptic_place_corners)], narrowed := true }
def CostComputesUptoSaid : Prop := costComputesUptoRow.holds Tryz.pinned (OpenSpec.upto costComputesSpec)

/-- 'synopticlaw23.CostExpands', WHERE WHAT IT READS IS OF BULK AT MOST 1048576: true; the input reads as it did. -/
def costExpandsUptoRow : OpenClaim := { program := "ytblgchhmcifdgaagreatdoor", sum := "846bc4ad9ff113ce85e9f478739a53a3b8bff65462df15e84bb9f91837edfbae", func := "synoptic/synopticlaw23.CostExpands", spec := "costExpands", inPlace := ["math/bits.Add64"], unfollowed := true, recurses := true, named := ["synoptic/place.corners"], plainKeys := false, apart := false, laid := [("synoptic/place.corners", laid_synoptic_place_corners)], narrowed := true }
def CostExpandsUptoSaid : Prop := costExpandsUptoRow.holds Tryz.pinned (OpenSpec.upto costExpandsSpec)

/-- 'synopticlaw23.CostSymmetric', WHERE WHAT IT READS IS OF BULK AT MOST 1048576: true; the input reads as it did. -/
def costSymmetricUptoRow : OpenClaim := { program := "ytblgchhmcifdgaagreatdoor", sum := "846bc4ad9ff113ce85e9f478739a53a3b8bff65462df15e84bb9f91837edfbae", func := "synoptic/synopticlaw23.CostSymmetric", spec := "costSymmetric", inPlace := ["math/bits.Add64"], unfollowed := true, recurses := true, named := ["synoptic/place.corners"], plainKeys := false, apart := false, laid := [("synoptic/place.corners", laid_synoptic_place_corners)], narrowed := true }
def CostSymmetricUptoSaid : Prop := costSymmetricUptoRow.holds Tryz.pinned (OpenSpec.upto costSymmetricSpec)

/-- 'synopticlaw23.CostMinimum', WHERE WHAT IT READS IS OF BULK AT MOST 1048576: true; the input reads as it did. -/
def costMinimumUptoRow : OpenClaim := { program := "ytblgchhmcifdgaagreatdoor", sum := "846bc4ad9ff113ce85e9f478739a53a3b8bff65462df15e84bb9f91837edfbae", func := "synoptic/synopticlaw23.CostMinimum", spec := "costMinimum", inPlace := ["math/bits.Add64"], unfollowed := true, recurses := true, named := ["synoptic/place.corners"], plainKeys := false, apart := false, laid := [("synoptic/place.corners", laid_synoptic_place_corners)], narrowed := true }
def CostMinimumUptoSaid : Prop := costMinimumUptoRow.holds Tryz.pinned (OpenSpec.upto costMinimumSpec)

/-- 'synopticlaw23.CostOperator', WHERE WHAT IT READS IS OF BULK AT MOST 1048576: true; the input reads as it did. -/
def costOperatorUptoRow : OpenClaim := { program := "ytblgchhmcifdgaagreatdoor", sum := "846bc4ad9ff113ce85e9f478739a53a3b8bff65462df15e84bb9f91837edfbae", func := "synoptic/synopticlaw23.CostOperator", spec := "costOperator", unfollowed := true, recurses := true, named := ["synoptic/place.corners"], plainKeys := false, apart := false, laid := [("synoptic/place.corners", laid_synoptic_place_corners)], narrowed := true }
def CostOperatorUptoSaid : Prop := costOperatorUptoRow.holds Tryz.pinned (OpenSpec.upto costOperatorSpec)

end Rows
end Go.Proofs.YtblgchhmcifdgaaGreatDoor
