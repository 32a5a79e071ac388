/-
  NARROWER THAN 'FOR EVERY INPUT', by the rows' own cells (each row's printed sentence says how): GridLists: laid · PrecisionApplies: laid · GridLocates: laid · GridHops: laid · GridNested: laid.
  DERIVED. THE GIVEN ROWS OF THIS SEAT. 5 by the template 'for every input the law returns true; each argument reads behind the call as it read before'; 0 by the template 'total and deterministic' (their statements: YtlfhildbjipheaaGreatDoorTotals.lean).
  GIVEN WITH THE SEED: the statements are not yours to turn. If you find one false, say at which input.
  Laid BY PROGRAM, IN A SANDBOX (cutbox-rows.mjs): the forced cells as the released guide's own fill.sh prints them over the translation 88ec349664001f1e… (all of the seat's roots in one cut). By AI agents, Wed Nov 11 2026. No macro, syntax, notation, axiom, sorry.
-/
import Derived.Test.YtlfhildbjipheaaGreatDoorChecked
import GoSem.Claim
import GoSem.ClaimJoined
import GoSem.ClaimMapViews
import Derived.JoinedTies
import Derived.KernelRfl
namespace Go.Proofs.YtlfhildbjipheaaGreatDoor
/- THE CELL 'sum', in the pinned program and in every row, IS THE sha256 OF THE DUMP (.gsa) THAT YtlfhildbjipheaaGreatDoorProg.lean LOADS. Nothing in Lean hashes anything: it is a label: what it is worth is what the hold of that sum in a sandbox is worth. -/
noncomputable def Tryz.pinned : Pinned := { name := "ytlfhildbjipheaagreatdoor", sum := "88ec349664001f1e3654a1742137616c14a62fbe04b1ba8834e739d365fdbfe3", checked := Tryz.checked }
namespace Rows
def none {H : Type} : Left H := { results := [], args := [] }

/- WHAT THE LISTED PACKAGE-LEVEL VARIABLES READ AS WHEN THE CALL BEGINS. Each datum BY PROGRAM (the guide's laid-datum.mjs) off the statement by which the dump's own 'gosem.cut.vars' lays the variable. In a bare row this is a premise. The card (YtlfhildbjipheaaGreatDoorCards.lean) ties it to the program's text. -/
def laid_synoptic_place_corners {H : Type} : DataW H := .agg [.agg [.lit (.int .i64 0), .lit (.int .i64 1), .lit (.int .i64 2)], .agg [.lit (.int .i64 0), .lit (.int .i64 2), .lit (.int .i64 3)], .agg [.lit (.int .i64 0), .lit (.int .i64 3), .lit (.int .i64 4)], .agg [.lit (.int .i64 0), .lit (.int .i64 4), .lit (.int .i64 5)], .agg [.lit (.int .i64 0), .lit (.int .i64 5), .lit (.int .i64 1)], .agg [.lit (.int .i64 1), .lit (.int .i64 6), .lit (.int .i64 2)], .agg [.lit (.int .i64 2), .lit (.int .i64 7), .lit (.int .i64 3)], .agg [.lit (.int .i64 3), .lit (.int .i64 8), .lit (.int .i64 4)], .agg [.lit (.int .i64 4), .lit (.int .i64 9), .lit (.int .i64 5)], .agg [.lit (.int .i64 5), .lit (.int .i64 10), .lit (.int .i64 1)], .agg [.lit (.int .i64 6), .lit (.int .i64 7), .lit (.int .i64 2)], .agg [.lit (.int .i64 7), .lit (.int .i64 8), .lit (.int .i64 3)], .agg [.lit (.int .i64 8), .lit (.int .i64 9), .lit (.int .i64 4)], .agg [.lit (.int .i64 9), .lit (.int .i64 10), .lit (.int .i64 5)], .agg [.lit (.int .i64 10), .lit (.int .i64 6), .lit (.int .i64 1)], .agg [.lit (.int .i64 11), .lit (.int .i64 7), .lit (.int .i64 6)], .agg [.lit (.int .i64 11), .lit (.int .i64 8), .lit (.int .i64 7)], .agg [.lit (.int .i64 11), .lit (.int .i64 9), .lit (.int .i64 8)], .agg [.lit (.int .i64 11), .lit (.int .i64 10), .lit (.int .i64 9)], .agg [.lit (.int .i64 11), .lit (.int .i64 6), .lit (.int .i64 10)]]

/-- 'synopticlaw03.GridLists': WHATEVER THE INPUT: true; the input reads as it did. -/
def gridListsSpec : ChangeSpec := { name := "gridLists", fn := fun _ => fun
  | [d1, d2, d3] => { results := [.lit (.bool true)], args := [d1, d2, d3] }
  | _ => none }
def gridListsRow : OpenClaim := { program := "ytlfhildbjipheaagreatdoor", sum := "88ec349664001f1e3654a1742137616c14a62fbe04b1ba8834e739d365fdbfe3", func := "synoptic/synopticlaw03.GridLists", spec := "gridLists", unfollowed := true, recurses := true, named := ["synoptic/place.corners"], plainKeys := false, apart := false, laid := [("synoptic/place.corners", laid_synoptic_place_corners)] }
def GridListsSaid : Prop := gridListsRow.holds Tryz.pinned (OpenSpec.ofChange gridListsSpec)

/-- ITS FALSE NEIGHBOUR: 'it returns false'. Refute it at one input. -/
def gridListsWrong : ChangeSpec := { name := "gridLists", fn := fun _ => fun
  | [d1, d2, d3] => { results := [.lit (.bool false)], args := [d1, d2, d3] }
  | _ => none }
def GridListsWrongFalsely : Prop := gridListsRow.holds Tryz.pinned (OpenSpec.ofChange gridListsWrong)

/-- 'synopticlaw22.PrecisionApplies': WHATEVER THE INPUT: true; the input reads as it did. -/
def precisionAppliesSpec : ChangeSpec := { name := "precisionApplies", fn := fun _ => fun
  | [d1, d2, d3] => { results := [.lit (.bool true)], args := [d1, d2, d3] }
  | _ => none }
def precisionAppliesRow : OpenClaim := { program := "ytlfhildbjipheaagreatdoor", sum := "88ec349664001f1e3654a1742137616c14a62fbe04b1ba8834e739d365fdbfe3", func := "synoptic/synopticlaw22.PrecisionApplies", spec := "precisionApplies", inPlace := ["math/bits.Add64"], unfollowed := true, recurses := true, named := ["synoptic/place.corners"], plainKeys := false, apart := false, laid := [("synoptic/place.corners", laid_synoptic_place_corners)] }
def PrecisionAppliesSaid : Prop := precisionAppliesRow.holds Tryz.pinned (OpenSpec.ofChange precisionAppliesSpec)

/-- ITS FALSE NEIGHBOUR: 'it returns false'. Refute it at one input. -/
def precisionAppliesWrong : ChangeSpec := { name := "precisionApplies", fn := fun _ => fun
  | [d1, d2, d3] => { results := [.lit (.bool false)], args := [d1, d2, d3] }
  | _ => none }
def PrecisionAppliesWrongFalsely : Prop := precisionAppliesRow.holds Tryz.pinned (OpenSpec.ofChange precisionAppliesWrong)

/-- 'synopticlaw03.GridLocates': WHATEVER THE INPUT: true; the input reads as it did. -/
def gridLocatesSpec : ChangeSpec := { name := "gridLocates", fn := fun _ => fun
  | [d] => { results := [.lit (.bool true)], args := [d] }
  | _ => none }
def gridLocatesRow : OpenClaim := { program := "ytlfhildbjipheaagreatdoor", sum := "88ec349664001f1e3654a1742137616c14a62fbe04b1ba8834e739d365fdbfe3", func := "synoptic/synopticlaw03.GridLocates", spec := "gridLocates", unfollowed := true, recurses := true, named := ["synoptic/place.corners"], plainKeys := false, apart := false, laid := [("synoptic/place.corners", laid_synoptic_place_corners)] }
def GridLocatesSaid : Prop := gridLocatesRow.holds Tryz.pinned (OpenSpec.ofChange gridLocatesSpec)

/-- ITS FALSE NEIGHBOUR: 'it returns false'. Refute it at one input. -/
def gridLocatesWrong : ChangeSpec := { name := "gridLocates", fn := fun _ => fun
  | [d] => { results := [.lit (.bool false)], args := [d] }
  | _ => none }
def GridLocatesWrongFalsely : Prop := gridLocatesRow.holds Tryz.pinned (OpenSpec.ofChange gridLocatesWrong)

/-- 'synopticlaw03.GridHops': WHATEVER THE INPUT: true; the input reads as it did. -/
def gridHopsSpec : ChangeSpec := { name := "gridHops", fn := fun _ => fun
  | [d1, d2, d3, d4] => { results := [.lit (.bool true)], args := [d1, d2, d3, d4] }
  | _ => none }
def gridHopsRow : OpenClaim := { program := "ytlfhildbjipheaagreatdoor", sum := "88ec349664001f1e3654a1742137616c14a62fbe04b1ba8834e739d365fdbfe3", func := "synoptic/synopticlaw03.GridHops", spec := "gridHops", unfollowed := true, recurses := true, named := ["synoptic/place.corners"], plainKeys := false, apart := false, laid := [("synoptic/place.corners", laid_synoptic_place_corners)] }
def GridHopsSaid : Prop := gridHopsRow.holds Tryz.pinned (OpenSpec.ofChange gridHopsSpec)

/-- ITS FALSE NEIGHBOUR: 'it returns false'. Refute it at one input. -/
def gridHopsWrong : ChangeSpec := { name := "gridHops", fn := fun _ => fun
  | [d1, d2, d3, d4] => { results := [.lit (.bool false)], args := [d1, d2, d3, d4] }
  | _ => none }
def GridHopsWrongFalsely : Prop := gridHopsRow.holds Tryz.pinned (OpenSpec.ofChange gridHopsWrong)

/-- 'synopticlaw03.GridNested': WHATEVER THE INPUT: true; the input reads as it did. -/
def gridNestedSpec : ChangeSpec := { name := "gridNested", fn := fun _ => fun
  | [d] => { results := [.lit (.bool true)], args := [d] }
  | _ => none }
def gridNestedRow : OpenClaim := { program := "ytlfhildbjipheaagreatdoor", sum := "88ec349664001f1e3654a1742137616c14a62fbe04b1ba8834e739d365fdbfe3", func := "synoptic/synopticlaw03.GridNested", spec := "gridNested", unfollowed := true, recurses := true, named := ["synoptic/place.corners"], plainKeys := false, apart := false, laid := [("synoptic/place.corners", laid_synoptic_place_corners)] }
def GridNestedSaid : Prop := gridNestedRow.holds Tryz.pinned (OpenSpec.ofChange gridNestedSpec)

/-- ITS FALSE NEIGHBOUR: 'it returns false'. Refute it at one input. -/
def gridNestedWrong : ChangeSpec := { name := "gridNested", fn := fun _ => fun
  | [d] => { results := [.lit (.bool false)], args := [d] }
  | _ => none }
def GridNestedWrongFalsely : Prop := gridNestedRow.holds Tryz.pinned (OpenSpec.ofChange gridNestedWrong)

/- THE SECOND FORM. 'bulk': how many values and letters a reading holds, each counted each time it is reached (what is shared counts as often as it is met; a slice's spare places count too). A statement '..UptoSaid' is the law's where the arguments, and the package variables that the reading takes, are together of bulk at most 1048576: NARROWER than '..Said'. Prove '..Said' where nothing that the law and all that it calls make is longer than what came in: it says more and counts as full. Else prove '..UptoSaid'. A law counts once. -/
mutual
def uptoBulk {H : Type} : DataW H → Nat
  | .lit (.string bytes) => bytes.length + 1
  | .lit _ => 1
  | .nil => 1
  | .ptr d => uptoBulk d + 1
  | .slice elems spare => uptoBulkAll elems + uptoBulkAll spare + 1
  | .agg parts => uptoBulkAll parts + 1
  | .iface _ d => uptoBulk d + 1
  | .map entries => uptoBulkEntries entries + 1
  | .held _ => 1
def uptoBulkAll {H : Type} : List (DataW H) → Nat
  | [] => 0
  | d :: r => uptoBulk d + uptoBulkAll r
def uptoBulkEntries {H : Type} : List (Lit × DataW H) → Nat
  | [] => 0
  | x :: r => uptoBulkEntry x + uptoBulkEntries r
def uptoBulkEntry {H : Type} : Lit × DataW H → Nat
  | (.string bytes, d) => bytes.length + uptoBulk d + 1
  | (_, d) => uptoBulk d + 1
 end
def uptoSmall : (H : Type) → List (DataW H) → Bool := fun _ ds => decide (uptoBulkAll ds ≤ 1048576)
def OpenSpec.upto (s : _root_.Go.ChangeSpec) : _root_.Go.OpenSpec := { _root_.Go.OpenSpec.ofChange s with cond := some uptoSmall }

/-- 'synopticlaw03.GridLists', WHERE WHAT IT READS IS OF BULK AT MOST 1048576: true; the input reads as it did. -/
def gridListsUptoRow : OpenClaim := { program := "ytlfhildbjipheaagreatdoor", sum := "88ec349664001f1e3654a1742137616c14a62fbe04b1ba8834e739d365fdbfe3", func := "synoptic/synopticlaw03.GridLists", spec := "gridLists", unfollowed := true, recurses := true, named := ["synoptic/place.corners"], plainKeys := false, apart := false, laid := [("synoptic/place.corners", laid_synoptic_place_corners)], narrowed := true }
def GridListsUptoSaid : Prop := gridListsUptoRow.holds Tryz.pinned (OpenSpec.upto gridListsSpec)

/-- 'synopticlaw22.PrecisionApplies', WHERE WHAT IT READS IS OF BULK AT MOST 1048576: true; the input reads as it did. -/
def precisionAppliesUptoRow : OpenClaim := { program := "ytlfhildbjipheaagreatdoor", sum := "88ec349664001f1e3654a1742137616c14a62fbe04b1ba8834e739d365fdbfe3", func := "synoptic/synopticlaw22.PrecisionApplies", spec := "precisionApplies", inPlace := ["math/bits.Add64"], unfollowed := true, recurses := true, named := ["synoptic/place.corners"], plainKeys := false, apart := false, laid := [("synoptic/place.corners", laid_synoptic_place_corners)], narrowed := true }
def PrecisionAppliesUptoSaid : Prop := precisionAppliesUptoRow.holds Tryz.pinned (OpenSpec.upto precisionAppliesSpec)

/-- 'synopticlaw03.GridLocates', WHERE WHAT IT READS IS OF BULK AT MOST 1048576: true; the input reads as it did. -/
def gridLocatesUptoRow : OpenClaim := { program := "ytlfhildbjipheaagreatdoor", sum := "88ec349664001f1e3654a1742137616c14a62fbe04b1ba8834e739d365fdbfe3", func := "synoptic/synopticlaw03.GridLocates", spec := "gridLocates", unfollowed := true, recurses := true, named := ["synoptic/place.corners"], plainKeys := false, apart := false, laid := [("synoptic/place.corners", laid_synoptic_place_corners)], narrowed := true }
def GridLocatesUptoSaid : Prop := gridLocatesUptoRow.holds Tryz.pinned (OpenSpec.upto gridLocatesSpec)

/-- 'synopticlaw03.GridHops', WHERE WHAT IT READS IS OF BULK AT MOST 1048576: true; the input reads as it did. -/
def gridHopsUptoRow : OpenClaim := { program := "ytlfhildbjipheaagreatdoor", sum := "88ec349664001f1e3654a1742137616c14a62fbe04b1ba8834e739d365fdbfe3", func := "synoptic/synopticlaw03.GridHops", spec := "gridHops", unfollowed := true, recurses := true, named := ["synoptic/place.corners"], plainKeys := false, apart := false, laid := [("synoptic/place.corners", laid_synoptic_place_corners)], narrowed := true }
def GridHopsUptoSaid : Prop := gridHopsUptoRow.holds Tryz.pinned (OpenSpec.upto gridHopsSpec)

/-- 'synopticlaw03.GridNested', WHERE WHAT IT READS IS OF BULK AT MOST 1048576: true; the input reads as it did. -/
def gridNestedUptoRow : OpenClaim := { program := "ytlfhildbjipheaagreatdoor", sum := "88ec349664001f1e3654a1742137616c14a62fbe04b1ba8834e739d365fdbfe3", func := "synoptic/synopticlaw03.GridNested", spec := "gridNested", unfollowed := true, recurses := true, named := ["synoptic/place.corners"], plainKeys := false, apart := false, laid := [("synoptic/place.corners", laid_synoptic_place_corners)], narrowed := true }
def GridNestedUptoSaid : Prop := gridNestedUptoRow.holds Tryz.pinned (OpenSpec.upto gridNestedSpec)

end Rows
end Go.Proofs.YtlfhildbjipheaaGreatDoor
