/-
  NARROWER THAN 'FOR EVERY INPUT', by the rows' own cells (each row's printed sentence says how): TrackAnswers: laid · TrackLongest: laid · TrackOrder: laid · TrackFaster: laid · TrackNames: laid.
  DERIVED. THE GIVEN ROWS OF THIS SEAT. 5 by the template 'for every input the law returns true; each argument reads behind the call as it read before'; 0 by the template 'total and deterministic' (their statements: YtbomggfklfbnkaaGreatDoorTotals.lean).
  GIVEN WITH THE SEED: the statements are not yours to turn. If you find one false, say at which input.
  Laid BY PROGRAM, IN A SANDBOX (cutbox-rows.mjs): the forced cells as the released guide's own fill.sh prints them over the translation 52e40736cea1f0b1… (all of the seat's roots in one cut). By AI agents, Wed Nov 11 2026. No macro, syntax, notation, axiom, sorry.
-/
import Derived.Test.YtbomggfklfbnkaaGreatDoorChecked
import GoSem.Claim
import GoSem.ClaimJoined
import GoSem.ClaimMapViews
import Derived.JoinedTies
import Derived.KernelRfl
namespace Go.Proofs.YtbomggfklfbnkaaGreatDoor
/- THE CELL 'sum', in the pinned program and in every row, IS THE sha256 OF THE DUMP (.gsa) THAT YtbomggfklfbnkaaGreatDoorProg.lean LOADS. Nothing in Lean hashes anything: it is a label: what it is worth is what the hold of that sum in a sandbox is worth. -/
noncomputable def Tryz.pinned : Pinned := { name := "ytbomggfklfbnkaagreatdoor", sum := "52e40736cea1f0b15a71472cd2009c90f78f8d95204abb7b11e652f66a664a6b", checked := Tryz.checked }
namespace Rows
def none {H : Type} : Left H := { results := [], args := [] }

/- WHAT THE LISTED PACKAGE-LEVEL VARIABLES READ AS WHEN THE CALL BEGINS. Each datum BY PROGRAM (the guide's laid-datum.mjs) off the statement by which the dump's own 'gosem.cut.vars' lays the variable. In a bare row this is a premise. The card (YtbomggfklfbnkaaGreatDoorCards.lean) ties it to the program's text. -/
def laid_synoptic_place_corners {H : Type} : DataW H := .agg [.agg [.lit (.int .i64 0), .lit (.int .i64 1), .lit (.int .i64 2)], .agg [.lit (.int .i64 0), .lit (.int .i64 2), .lit (.int .i64 3)], .agg [.lit (.int .i64 0), .lit (.int .i64 3), .lit (.int .i64 4)], .agg [.lit (.int .i64 0), .lit (.int .i64 4), .lit (.int .i64 5)], .agg [.lit (.int .i64 0), .lit (.int .i64 5), .lit (.int .i64 1)], .agg [.lit (.int .i64 1), .lit (.int .i64 6), .lit (.int .i64 2)], .agg [.lit (.int .i64 2), .lit (.int .i64 7), .lit (.int .i64 3)], .agg [.lit (.int .i64 3), .lit (.int .i64 8), .lit (.int .i64 4)], .agg [.lit (.int .i64 4), .lit (.int .i64 9), .lit (.int .i64 5)], .agg [.lit (.int .i64 5), .lit (.int .i64 10), .lit (.int .i64 1)], .agg [.lit (.int .i64 6), .lit (.int .i64 7), .lit (.int .i64 2)], .agg [.lit (.int .i64 7), .lit (.int .i64 8), .lit (.int .i64 3)], .agg [.lit (.int .i64 8), .lit (.int .i64 9), .lit (.int .i64 4)], .agg [.lit (.int .i64 9), .lit (.int .i64 10), .lit (.int .i64 5)], .agg [.lit (.int .i64 10), .lit (.int .i64 6), .lit (.int .i64 1)], .agg [.lit (.int .i64 11), .lit (.int .i64 7), .lit (.int .i64 6)], .agg [.lit (.int .i64 11), .lit (.int .i64 8), .lit (.int .i64 7)], .agg [.lit (.int .i64 11), .lit (.int .i64 9), .lit (.int .i64 8)], .agg [.lit (.int .i64 11), .lit (.int .i64 10), .lit (.int .i64 9)], .agg [.lit (.int .i64 11), .lit (.int .i64 6), .lit (.int .i64 10)]]

/-- 'synopticlaw12.TrackAnswers': WHATEVER THE INPUT: true; the input reads as it did. -/
def trackAnswersSpec : ChangeSpec := { name := "trackAnswers", fn := fun _ => fun
  | [d1, d2, d3] => { results := [.lit (.bool true)], args := [d1, d2, d3] }
  | _ => none }
def trackAnswersRow : OpenClaim := { program := "ytbomggfklfbnkaagreatdoor", sum := "52e40736cea1f0b15a71472cd2009c90f78f8d95204abb7b11e652f66a664a6b", func := "synoptic/synopticlaw12.TrackAnswers", spec := "trackAnswers", unfollowed := true, recurses := true, named := ["synoptic/place.corners"], plainKeys := false, apart := false, laid := [("synoptic/place.corners", laid_synoptic_place_corners)] }
def TrackAnswersSaid : Prop := trackAnswersRow.holds Tryz.pinned (OpenSpec.ofChange trackAnswersSpec)

/-- ITS FALSE NEIGHBOUR: 'it returns false'. Refute it at one input. -/
def trackAnswersWrong : ChangeSpec := { name := "trackAnswers", fn := fun _ => fun
  | [d1, d2, d3] => { results := [.lit (.bool false)], args := [d1, d2, d3] }
  | _ => none }
def TrackAnswersWrongFalsely : Prop := trackAnswersRow.holds Tryz.pinned (OpenSpec.ofChange trackAnswersWrong)

/-- 'synopticlaw12.TrackLongest': WHATEVER THE INPUT: true; the input reads as it did. -/
def trackLongestSpec : ChangeSpec := { name := "trackLongest", fn := fun _ => fun
  | [d] => { results := [.lit (.bool true)], args := [d] }
  | _ => none }
def trackLongestRow : OpenClaim := { program := "ytbomggfklfbnkaagreatdoor", sum := "52e40736cea1f0b15a71472cd2009c90f78f8d95204abb7b11e652f66a664a6b", func := "synoptic/synopticlaw12.TrackLongest", spec := "trackLongest", unfollowed := true, recurses := true, named := ["synoptic/place.corners"], plainKeys := false, apart := false, laid := [("synoptic/place.corners", laid_synoptic_place_corners)] }
def TrackLongestSaid : Prop := trackLongestRow.holds Tryz.pinned (OpenSpec.ofChange trackLongestSpec)

/-- ITS FALSE NEIGHBOUR: 'it returns false'. Refute it at one input. -/
def trackLongestWrong : ChangeSpec := { name := "trackLongest", fn := fun _ => fun
  | [d] => { results := [.lit (.bool false)], args := [d] }
  | _ => none }
def TrackLongestWrongFalsely : Prop := trackLongestRow.holds Tryz.pinned (OpenSpec.ofChange trackLongestWrong)

/-- 'synopticlaw12.TrackOrder': WHATEVER THE INPUT: true; the input reads as it did. -/
def trackOrderSpec : ChangeSpec := { name := "trackOrder", fn := fun _ => fun
  | [d] => { results := [.lit (.bool true)], args := [d] }
  | _ => none }
def trackOrderRow : OpenClaim := { program := "ytbomggfklfbnkaagreatdoor", sum := "52e40736cea1f0b15a71472cd2009c90f78f8d95204abb7b11e652f66a664a6b", func := "synoptic/synopticlaw12.TrackOrder", spec := "trackOrder", unfollowed := true, recurses := true, named := ["synoptic/place.corners"], plainKeys := false, apart := false, laid := [("synoptic/place.corners", laid_synoptic_place_corners)] }
def TrackOrderSaid : Prop := trackOrderRow.holds Tryz.pinned (OpenSpec.ofChange trackOrderSpec)

/-- ITS FALSE NEIGHBOUR: 'it returns false'. Refute it at one input. -/
def trackOrderWrong : ChangeSpec := { name := "trackOrder", fn := fun _ => fun
  | [d] => { results := [.lit (.bool false)], args := [d] }
  | _ => none }
def TrackOrderWrongFalsely : Prop := trackOrderRow.holds Tryz.pinned (OpenSpec.ofChange trackOrderWrong)

/-- 'synopticlaw12.TrackFaster': WHATEVER THE INPUT: true; the input reads as it did. -/
def trackFasterSpec : ChangeSpec := { name := "trackFaster", fn := fun _ => fun
  | [d] => { results := [.lit (.bool true)], args := [d] }
  | _ => none }
def trackFasterRow : OpenClaim := { program := "ytbomggfklfbnkaagreatdoor", sum := "52e40736cea1f0b15a71472cd2009c90f78f8d95204abb7b11e652f66a664a6b", func := "synoptic/synopticlaw12.TrackFaster", spec := "trackFaster", unfollowed := true, recurses := true, named := ["synoptic/place.corners"], plainKeys := false, apart := false, laid := [("synoptic/place.corners", laid_synoptic_place_corners)] }
def TrackFasterSaid : Prop := trackFasterRow.holds Tryz.pinned (OpenSpec.ofChange trackFasterSpec)

/-- ITS FALSE NEIGHBOUR: 'it returns false'. Refute it at one input. -/
def trackFasterWrong : ChangeSpec := { name := "trackFaster", fn := fun _ => fun
  | [d] => { results := [.lit (.bool false)], args := [d] }
  | _ => none }
def TrackFasterWrongFalsely : Prop := trackFasterRow.holds Tryz.pinned (OpenSpec.ofChange trackFasterWrong)

/-- 'synopticlaw12.TrackNames': WHATEVER THE INPUT: true; the input reads as it did. -/
def trackNamesSpec : ChangeSpec := { name := "trackNames", fn := fun _ => fun
  | [d] => { results := [.lit (.bool true)], args := [d] }
  | _ => none }
def trackNamesRow : OpenClaim := { program := "ytbomggfklfbnkaagreatdoor", sum := "52e40736cea1f0b15a71472cd2009c90f78f8d95204abb7b11e652f66a664a6b", func := "synoptic/synopticlaw12.TrackNames", spec := "trackNames", unfollowed := true, recurses := true, named := ["synoptic/place.corners"], plainKeys := false, apart := false, laid := [("synoptic/place.corners", laid_synoptic_place_corners)] }
def TrackNamesSaid : Prop := trackNamesRow.holds Tryz.pinned (OpenSpec.ofChange trackNamesSpec)

/-- ITS FALSE NEIGHBOUR: 'it returns false'. Refute it at one input. -/
def trackNamesWrong : ChangeSpec := { name := "trackNames", fn := fun _ => fun
  | [d] => { results := [.lit (.bool false)], args := [d] }
  | _ => none }
def TrackNamesWrongFalsely : Prop := trackNamesRow.holds Tryz.pinned (OpenSpec.ofChange trackNamesWrong)

/- THE SECOND FORM. 'bulk': how many values and letters a reading holds, each counted each time it is reached (what is shared counts as often as it is met; a slice's spare places count too). A statement '..UptoSaid' is the law's where the arguments, and the package variables that the reading takes, are together of bulk at most 1048576: NARROWER than '..Said'. Prove '..Said' where nothing that the law and all that it calls make is longer than what came in: it says more and counts as full. Else prove '..UptoSaid'. A law counts once. -/
mutual
def uptoBulk {H : Type} : DataW H → Nat
  | .lit (.string bytes) => bytes.length + 1
  | .lit _ => 1
  | .nil => 1
  | .ptr d => uptoBulk d + 1
  | .slice elems spare => uptoBulkAll elems + uptoBulkAll spare + 1
  | .agg parts => uptoBulkAll parts + 1
  | .iface _ d => uptoBulk d + 1
  | .map entries => uptoBulkEntries entries + 1
  | .held _ => 1
def uptoBulkAll {H : Type} : List (DataW H) → Nat
  | [] => 0
  | d :: r => uptoBulk d + uptoBulkAll r
def uptoBulkEntries {H : Type} : List (Lit × DataW H) → Nat
  | [] => 0
  | x :: r => uptoBulkEntry x + uptoBulkEntries r
def uptoBulkEntry {H : Type} : Lit × DataW H → Nat
  | (.string bytes, d) => bytes.length + uptoBulk d + 1
  | (_, d) => uptoBulk d + 1
 end
def uptoSmall : (H : Type) → List (DataW H) → Bool := fun _ ds => decide (uptoBulkAll ds ≤ 1048576)
def OpenSpec.upto (s : _root_.Go.ChangeSpec) : _root_.Go.OpenSpec := { _root_.Go.OpenSpec.ofChange s with cond := some uptoSmall }

/-- 'synopticlaw12.TrackAnswers', WHERE WHAT IT READS IS OF BULK AT MOST 1048576: true; the input reads as it did. -/
def trackAnswersUptoRow : OpenClaim := { program := "ytbomggfklfbnkaagreatdoor", sum := "52e40736cea1f0b15a71472cd2009c90f78f8d95204abb7b11e652f66a664a6b", func := "synoptic/synopticlaw12.TrackAnswers", spec := "trackAnswers", unfollowed := true, recurses := true, named := ["synoptic/place.corners"], plainKeys := false, apart := false, laid := [("synoptic/place.corners", laid_synoptic_place_corners)], narrowed := true }
def TrackAnswersUptoSaid : Prop := trackAnswersUptoRow.holds Tryz.pinned (OpenSpec.upto trackAnswersSpec)

/-- 'synopticlaw12.TrackLongest', WHERE WHAT IT READS IS OF BULK AT MOST 1048576: true; the input reads as it did. -/
def trackLongestUptoRow : OpenClaim := { program := "ytbomggfklfbnkaagreatdoor", sum := "52e40736cea1f0b15a71472cd2009c90f78f8d95204abb7b11e652f66a664a6b", func := "synoptic/synopticlaw12.TrackLongest", spec := "trackLongest", unfollowed := true, recurses := true, named := ["synoptic/place.corners"], plainKeys := false, apart := false, laid := [("synoptic/place.corners", laid_synoptic_place_corners)], narrowed := true }
def TrackLongestUptoSaid : Prop := trackLongestUptoRow.holds Tryz.pinned (OpenSpec.upto trackLongestSpec)

/-- 'synopticlaw12.TrackOrder', WHERE WHAT IT READS IS OF BULK AT MOST 1048576: true; the input reads as it did. -/
def trackOrderUptoRow : OpenClaim := { program := "ytbomggfklfbnkaagreatdoor", sum := "52e40736cea1f0b15a71472cd2009c90f78f8d95204abb7b11e652f66a664a6b", func := "synoptic/synopticlaw12.TrackOrder", spec := "trackOrder", unfollowed := true, recurses := true, named := ["synoptic/place.corners"], plainKeys := false, apart := false, laid := [("synoptic/place.corners", laid_synoptic_place_corners)], narrowed := true }
def TrackOrderUptoSaid : Prop := trackOrderUptoRow.holds Tryz.pinned (OpenSpec.upto trackOrderSpec)

/-- 'synopticlaw12.TrackFaster', WHERE WHAT IT READS IS OF BULK AT MOST 1048576: true; the input reads as it did. -/
def trackFasterUptoRow : OpenClaim := { program := "ytbomggfklfbnkaagreatdoor", sum := "52e40736cea1f0b15a71472cd2009c90f78f8d95204abb7b11e652f66a664a6b", func := "synoptic/synopticlaw12.TrackFaster", spec := "trackFaster", unfollowed := true, recurses := true, named := ["synoptic/place.corners"], plainKeys := false, apart := false, laid := [("synoptic/place.corners", laid_synoptic_place_corners)], narrowed := true }
def TrackFasterUptoSaid : Prop := trackFasterUptoRow.holds Tryz.pinned (OpenSpec.upto trackFasterSpec)

/-- 'synopticlaw12.TrackNames', WHERE WHAT IT READS IS OF BULK AT MOST 1048576: true; the input reads as it did. -/
def trackNamesUptoRow : OpenClaim := { program := "ytbomggfklfbnkaagreatdoor", sum := "52e40736cea1f0b15a71472cd2009c90f78f8d95204abb7b11e652f66a664a6b", func := "synoptic/synopticlaw12.TrackNames", spec := "trackNames", unfollowed := true, recurses := true, named := ["synoptic/place.corners"], plainKeys := false, apart := false, laid := [("synoptic/place.corners", laid_synoptic_place_corners)], narrowed := true }
def TrackNamesUptoSaid : Prop := trackNamesUptoRow.holds Tryz.pinned (OpenSpec.upto trackNamesSpec)

end Rows
end Go.Proofs.YtbomggfklfbnkaaGreatDoor
