/-
  NARROWER THAN 'FOR EVERY INPUT', by the rows' own cells (each row's printed sentence says how): GridAnswers: laid · GridNearest: laid · GridSurface: laid · PrecisionRing: laid · PrecisionLinear: laid · PrecisionWide: laid · PrecisionDefinite: laid · PrecisionBounds: laid.
  DERIVED. THE GIVEN ROWS OF THIS SEAT. 8 by the template 'for every input the law returns true; each argument reads behind the call as it read before'; 0 by the template 'total and deterministic' (their statements: YtpbfgnffkhabnaaDoorTotals.lean).
  GIVEN WITH THE SEED: the statements are not yours to turn. If you find one false, say at which input.
  Laid BY PROGRAM, IN A SANDBOX (cutbox-rows.mjs): the forced cells as the released guide's own fill.sh prints them over the translation 071916b87ec09b57… (all of the seat's roots in one cut). By AI agents, Wed Nov 11 2026. No macro, syntax, notation, axiom, sorry.
-/
import Derived.Test.YtpbfgnffkhabnaaDoorChecked
import GoSem.Claim
import GoSem.ClaimJoined
import GoSem.ClaimMapViews
import Derived.JoinedTies
import Derived.KernelRfl
namespace Go.Proofs.YtpbfgnffkhabnaaDoor
/- THE CELL 'sum', in the pinned program and in every row, IS THE sha256 OF THE DUMP (.gsa) THAT YtpbfgnffkhabnaaDoorProg.lean LOADS. Nothing in Lean hashes anything: it is a label: what it is worth is what the hold of that sum in a sandbox is worth. -/
noncomputable def Tryd.pinned : Pinned := { name := "ytpbfgnffkhabnaadoor", sum := "071916b87ec09b57c69ca655ea0c8d87f8ac4cee613b71096cad242d44df08be", checked := Tryd.checked }
namespace Rows
def none {H : Type} : Left H := { results := [], args := [] }

/- WHAT THE LISTED PACKAGE-LEVEL VARIABLES READ AS WHEN THE CALL BEGINS. Each datum BY PROGRAM (the guide's laid-datum.mjs) off the statement by which the dump's own 'gosem.cut.vars' lays the variable. In a bare row this is a premise. The card (YtpbfgnffkhabnaaDoorCards.lean) ties it to the program's text. -/
def laid_synoptic_place_corners {H : Type} : DataW H := .agg [.agg [.lit (.int .i64 0), .lit (.int .i64 1), .lit (.int .i64 2)], .agg [.lit (.int .i64 0), .lit (.int .i64 2), .lit (.int .i64 3)], .agg [.lit (.int .i64 0), .lit (.int .i64 3), .lit (.int .i64 4)], .agg [.lit (.int .i64 0), .lit (.int .i64 4), .lit (.int .i64 5)], .agg [.lit (.int .i64 0), .lit (.int .i64 5), .lit (.int .i64 1)], .agg [.lit (.int .i64 1), .lit (.int .i64 6), .lit (.int .i64 2)], .agg [.lit (.int .i64 2), .lit (.int .i64 7), .lit (.int .i64 3)], .agg [.lit (.int .i64 3), .lit (.int .i64 8), .lit (.int .i64 4)], .agg [.lit (.int .i64 4), .lit (.int .i64 9), .lit (.int .i64 5)], .agg [.lit (.int .i64 5), .lit (.int .i64 10), .lit (.int .i64 1)], .agg [.lit (.int .i64 6), .lit (.int .i64 7), .lit (.int .i64 2)], .agg [.lit (.int .i64 7), .lit (.int .i64 8), .lit (.int .i64 3)], .agg [.lit (.int .i64 8), .lit (.int .i64 9), .lit (.int .i64 4)], .agg [.lit (.int .i64 9), .lit (.int .i64 10), .lit (.int .i64 5)], .agg [.lit (.int .i64 10), .lit (.int .i64 6), .lit (.int .i64 1)], .agg [.lit (.int .i64 11), .lit (.int .i64 7), .lit (.int .i64 6)], .agg [.lit (.int .i64 11), .lit (.int .i64 8), .lit (.int .i64 7)], .agg [.lit (.int .i64 11), .lit (.int .i64 9), .lit (.int .i64 8)], .agg [.lit (.int .i64 11), .lit (.int .i64 10), .lit (.int .i64 9)], .agg [.lit (.int .i64 11), .lit (.int .i64 6), .lit (.int .i64 10)]]

/-- 'synopticlaw03.GridAnswers': WHATEVER THE INPUT: true; the input reads as it did. -/
def gridAnswersSpec : ChangeSpec := { name := "gridAnswers", fn := fun _ => fun
  | [d1, d2, d3] => { results := [.lit (.bool true)], args := [d1, d2, d3] }
  | _ => none }
def gridAnswersRow : OpenClaim := { program := "ytpbfgnffkhabnaadoor", sum := "071916b87ec09b57c69ca655ea0c8d87f8ac4cee613b71096cad242d44df08be", func := "synoptic/synopticlaw03.GridAnswers", spec := "gridAnswers", unfollowed := true, recurses := true, named := ["synoptic/place.corners"], plainKeys := false, apart := false, laid := [("synoptic/place.corners", laid_synoptic_place_corners)] }
def GridAnswersSaid : Prop := gridAnswersRow.holds Tryd.pinned (OpenSpec.ofChange gridAnswersSpec)

/-- ITS FALSE NEIGHBOUR: 'it returns false'. Refute it at one input. -/
def gridAnswersWrong : ChangeSpec := { name := "gridAnswers", fn := fun _ => fun
  | [d1, d2, d3] => { results := [.lit (.bool false)], args := [d1, d2, d3] }
  | _ => none }
def GridAnswersWrongFalsely : Prop := gridAnswersRow.holds Tryd.pinned (OpenSpec.ofChange gridAnswersWrong)

/-- 'synopticlaw03.GridNearest': WHATEVER THE INPUT: true; the input reads as it did. -/
def gridNearestSpec : ChangeSpec := { name := "gridNearest", fn := fun _ => fun
  | [d] => { results := [.lit (.bool true)], args := [d] }
  | _ => none }
def gridNearestRow : OpenClaim := { program := "ytpbfgnffkhabnaadoor", sum := "071916b87ec09b57c69ca655ea0c8d87f8ac4cee613b71096cad242d44df08be", func := "synoptic/synopticlaw03.GridNearest", spec := "gridNearest", unfollowed := true, recurses := true, named := ["synoptic/place.corners"], plainKeys := false, apart := false, laid := [("synoptic/place.corners", laid_synoptic_place_corners)] }
def GridNearestSaid : Prop := gridNearestRow.holds Tryd.pinned (OpenSpec.ofChange gridNearestSpec)

/-- ITS FALSE NEIGHBOUR: 'it returns false'. Refute it at one input. -/
def gridNearestWrong : ChangeSpec := { name := "gridNearest", fn := fun _ => fun
  | [d] => { results := [.lit (.bool false)], args := [d] }
  | _ => none }
def GridNearestWrongFalsely : Prop := gridNearestRow.holds Tryd.pinned (OpenSpec.ofChange gridNearestWrong)

/-- 'synopticlaw03.GridSurface': WHATEVER THE INPUT: true; the input reads as it did. -/
def gridSurfaceSpec : ChangeSpec := { name := "gridSurface", fn := fun _ => fun
  | [d] => { results := [.lit (.bool true)], args := [d] }
  | _ => none }
def gridSurfaceRow : OpenClaim := { program := "ytpbfgnffkhabnaadoor", sum := "071916b87ec09b57c69ca655ea0c8d87f8ac4cee613b71096cad242d44df08be", func := "synoptic/synopticlaw03.GridSurface", spec := "gridSurface", unfollowed := true, recurses := true, named := ["synoptic/place.corners"], plainKeys := false, apart := false, laid := [("synoptic/place.corners", laid_synoptic_place_corners)] }
def GridSurfaceSaid : Prop := gridSurfaceRow.holds Tryd.pinned (OpenSpec.ofChange gridSurfaceSpec)

/-- ITS FALSE NEIGHBOUR: 'it returns false'. Refute it at one input. -/
def gridSurfaceWrong : ChangeSpec := { name := "gridSurface", fn := fun _ => fun
  | [d] => { results := [.lit (.bool false)], args := [d] }
  | _ => none }
def GridSurfaceWrongFalsely : Prop := gridSurfaceRow.holds Tryd.pinned (OpenSpec.ofChange gridSurfaceWrong)

/-- 'synopticlaw22.PrecisionRing': WHATEVER THE INPUT: true; the input reads as it did. -/
def precisionRingSpec : ChangeSpec := { name := "precisionRing", fn := fun _ => fun
  | [d1, d2, d3] => { results := [.lit (.bool true)], args := [d1, d2, d3] }
  | _ => none }
def precisionRingRow : OpenClaim := { program := "ytpbfgnffkhabnaadoor", sum := "071916b87ec09b57c69ca655ea0c8d87f8ac4cee613b71096cad242d44df08be", func := "synoptic/synopticlaw22.PrecisionRing", spec := "precisionRing", inPlace := ["math/bits.Add64"], unfollowed := true, recurses := true, named := ["synoptic/place.corners"], plainKeys := false, apart := false, laid := [("synoptic/place.corners", laid_synoptic_place_corners)] }
def PrecisionRingSaid : Prop := precisionRingRow.holds Tryd.pinned (OpenSpec.ofChange precisionRingSpec)

/-- ITS FALSE NEIGHBOUR: 'it returns false'. Refute it at one input. -/
def precisionRingWrong : ChangeSpec := { name := "precisionRing", fn := fun _ => fun
  | [d1, d2, d3] => { results := [.lit (.bool false)], args := [d1, d2, d3] }
  | _ => none }
def PrecisionRingWrongFalsely : Prop := precisionRingRow.holds Tryd.pinned (OpenSpec.ofChange precisionRingWrong)

/-- 'synopticlaw22.PrecisionLinear': WHATEVER THE INPUT: true; the input reads as it did. -/
def precisionLinearSpec : ChangeSpec := { name := "precisionLinear", fn := fun _ => fun
  | [d] => { results := [.lit (.bool true)], args := [d] }
  | _ => none }
def precisionLinearRow : OpenClaim := { program := "ytpbfgnffkhabnaadoor", sum := "071916b87ec09b57c69ca655ea0c8d87f8ac4cee613b71096cad242d44df08be", func := "synoptic/synopticlaw22.PrecisionLinear", spec := "precisionLinear", inPlace := ["math/bits.Add64"], unfollowed := true, recurses := true, named := ["synoptic/place.corners"], plainKeys := false, apart := false, laid := [("synoptic/place.corners", laid_synoptic_place_corners)] }
def PrecisionLinearSaid : Prop := precisionLinearRow.holds Tryd.pinned (OpenSpec.ofChange precisionLinearSpec)

/-- ITS FALSE NEIGHBOUR: 'it returns false'. Refute it at one input. -/
def precisionLinearWrong : ChangeSpec := { name := "precisionLinear", fn := fun _ => fun
  | [d] => { results := [.lit (.bool false)], args := [d] }
  | _ => none }
def PrecisionLinearWrongFalsely : Prop := precisionLinearRow.holds Tryd.pinned (OpenSpec.ofChange precisionLinearWrong)

/-- 'synopticlaw22.PrecisionWide': WHATEVER THE INPUT: true; the input reads as it did. -/
def precisionWideSpec : ChangeSpec := { name := "precisionWide", fn := fun _ => fun
  | [d1, d2, d3, d4, d5, d6] => { results := [.lit (.bool true)], args := [d1, d2, d3, d4, d5, d6] }
  | _ => none }
def precisionWideRow : OpenClaim := { program := "ytpbfgnffkhabnaadoor", sum := "071916b87ec09b57c69ca655ea0c8d87f8ac4cee613b71096cad242d44df08be", func := "synoptic/synopticlaw22.PrecisionWide", spec := "precisionWide", inPlace := ["math/bits.Add64"], unfollowed := true, recurses := true, named := ["synoptic/place.corners"], plainKeys := false, apart := false, laid := [("synoptic/place.corners", laid_synoptic_place_corners)] }
def PrecisionWideSaid : Prop := precisionWideRow.holds Tryd.pinned (OpenSpec.ofChange precisionWideSpec)

/-- ITS FALSE NEIGHBOUR: 'it returns false'. Refute it at one input. -/
def precisionWideWrong : ChangeSpec := { name := "precisionWide", fn := fun _ => fun
  | [d1, d2, d3, d4, d5, d6] => { results := [.lit (.bool false)], args := [d1, d2, d3, d4, d5, d6] }
  | _ => none }
def PrecisionWideWrongFalsely : Prop := precisionWideRow.holds Tryd.pinned (OpenSpec.ofChange precisionWideWrong)

/-- 'synopticlaw22.PrecisionDefinite': WHATEVER THE INPUT: true; the input reads as it did. -/
def precisionDefiniteSpec : ChangeSpec := { name := "precisionDefinite", fn := fun _ => fun
  | [d1, d2] => { results := [.lit (.bool true)], args := [d1, d2] }
  | _ => none }
def precisionDefiniteRow : OpenClaim := { program := "ytpbfgnffkhabnaadoor", sum := "071916b87ec09b57c69ca655ea0c8d87f8ac4cee613b71096cad242d44df08be", func := "synoptic/synopticlaw22.PrecisionDefinite", spec := "precisionDefinite", inPlace := ["math/bits.Add64"], unfollowed := true, recurses := true, named := ["synoptic/place.corners"], plainKeys := false, apart := false, laid := [("synoptic/place.corners", laid_synoptic_place_corners)] }
def PrecisionDefiniteSaid : Prop := precisionDefiniteRow.holds Tryd.pinned (OpenSpec.ofChange precisionDefiniteSpec)

/-- ITS FALSE NEIGHBOUR: 'it returns false'. Refute it at one input. -/
def precisionDefiniteWrong : ChangeSpec := { name := "precisionDefinite", fn := fun _ => fun
  | [d1, d2] => { results := [.lit (.bool false)], args := [d1, d2] }
  | _ => none }
def PrecisionDefiniteWrongFalsely : Prop := precisionDefiniteRow.holds Tryd.pinned (OpenSpec.ofChange precisionDefiniteWrong)

/-- 'synopticlaw22.PrecisionBounds': WHATEVER THE INPUT: true; the input reads as it did. -/
def precisionBoundsSpec : ChangeSpec := { name := "precisionBounds", fn := fun _ => fun
  | [d1, d2] => { results := [.lit (.bool true)], args := [d1, d2] }
  | _ => none }
def precisionBoundsRow : OpenClaim := { program := "ytpbfgnffkhabnaadoor", sum := "071916b87ec09b57c69ca655ea0c8d87f8ac4cee613b71096cad242d44df08be", func := "synoptic/synopticlaw22.PrecisionBounds", spec := "precisionBounds", inPlace := ["math/bits.Add64"], unfollowed := true, recurses := true, named := ["synoptic/place.corners"], plainKeys := false, apart := false, laid := [("synoptic/place.corners", laid_synoptic_place_corners)] }
def PrecisionBoundsSaid : Prop := precisionBoundsRow.holds Tryd.pinned (OpenSpec.ofChange precisionBoundsSpec)

/-- ITS FALSE NEIGHBOUR: 'it returns false'. Refute it at one input. -/
def precisionBoundsWrong : ChangeSpec := { name := "precisionBounds", fn := fun _ => fun
  | [d1, d2] => { results := [.lit (.bool false)], args := [d1, d2] }
  | _ => none }
def PrecisionBoundsWrongFalsely : Prop := precisionBoundsRow.holds Tryd.pinned (OpenSpec.ofChange precisionBoundsWrong)

/- THE SECOND FORM. 'bulk': how many values and letters a reading holds, each counted each time it is reached (what is shared counts as often as it is met; a slice's spare places count too). A statement '..UptoSaid' is the law's where the arguments, and the package variables that the reading takes, are together of bulk at most 1048576: NARROWER than '..Said'. Prove '..Said' where nothing that the law and all that it calls make is longer than what came in: it says more and counts as full. Else prove '..UptoSaid'. A law counts once. -/
mutual
def uptoBulk {H : Type} : DataW H → Nat
  | .lit (.string bytes) => bytes.length + 1
  | .lit _ => 1
  | .nil => 1
  | .ptr d => uptoBulk d + 1
  | .slice elems spare => uptoBulkAll elems + uptoBulkAll spare + 1
  | .agg parts => uptoBulkAll parts + 1
  | .iface _ d => uptoBulk d + 1
  | .map entries => uptoBulkEntries entries + 1
  | .held _ => 1
def uptoBulkAll {H : Type} : List (DataW H) → Nat
  | [] => 0
  | d :: r => uptoBulk d + uptoBulkAll r
def uptoBulkEntries {H : Type} : List (Lit × DataW H) → Nat
  | [] => 0
  | x :: r => uptoBulkEntry x + uptoBulkEntries r
def uptoBulkEntry {H : Type} : Lit × DataW H → Nat
  | (.string bytes, d) => bytes.length + uptoBulk d + 1
  | (_, d) => uptoBulk d + 1
 end
def uptoSmall : (H : Type) → List (DataW H) → Bool := fun _ ds => decide (uptoBulkAll ds ≤ 1048576)
def OpenSpec.upto (s : _root_.Go.ChangeSpec) : _root_.Go.OpenSpec := { _root_.Go.OpenSpec.ofChange s with cond := some uptoSmall }

/-- 'synopticlaw03.GridAnswers', WHERE WHAT IT READS IS OF BULK AT MOST 1048576: true; the input reads as it did. -/
def gridAnswersUptoRow : OpenClaim := { program := "ytpbfgnffkhabnaadoor", sum := "071916b87ec09b57c69ca655ea0c8d87f8ac4cee613b71096cad242d44df08be", func := "synoptic/synopticlaw03.GridAnswers", spec := "gridAnswers", unfollowed := true, recurses := true, named := ["synoptic/place.corners"], plainKeys := false, apart := false, laid := [("synoptic/place.corners", laid_synoptic_place_corners)], narrowed := true }
def GridAnswersUptoSaid : Prop := gridAnswersUptoRow.holds Tryd.pinned (OpenSpec.upto gridAnswersSpec)

/-- 'synopticlaw03.GridNearest', WHERE WHAT IT READS IS OF BULK AT MOST 1048576: true; the input reads as it did. -/
def gridNearestUptoRow : OpenClaim := { program := "ytpbfgnffkhabnaadoor", sum := "071916b87ec09b57c69ca655ea0c8d87f8ac4cee613b71096cad242d44df08be", func := "synoptic/synopticlaw03.GridNearest", spec := "gridNearest", unfollowed := true, recurses := true, named := ["synoptic/place.corners"], plainKeys := false, apart := false, laid := [("synoptic/place.corners", laid_synoptic_place_corners)], narrowed := true }
def GridNearestUptoSaid : Prop := gridNearestUptoRow.holds Tryd.pinned (OpenSpec.upto gridNearestSpec)

/-- 'synopticlaw03.GridSurface', WHERE WHAT IT READS IS OF BULK AT MOST 1048576: true; the input reads as it did. -/
def gridSurfaceUptoRow : OpenClaim := { program := "ytpbfgnffkhabnaadoor", sum := "071916b87ec09b57c69ca655ea0c8d87f8ac4cee613b71096cad242d44df08be", func := "synoptic/synopticlaw03.GridSurface", spec := "gridSurface", unfollowed := true, recurses := true, named := ["synoptic/place.corners"], plainKeys := false, apart := false, laid := [("synoptic/place.corners", laid_synoptic_place_corners)], narrowed := true }
def GridSurfaceUptoSaid : Prop := gridSurfaceUptoRow.holds Tryd.pinned (OpenSpec.upto gridSurfaceSpec)

/-- 'synopticlaw22.PrecisionRing', WHERE WHAT IT READS IS OF BULK AT MOST 1048576: true; the input reads as it did. -/
def precisionRingUptoRow : OpenClaim := { program := "ytpbfgnffkhabnaadoor", sum := "071916b87ec09b57c69ca655ea0c8d87f8ac4cee613b71096cad242d44df08be", func := "synoptic/synopticlaw22.PrecisionRing", spec := "precisionRing", inPlace := ["math/bits.Add64"], unfollowed := true, recurses := true, named := ["synoptic/place.corners"], plainKeys := false, apart := false, laid := [("synoptic/place.corners", laid_synoptic_place_corners)], narrowed := true }
def PrecisionRingUptoSaid : Prop := precisionRingUptoRow.holds Tryd.pinned (OpenSpec.upto precisionRingSpec)

/-- 'synopticlaw22.PrecisionLinear', WHERE WHAT IT READS IS OF BULK AT MOST 1048576: true; the input reads as it did. -/
def precisionLinearUptoRow : OpenClaim := { program := "ytpbfgnffkhabnaadoor", sum := "071916b87ec09b57c69ca655ea0c8d87f8ac4cee613b71096cad242d44df08be", func := "synoptic/synopticlaw22.PrecisionLinear", spec := "precisionLinear", inPlace := ["math/bits.Add64"], unfollowed := true, recurses := true, named := ["synoptic/place.corners"], plainKeys := false, apart := false, laid := [("synoptic/place.corners", laid_synoptic_place_corners)], narrowed := true }
def PrecisionLinearUptoSaid : Prop := precisionLinearUptoRow.holds Tryd.pinned (OpenSpec.upto precisionLinearSpec)

/-- 'synopticlaw22.PrecisionWide', WHERE WHAT IT READS IS OF BULK AT MOST 1048576: true; the input reads as it did. -/
def precisionWideUptoRow : OpenClaim := { program := "ytpbfgnffkhabnaadoor", sum := "071916b87ec09b57c69ca655ea0c8d87f8ac4cee613b71096cad242d44df08be", func := "synoptic/synopticlaw22.PrecisionWide", spec := "precisionWide", inPlace := ["math/bits.Add64"], unfollowed := true, recurses := true, named := ["synoptic/place.corners"], plainKeys := false, apart := false, laid := [("synoptic/place.corners", laid_synoptic_place_corners)], narrowed := true }
def PrecisionWideUptoSaid : Prop := precisionWideUptoRow.holds Tryd.pinned (OpenSpec.upto precisionWideSpec)

/-- 'synopticlaw22.PrecisionDefinite', WHERE WHAT IT READS IS OF BULK AT MOST 1048576: true; the input reads as it did. -/
def precisionDefiniteUptoRow : OpenClaim := { program := "ytpbfgnffkhabnaadoor", sum := "071916b87ec09b57c69ca655ea0c8d87f8ac4cee613b71096cad242d44df08be", func := "synoptic/synopticlaw22.PrecisionDefinite", spec := "precisionDefinite", inPlace := ["math/bits.Add64"], unfollowed := true, recurses := true, named := ["synoptic/place.corners"], plainKeys := false, apart := false, laid := [("synoptic/place.corners", laid_synoptic_place_corners)], narrowed := true }
def PrecisionDefiniteUptoSaid : Prop := precisionDefiniteUptoRow.holds Tryd.pinned (OpenSpec.upto precisionDefiniteSpec)

/-- 'synopticlaw22.PrecisionBounds', WHERE WHAT IT READS IS OF BULK AT MOST 1048576: true; the input reads as it did. -/
def precisionBoundsUptoRow : OpenClaim := { program := "ytpbfgnffkhabnaadoor", sum := "071916b87ec09b57c69ca655ea0c8d87f8ac4cee613b71096cad242d44df08be", func := "synoptic/synopticlaw22.PrecisionBounds", spec := "precisionBounds", inPlace := ["math/bits.Add64"], unfollowed := true, recurses := true, named := ["synoptic/place.corners"], plainKeys := false, apart := false, laid := [("synoptic/place.corners", laid_synoptic_place_corners)], narrowed := true }
def PrecisionBoundsUptoSaid : Prop := precisionBoundsUptoRow.holds Tryd.pinned (OpenSpec.upto precisionBoundsSpec)

end Rows
end Go.Proofs.YtpbfgnffkhabnaaDoor
