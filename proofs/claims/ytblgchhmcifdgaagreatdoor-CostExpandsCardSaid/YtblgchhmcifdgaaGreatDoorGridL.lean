import Derived.Test.YtblgchhmcifdgaaGreatDoorMin
import Derived.Test.YtblgchhmcifdgaaGreatDoorKFreq
import Derived.Test.YtblgchhmcifdgaaGreatDoorKEdges
set_option linter.unusedSimpArgs false
set_option linter.unusedVariables false
namespace Go.Proofs.YtblgchhmcifdgaaGreatDoor
open Go.RowKit Go.Sort Go.Shelf Go.Grid

/-- The shares of a place: ascending, those of locRaw. -/
def IsLoc (n : Nat) (p : Pl) (S : List (Nat × Nat)) : Prop := S.Perm (locRaw n p) ∧ Asc S
theorem IsLoc.unique {n : Nat} {p : Pl} {S T : List (Nat × Nat)} (h1 : IsLoc n p S) (h2 : IsLoc n p T) : S = T := asc_unique h1.2 h2.2 (h1.1.trans h2.1.symm)
/-- What grid.Index says of a place. -/
def idxErr (n : Nat) (p : Pl) : Int := if (ix (nodesL n) (normal p)).isSome then 0 else 9

end Go.Proofs.YtblgchhmcifdgaaGreatDoor
