import Derived.Test.YtojkamfabapcoaaGreatDoorMin
import Derived.Test.YtojkamfabapcoaaGreatDoorKFreq
import Derived.Test.YtojkamfabapcoaaGreatDoorKEdges
set_option maxRecDepth 100000
set_option maxHeartbeats 8000000
set_option linter.unusedSimpArgs false
set_option linter.unusedVariables false
namespace Go.Proofs.YtojkamfabapcoaaGreatDoor
open Go.RowKit Go.Sort Go.Shelf Go.Grid
def IsLoc (n:Nat) (p:Pl) (S:List (Nat × Nat)):Prop:=S.Perm (locRaw n p)∧Asc S
def idxErr (n:Nat) (p:Pl):Int:=if (ix (nodesL n) (normal p)).isSome then 0 else 9
end Go.Proofs.YtojkamfabapcoaaGreatDoor
