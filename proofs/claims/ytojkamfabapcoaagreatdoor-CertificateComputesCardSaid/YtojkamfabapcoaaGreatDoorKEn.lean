import Derived.Test.YtojkamfabapcoaaGreatDoorKRVec
import Derived.Test.YtojkamfabapcoaaGreatDoorKCost
import Derived.Test.YtojkamfabapcoaaGreatDoorKDot
import Derived.Test.YtojkamfabapcoaaGreatDoorKCodes
import Derived.Test.YtojkamfabapcoaaGreatDoorKAwake
import Derived.Test.YtojkamfabapcoaaGreatDoorKLists
set_option maxRecDepth 100000
set_option maxHeartbeats 8000000
set_option linter.unusedSimpArgs false
set_option linter.unusedVariables false
namespace Go.Proofs.YtojkamfabapcoaaGreatDoor
open Go.RowKit Go.Grid Go.Maps Go.Sort Go.Shelf
def applyV (f s a:Int) (zs:List Int):List Int:=if VecOk f s a zs then applyL s a zs (edgesL f.toNat) else []
def energyV (f s a:Int) (zs:List Int):Int:=if VecOk f s a zs then energyL s a zs (edgesL f.toNat) else 0
theorem vecErr_no {f s a:Int} {zs:List Int} (h:¬ VecOk f s a zs):vecErr f s a zs=1:=if_neg h
end Go.Proofs.YtojkamfabapcoaaGreatDoor
