import Derived.Test.YtednaajanciabaaGreatDoorKEdges
import Derived.Test.YtednaajanciabaaGreatDoorKFreq
import Derived.Test.YtednaajanciabaaGreatDoorBuild2
import Derived.Test.YtednaajanciabaaGreatDoorKRegion
set_option maxRecDepth 100000
set_option maxHeartbeats 8000000
set_option linter.unusedSimpArgs false
set_option linter.unusedVariables false
namespace Go.Proofs.YtednaajanciabaaGreatDoor
open Go.RowKit Go.Grid Go.Maps Go.Sort Go.Shelf
def prv (f s a:Int):Value:=.agg #[.int .i64 f,.int .i64 s,.int .i64 a]
def PrOk (f s a:Int):Prop:=1≤f∧f≤8∧0≤s∧s≤1000000∧1≤a∧a≤1000000
instance (f s a:Int):Decidable (PrOk f s a):=by unfold PrOk;infer_instance
def prErr (f s a:Int):Int:=if PrOk f s a then 0 else 1
def Small (zs:List Int):Prop:=∀ x∈zs,-1048576≤x∧x≤1048576
instance (zs:List Int):Decidable (Small zs):=by unfold Small;infer_instance
def VecOk (f s a:Int) (zs:List Int):Prop:=PrOk f s a∧(zs.length:Int)=10*f*f+2∧Small zs
instance (f s a:Int) (zs:List Int):Decidable (VecOk f s a zs):=by unfold VecOk;infer_instance
def vecErr (f s a:Int) (zs:List Int):Int:=if VecOk f s a zs then 0 else 1
end Go.Proofs.YtednaajanciabaaGreatDoor
