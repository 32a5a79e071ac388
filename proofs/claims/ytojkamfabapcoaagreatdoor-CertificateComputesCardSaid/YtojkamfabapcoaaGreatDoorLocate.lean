import Derived.Test.YtojkamfabapcoaaGreatDoorSortS
import Derived.Test.YtojkamfabapcoaaGreatDoorWard
import Derived.Test.YtojkamfabapcoaaGreatDoorKSrc
import Derived.Test.YtojkamfabapcoaaGreatDoorRg
import Derived.Test.YtojkamfabapcoaaGreatDoorKFreq
import Derived.Test.YtojkamfabapcoaaGreatDoorKEdges
import Derived.Deep.DeepCutAuto
set_option maxRecDepth 100000
set_option maxHeartbeats 8000000
set_option linter.unusedSimpArgs false
set_option linter.unusedVariables false
namespace Go.Proofs.YtojkamfabapcoaaGreatDoor
open Go.RowKit Go.Sort Go.Shelf Go.Grid
theorem elSh:RX.ElemOf Tryz.prog 43 90 (.agg #[.int .i64 0,.int .i64 0]) 2 16:=⟨Tryz.underlying43,by kernel_rfl,rfl,by decide⟩
end Go.Proofs.YtojkamfabapcoaaGreatDoor
