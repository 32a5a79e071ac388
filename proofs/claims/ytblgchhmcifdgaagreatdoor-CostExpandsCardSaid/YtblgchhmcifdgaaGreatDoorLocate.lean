import Derived.Test.YtblgchhmcifdgaaGreatDoorSortS
import Derived.Test.YtblgchhmcifdgaaGreatDoorWard
import Derived.Test.YtblgchhmcifdgaaGreatDoorKSrc
import Derived.Test.YtblgchhmcifdgaaGreatDoorRg
import Derived.Test.YtblgchhmcifdgaaGreatDoorKFreq
import Derived.Test.YtblgchhmcifdgaaGreatDoorKEdges
import Derived.Deep.DeepCutAuto
set_option linter.unusedSimpArgs false
set_option linter.unusedVariables false
namespace Go.Proofs.YtblgchhmcifdgaaGreatDoor
open Go.RowKit Go.Sort Go.Shelf Go.Grid

theorem elSh : RX.ElemOf Tryz.prog 41 94 (.agg #[.int .i64 0, .int .i64 0]) 2 16 := ⟨Tryz.underlying41, by kernel_rfl, rfl, by decide⟩

end Go.Proofs.YtblgchhmcifdgaaGreatDoor
