import Derived.Test.YtblgchhmcifdgaaGreatDoorLocate
set_option linter.unusedSimpArgs false
set_option linter.unusedVariables false
namespace Go.Proofs.YtblgchhmcifdgaaGreatDoor
open Go.RowKit Go.Sort Go.Shelf Go.Grid

end Go.Proofs.YtblgchhmcifdgaaGreatDoor
