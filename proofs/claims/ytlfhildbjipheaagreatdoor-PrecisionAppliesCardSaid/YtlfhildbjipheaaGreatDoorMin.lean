import Derived.Test.YtlfhildbjipheaaGreatDoorLocate
set_option linter.unusedSimpArgs false
set_option linter.unusedVariables false
namespace Go.Proofs.YtlfhildbjipheaaGreatDoor
open Go.RowKit Go.Sort Go.Shelf Go.Grid

end Go.Proofs.YtlfhildbjipheaaGreatDoor
