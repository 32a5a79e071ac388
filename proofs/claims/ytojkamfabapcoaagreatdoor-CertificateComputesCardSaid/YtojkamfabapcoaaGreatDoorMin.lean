import Derived.Test.YtojkamfabapcoaaGreatDoorLocate
set_option maxRecDepth 100000
set_option maxHeartbeats 8000000
set_option linter.unusedSimpArgs false
set_option linter.unusedVariables false
namespace Go.Proofs.YtojkamfabapcoaaGreatDoor
open Go.RowKit Go.Sort Go.Shelf Go.Grid
end Go.Proofs.YtojkamfabapcoaaGreatDoor
