import Derived.Test.YtojkamfabapcoaaGreatDoorKSum
import Derived.Test.YtojkamfabapcoaaGreatDoorKOpenV
import Derived.Test.YtojkamfabapcoaaGreatDoorKDot
import Derived.ProofKit
import Derived.OpenShut
import Derived.Lib.SmallJoins
import Derived.Deep.Slices
set_option maxRecDepth 100000
set_option maxHeartbeats 8000000
set_option linter.unusedSimpArgs false
set_option linter.unusedVariables false
namespace Go.Proofs.YtojkamfabapcoaaGreatDoor
open Go.ChangeShapes Go.WideShapes Go.ChangeAt Go.RowKit Go.Joins Go.Deep
end Go.Proofs.YtojkamfabapcoaaGreatDoor
