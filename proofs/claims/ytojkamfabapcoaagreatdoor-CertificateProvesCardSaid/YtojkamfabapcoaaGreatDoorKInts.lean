import Derived.Test.YtojkamfabapcoaaGreatDoorVecs
set_option linter.unusedSimpArgs false
set_option linter.unusedVariables false
namespace Go.Proofs.YtojkamfabapcoaaGreatDoor
open Go.RowKit

end Go.Proofs.YtojkamfabapcoaaGreatDoor
