import Derived.Test.YtojkamfabapcoaaGreatDoorKInts
import Derived.Test.YtojkamfabapcoaaGreatDoorKCodes
import Derived.Test.YtojkamfabapcoaaGreatDoorKLin
import Derived.Test.YtojkamfabapcoaaGreatDoorKDot
import Derived.Test.YtojkamfabapcoaaGreatDoorApply
set_option linter.unusedSimpArgs false
set_option linter.unusedVariables false
namespace Go.Proofs.YtojkamfabapcoaaGreatDoor
open Go.RowKit Go.Grid Go.Maps Go.Sort Go.Shelf

/-! The contracts with the lengths as letters. -/
end Go.Proofs.YtojkamfabapcoaaGreatDoor
