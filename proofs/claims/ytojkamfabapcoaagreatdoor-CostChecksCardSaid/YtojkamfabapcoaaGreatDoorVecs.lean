import Derived.Test.YtojkamfabapcoaaGreatDoorKCodes
import Derived.Test.YtojkamfabapcoaaGreatDoorKPrec
import Derived.Test.YtojkamfabapcoaaGreatDoorKLin
set_option linter.unusedSimpArgs false
set_option linter.unusedVariables false
namespace Go.Proofs.YtojkamfabapcoaaGreatDoor
open Go.RowKit

def halvesL (zs : List Int) : List Int := zs.map (fun x => x.tdiv 2)

end Go.Proofs.YtojkamfabapcoaaGreatDoor
