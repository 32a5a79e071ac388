import Derived.Test.YtojkamfabapcoaaGreatDoorKCmp
import Derived.Test.YtojkamfabapcoaaGreatDoorLaid
import Derived.Test.YtojkamfabapcoaaGreatDoorLaidAdd
set_option linter.unusedSimpArgs false
set_option linter.unusedVariables false
namespace Go.Proofs.YtojkamfabapcoaaGreatDoor
open Go.RowKit

end Go.Proofs.YtojkamfabapcoaaGreatDoor

set_option linter.unusedSimpArgs false
set_option linter.unusedVariables false
namespace Go.Proofs.YtojkamfabapcoaaGreatDoor
open Go.RowKit

/-- The integer of 128 bits that p leaves. -/
def wv (p : Int) : Value := .agg #[.int .i64 (wrap64 (p / 18446744073709551616)), .int .u64 (p % 18446744073709551616)]
end Go.Proofs.YtojkamfabapcoaaGreatDoor
