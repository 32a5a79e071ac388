import Derived.Test.YtojkamfabapcoaaGreatDoorKSum
import Derived.Test.YtojkamfabapcoaaGreatDoorKAwake
set_option maxRecDepth 100000
set_option maxHeartbeats 8000000
set_option linter.unusedSimpArgs false
set_option linter.unusedVariables false
namespace Go.Proofs.YtojkamfabapcoaaGreatDoor
open Go.RowKit
theorem product_wv (a b:Int) (w:World) (ha:-9223372036854775808≤a) (ha':a≤9223372036854775807) (hb:-9223372036854775808≤b) (hb':b≤9223372036854775807) :
  Calls Tryz.prog 39 #[.int .i64 a,.int .i64 b] w fun e w'=>e=.returned (wv (a*b))∧Below w.heap.size w w':=by
 refine (product_any a b w ha ha' hb hb').mono ?_
 rintro e w' ⟨rfl,h⟩
 refine⟨?_,h⟩
 obtain⟨b1,b2⟩:=mul_bound a b ha ha' hb hb'
 have g1:wrap64 (a*b / 18446744073709551616)=a*b / 18446744073709551616:=by unfold wrap64;omega
 unfold wv;rw[g1]
end Go.Proofs.YtojkamfabapcoaaGreatDoor
