import Derived.Test.YtojkamfabapcoaaGreatDoorKSum
import Derived.Test.YtojkamfabapcoaaGreatDoorKAwake
set_option maxRecDepth 100000
set_option maxHeartbeats 8000000
set_option linter.unusedSimpArgs false
set_option linter.unusedVariables false
namespace Go.Proofs.YtojkamfabapcoaaGreatDoor
open Go.RowKit
theorem product_wv (a b:Int) (w:World) (ha:-9223372036854775808≤a) (ha':a≤9223372036854775807) (hb:-9223372036854775808≤b) (hb':b≤9223372036854775807) :
  Calls Tryz.prog 39 #[.int .i64 a,.int .i64 b] w fun e w'=>e=.returned (wv (a*b))∧Below w.heap.size w w':=by
 refine (product_any a b w ha ha' hb hb').mono ?_
 rintro e w' ⟨rfl,h⟩
 refine⟨?_,h⟩
 obtain⟨b1,b2⟩:=mul_bound a b ha ha' hb hb'
 have g1:wrap64 (a*b / 18446744073709551616)=a*b / 18446744073709551616:=by unfold wrap64;omega
 unfold wv;rw[g1]
theorem compare_wv (p q:Int) (w:World) (hp:-170141183460469231731687303715884105728≤p) (hp':p < 170141183460469231731687303715884105728) (hq:-170141183460469231731687303715884105728≤q) (hq':q < 170141183460469231731687303715884105728) :
  Calls Tryz.prog 86 #[wv p,wv q] w fun e w'=>e=.returned (.int .i64 (sgn p q))∧Below w.heap.size w w':=by
 refine (compare_any _ _ _ _ w).mono ?_
 rintro e w' ⟨rfl,h⟩
 refine⟨?_,h⟩
 have g1:wrap64 (p / 18446744073709551616)=p / 18446744073709551616:=by unfold wrap64;omega
 have g2:wrap64 (q / 18446744073709551616)=q / 18446744073709551616:=by unfold wrap64;omega
 rw[g1,g2,cmpW_num _ _ _ _ (by omega) (by omega) (by omega) (by omega),
  show p / 18446744073709551616*18446744073709551616+p % 18446744073709551616=p by omega,show q / 18446744073709551616*18446744073709551616+q % 18446744073709551616=q by omega]
end Go.Proofs.YtojkamfabapcoaaGreatDoor
