import Derived.Test.YtojkamfabapcoaaGreatDoorKSum
import Derived.Test.YtojkamfabapcoaaGreatDoorKOpenV
import Derived.Test.YtojkamfabapcoaaGreatDoorKDot
import Derived.ProofKit
import Derived.OpenShut
import Derived.Lib.SmallJoins
import Derived.Deep.Slices
set_option maxRecDepth 100000
set_option maxHeartbeats 8000000
set_option linter.unusedSimpArgs false
set_option linter.unusedVariables false
namespace Go.Proofs.YtojkamfabapcoaaGreatDoor
open Go.ChangeShapes Go.WideShapes Go.ChangeAt Go.RowKit Go.Joins Go.Deep
theorem cellsWide:Tryz.prog.cellsOf 56=2:=by kernel_rfl
theorem open_wide {H:Type} {enc:TypeId × Value→H} {W:World} {r:Reach} {base:Nat} {v:Value} {d:DataW H} {p:List MemPlace} (hval:Value.okWide Tryz.prog W r base 56 v) (h:DataW.Trod enc Tryz.prog W 0 (fun _=>true) true 56 v d p) :
  ∃ q:Int,v=wv q:=by
 obtain⟨c0,c1,y0,y1,m,rfl,rfl,rfl,hy0,hy1⟩:=open_agg2 Tryz.underlying56 (by kernel_rfl) cellsWide hval h
 obtain⟨a,e0,rfl,wa⟩:=DataW.trod_int Tryz.underlying3 hy0
 obtain⟨b,e1,rfl,wb⟩:=DataW.trod_int Tryz.underlying54 hy1
 simp at e0 e1
 subst e0 e1
 have ba:=bounds_i64 wa
 have bb:=bounds_u64 wb
 exact⟨_,wv_of a b (by omega) (by omega) (by omega) (by omega)⟩
end Go.Proofs.YtojkamfabapcoaaGreatDoor
