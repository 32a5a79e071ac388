import Derived.Test.YtojkamfabapcoaaGreatDoorKCodes
import Derived.Test.YtojkamfabapcoaaGreatDoorKPrec
import Derived.Test.YtojkamfabapcoaaGreatDoorKLin
import Derived.Test.YtojkamfabapcoaaGreatDoorKDot
import Derived.Test.YtojkamfabapcoaaGreatDoorApply
set_option maxRecDepth 100000
set_option maxHeartbeats 8000000
set_option linter.unusedSimpArgs false
set_option linter.unusedVariables false
namespace Go.Proofs.YtojkamfabapcoaaGreatDoor
open Go.RowKit
theorem RowV.vec {w:World} {base:Nat} {v:Value} {zs:List Int} (h:RowV w base v zs):∃ p cap,v=.slice p zs.length cap∧VecAt w p zs:=by
 obtain⟨p,cap,b,rfl,_,h1,h2⟩:=h.form
 exact⟨p,cap,rfl,b,0,fun h0=>(h1 h0).1,fun j hj=>(h2 j hj).1⟩
def halvesL (zs:List Int):List Int:=zs.map (fun x=>x.tdiv 2)
open Go.RowKit Go.Grid Go.Maps Go.Sort Go.Shelf
theorem small_within {zs:List Int} (h:Within 1048576 zs):Small zs:=fun x hx=>by have:=h x hx;omega
theorem i64_within {m:Nat} {zs:List Int} (h:Within m zs) (hm:m≤9223372036854775807):I64L zs:=fun x hx=>by have:=h x hx;omega
theorem vec_of_ints {w:World} {b:Nat} {zs:List Int} (h:IntsAt w b 0 zs):VecAt w (some ⟨b,0,none⟩) zs:=⟨b,0,fun _=>rfl,fun j hj=>(h j hj).1⟩
theorem RowV.vecAt {w:World} {base:Nat} {p:Option Addr} {n c:Nat} {zs:List Int} (h:RowV w base (.slice p n c) zs):VecAt w p zs:=by
 obtain⟨p',cap',e,hv⟩:=h.vec
 injection e with e1
 rw[e1];exact hv
theorem dot_at (p q:Option Addr) (zs ys:List Int) (cz cy n:Nat) (w:World) (h1:zs.length=n) (h2:ys.length=n) (hV:VecAt w p zs) (hU:VecAt w q ys) (hl:n≤1000) (bz:I64L zs) (bY:I64L ys) :
  Calls Tryz.prog 93 #[.slice p n cz,.slice q n cy] w fun e w'=>e=.returned (.tuple #[wv (dotL zs ys),.int .i64 0])∧Below w.heap.size w w':=by
 subst h1;exact dot_ok p q zs ys cz cy w hV hU h2.symm (by omega) bz bY
end Go.Proofs.YtojkamfabapcoaaGreatDoor
