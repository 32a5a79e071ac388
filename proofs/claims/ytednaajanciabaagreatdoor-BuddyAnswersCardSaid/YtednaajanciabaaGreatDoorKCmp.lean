import Derived.WalkKit
import Derived.Laws.Bits64
import Derived.Test.YtednaajanciabaaGreatDoorProg
import Derived.Test.YtednaajanciabaaGreatDoorKRegion
import Derived.WalkLawsBesides
import Derived.WalkSpells
import Derived.Lib.Hide
set_option maxRecDepth 100000
set_option maxHeartbeats 8000000
set_option linter.unusedVariables false
set_option linter.unusedSimpArgs false
namespace Go.Proofs.YtednaajanciabaaGreatDoor
open Go.RowKit
def sgn (x y:Int):Int:=if x < y then -1 else if y < x then 1 else 0
def orL:List Int→Int
 |[]=>0
 |x :: r=>if x=0 then orL r else x
def cmpW (h1 l1 h2 l2:Int):Int:=orL [sgn h1 h2,sgn l1 l2]
theorem nan_int (x:Int) (w:World):Calls Tryz.prog 71 #[.int .i64 x] w fun e w'=>e=.returned (.bool false)∧w=w':=by
 have h:(x != x)=false:=by simp
 go_enter Tryz.func71,Tryz.ntmps71
 go_wp2
 go_ret
 exact⟨rfl,rfl⟩
theorem cmp_int (x y:Int) (w:World):Calls Tryz.prog 47 #[.int .i64 x,.int .i64 y] w fun e w'=>e=.returned (.int .i64 (sgn x y))∧w=w':=by
 unfold sgn
 by_cases h:x < y
 ·rw[if_pos h]
  go_enter Tryz.func47,Tryz.ntmps47
  go_wp2_with (go_at_call 71;refine (nan_int _ _).mono ?_;rintro e w' ⟨rfl,rfl⟩)
  go_ret
  exact⟨rfl,rfl⟩
 ·rw[if_neg h]
  by_cases h2:y < x
  ·rw[if_pos h2]
   go_enter Tryz.func47,Tryz.ntmps47
   go_wp2_with (go_at_call 71;refine (nan_int _ _).mono ?_;rintro e w' ⟨rfl,rfl⟩)
   go_ret
   exact⟨rfl,rfl⟩
  ·rw[if_neg h2]
   go_enter Tryz.func47,Tryz.ntmps47
   go_wp2_with (go_at_call 71;refine (nan_int _ _).mono ?_;rintro e w' ⟨rfl,rfl⟩)
   go_ret
   exact⟨rfl,rfl⟩
theorem orL_skip:∀ (zs:List Int) (k:Nat),(∀ j,j < k→zs[j]?=some 0)→orL zs=orL (zs.drop k)
 |_,0,_=>by simp
 |[],k+1,h=>by have:=h 0 (by omega);simp at this
 |z :: zs,k+1,h=>by
  have h0:z=0:=by have:=h 0 (by omega);simpa using this
  subst h0
  simp only[orL,if_true,List.drop_succ_cons]
  exact orL_skip zs k fun j hj=>by have:=h (j+1) (by omega);simpa using this
theorem or_int (g n c:Nat) (zs:List Int) (w:World) (hn:n=zs.length) (hc:∀ j v,zs[j]?=some v→w.cell? ⟨g,j,none⟩=some (.int .i64 v)) (hl:n≤100) :
  Calls Tryz.prog 46 #[.slice (some ⟨g,0,none⟩) n c] w fun e w'=>e=.returned (.int .i64 (orL zs))∧w=w':=by
 have HC:=zN hc
 have HN:=zN hn
 clear hc hn
 go_enter Tryz.func46,Tryz.ntmps46
 go_wp2
 go_loop [8] (fun i=>∃ k:Nat,k≤n∧i=.int .i64 k∧Hid (∀ j,j < k→zs[j]?=some 0)) (fun i=>n-(intOf i).toNat)
 case atStart=>exact⟨0,Nat.zero_le _,rfl,zN fun j hj=>by omega⟩
 case round=>
  obtain⟨k,hk,rfl,HZ⟩:=hrel
  by_cases hlt:k < n
  ·obtain⟨z,hz⟩:∃ z,zs[k]?=some z:=⟨_,List.getElem?_eq_getElem (by rw[←HN.out];exact hlt)⟩
   have hck:=HC.out k z hz
   have HZK:=zN hz
   clear hz
   by_cases h0:z=0
   ·subst h0
    go_wp2
    go_round
    case rel=>exact⟨k+1,by omega,by go_num,zN fun j hj=>by
     by_cases hjk:j < k
     ·exact HZ.out j hjk
     ·obtain rfl:j=k:=by omega
      exact HZK.out⟩
    case measure=>simp[intOf];omega
   ·have hne:(z != 0)=true:=by simpa using h0
    have HE:Hid (orL zs=z):=by
     show _=_
     rw[orL_skip zs k HZ.out,List.drop_eq_getElem_cons (by rw[←HN.out];exact hlt)]
     have:zs[k]'(by rw[←HN.out];exact hlt)=z:=by
      have:=HZK.out;rw[List.getElem?_eq_getElem (by rw[←HN.out];exact hlt)] at this;injection this
     rw[this,orL,if_neg h0]
    go_wp2
    go_ret
    rw[HE.out]
    exact⟨rfl,rfl⟩
  ·obtain rfl:k=n:=by omega
   have HE:Hid (orL zs=0):=by
    show _=_
    rw[orL_skip zs k HZ.out,HN.out,List.drop_length];rfl
   go_wp2
   go_ret
   rw[HE.out]
   exact⟨rfl,rfl⟩
end Go.Proofs.YtednaajanciabaaGreatDoor
