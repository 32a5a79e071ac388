import Derived.WalkKit
import Derived.Laws.Bits64
import Derived.Test.YtojkamfabapcoaaGreatDoorProg
import Derived.Test.YtojkamfabapcoaaGreatDoorKRegion
import Derived.WalkLawsBesides
import Derived.WalkSpells
import Derived.Lib.Hide
set_option maxRecDepth 100000
set_option maxHeartbeats 8000000
set_option linter.unusedVariables false
set_option linter.unusedSimpArgs false
namespace Go.Proofs.YtojkamfabapcoaaGreatDoor
open Go.RowKit
theorem mul_bound (a b:Int) (ha:-9223372036854775808≤a) (ha':a≤9223372036854775807) (hb:-9223372036854775808≤b) (hb':b≤9223372036854775807) :
  -85070591730234615865843651857942052864≤a*b∧a*b≤85070591730234615865843651857942052864:=by
 have h1:(a*b).natAbs≤9223372036854775808*9223372036854775808:=by
  rw[Int.natAbs_mul]
  exact Nat.mul_le_mul (by omega) (by omega)
 omega
theorem i64_of_mod (v q k:Int) (h:v=q+k*18446744073709551616) (h1:-9223372036854775808≤q) (h2:q≤9223372036854775807):IntKind.i64.wrap v=q:=by
 rw[IntKind.wrap_i64];subst h;omega
theorem u64_sub (v:Int):∃ k:Int,IntKind.u64.wrap v=v+k*18446744073709551616:=
 ⟨-(v / 18446744073709551616),by rw[IntKind.wrap_u64];omega⟩
theorem prod_halves (a b:Int) (x y H L:Nat) (sa sb:Int) (ha:-9223372036854775808≤a) (ha':a≤9223372036854775807) (hb:-9223372036854775808≤b) (hb':b≤9223372036854775807)
  (hsa:sa=0∨sa=1) (hsb:sb=0∨sb=1) (hx:(x:Int)=a+sa*18446744073709551616) (hy:(y:Int)=b+sb*18446744073709551616)
  (hP:x*y=H*18446744073709551616+L) (hL:L < 18446744073709551616) (v k:Int) (hv:v=H-sa*y-sb*x+k*18446744073709551616) :
  IntKind.i64.wrap v=a*b / 18446744073709551616∧(L:Int)=a*b % 18446744073709551616:=by
 obtain⟨b1,b2⟩:=mul_bound a b ha ha' hb hb'
 have hP':(x:Int)*y=H*18446744073709551616+L:=by rw[←Int.natCast_mul,hP];omega
 have e1:a=x-sa*18446744073709551616:=by omega
 have e2:b=y-sb*18446744073709551616:=by omega
 have key:a*b=(H-sa*y-sb*x+sa*sb*18446744073709551616)*18446744073709551616+L:=by
  rw[e1,e2,Int.sub_mul,Int.mul_sub,Int.mul_sub,hP']
  rcases hsa with rfl|rfl<;>rcases hsb with rfl|rfl<;>omega
 generalize a*b=p at *
 have hq:p / 18446744073709551616=H-sa*y-sb*x+sa*sb*18446744073709551616:=by omega
 refine⟨?_,by omega⟩
 rw[hq]
 refine i64_of_mod v _ (k-sa*sb) ?_ (by omega) (by omega)
 rw[hv,Int.sub_mul]
 omega
theorem u64_nat (a:Int) (ha:-9223372036854775808≤a) (ha':a≤9223372036854775807):∃ x:Nat,IntKind.u64.wrap a=(x:Int)∧x < 18446744073709551616∧(x:Int)=a+(if a < 0 then 1 else 0)*18446744073709551616:=by
 refine⟨(a % 18446744073709551616).toNat,?_,by omega,?_⟩
 ·rw[IntKind.wrap_u64];omega
 ·split<;>omega
theorem mid_wrap (i j:Nat) (h:i+j < 18446744073709551616):wrap64 (IntKind.u64.wrap (wrap64 ((i:Int)+(j:Int))) / 2)=(((i+j) / 2:Nat):Int):=by
 rw[IntKind.wrap_u64];unfold wrap64;omega
def sgn (x y:Int):Int:=if x < y then -1 else if y < x then 1 else 0
def orL:List Int→Int
 |[]=>0
 |x :: r=>if x=0 then orL r else x
def cmpW (h1 l1 h2 l2:Int):Int:=orL [sgn h1 h2,sgn l1 l2]
theorem cmpW_num (h1 l1 h2 l2:Int) (a1:0≤l1) (a2:l1 < 18446744073709551616) (b1:0≤l2) (b2:l2 < 18446744073709551616) :
  cmpW h1 l1 h2 l2=sgn (h1*18446744073709551616+l1) (h2*18446744073709551616+l2):=by
 unfold cmpW sgn
 simp only[orL]
 (repeat' split)<;>omega
theorem cmpW_div (p h2 l2:Int) (b1:0≤l2) (b2:l2 < 18446744073709551616):cmpW (p / 18446744073709551616) (p % 18446744073709551616) h2 l2=sgn p (h2*18446744073709551616+l2):=by
 rw[cmpW_num _ _ _ _ (by omega) (by omega) b1 b2]
 congr 1;omega
theorem nan_int (x:Int) (w:World):Calls Tryz.prog 135 #[.int .i64 x] w fun e w'=>e=.returned (.bool false)∧w=w':=by
 have h:(x != x)=false:=by simp
 go_enter Tryz.func135,Tryz.ntmps135
 go_wp2
 go_ret
 exact⟨rfl,rfl⟩
theorem nan_u64 (x:Int) (w:World):Calls Tryz.prog 136 #[.int .u64 x] w fun e w'=>e=.returned (.bool false)∧w=w':=by
 have h:(x != x)=false:=by simp
 go_enter Tryz.func136,Tryz.ntmps136
 go_wp2
 go_ret
 exact⟨rfl,rfl⟩
theorem cmp_int (x y:Int) (w:World):Calls Tryz.prog 116 #[.int .i64 x,.int .i64 y] w fun e w'=>e=.returned (.int .i64 (sgn x y))∧w=w':=by
 unfold sgn
 by_cases h:x < y
 ·rw[if_pos h]
  go_enter Tryz.func116,Tryz.ntmps116
  go_wp2_with (go_at_call 135;refine (nan_int _ _).mono ?_;rintro e w' ⟨rfl,rfl⟩)
  go_ret
  exact⟨rfl,rfl⟩
 ·rw[if_neg h]
  by_cases h2:y < x
  ·rw[if_pos h2]
   go_enter Tryz.func116,Tryz.ntmps116
   go_wp2_with (go_at_call 135;refine (nan_int _ _).mono ?_;rintro e w' ⟨rfl,rfl⟩)
   go_ret
   exact⟨rfl,rfl⟩
  ·rw[if_neg h2]
   go_enter Tryz.func116,Tryz.ntmps116
   go_wp2_with (go_at_call 135;refine (nan_int _ _).mono ?_;rintro e w' ⟨rfl,rfl⟩)
   go_ret
   exact⟨rfl,rfl⟩
theorem cmp_u64 (x y:Int) (w:World):Calls Tryz.prog 117 #[.int .u64 x,.int .u64 y] w fun e w'=>e=.returned (.int .i64 (sgn x y))∧w=w':=by
 unfold sgn
 by_cases h:x < y
 ·rw[if_pos h]
  go_enter Tryz.func117,Tryz.ntmps117
  go_wp2_with (go_at_call 136;refine (nan_u64 _ _).mono ?_;rintro e w' ⟨rfl,rfl⟩)
  go_ret
  exact⟨rfl,rfl⟩
 ·rw[if_neg h]
  by_cases h2:y < x
  ·rw[if_pos h2]
   go_enter Tryz.func117,Tryz.ntmps117
   go_wp2_with (go_at_call 136;refine (nan_u64 _ _).mono ?_;rintro e w' ⟨rfl,rfl⟩)
   go_ret
   exact⟨rfl,rfl⟩
  ·rw[if_neg h2]
   go_enter Tryz.func117,Tryz.ntmps117
   go_wp2_with (go_at_call 136;refine (nan_u64 _ _).mono ?_;rintro e w' ⟨rfl,rfl⟩)
   go_ret
   exact⟨rfl,rfl⟩
theorem orL_skip:∀ (zs:List Int) (k:Nat),(∀ j,j < k→zs[j]?=some 0)→orL zs=orL (zs.drop k)
 |_,0,_=>by simp
 |[],k+1,h=>by have:=h 0 (by omega);simp at this
 |z :: zs,k+1,h=>by
  have h0:z=0:=by have:=h 0 (by omega);simpa using this
  subst h0
  simp only[orL,if_true,List.drop_succ_cons]
  exact orL_skip zs k fun j hj=>by have:=h (j+1) (by omega);simpa using this
theorem or_int (g n c:Nat) (zs:List Int) (w:World) (hn:n=zs.length) (hc:∀ j v,zs[j]?=some v→w.cell? ⟨g,j,none⟩=some (.int .i64 v)) (hl:n≤100) :
  Calls Tryz.prog 115 #[.slice (some ⟨g,0,none⟩) n c] w fun e w'=>e=.returned (.int .i64 (orL zs))∧w=w':=by
 have HC:=zN hc
 have HN:=zN hn
 clear hc hn
 go_enter Tryz.func115,Tryz.ntmps115
 go_wp2
 go_loop [8] (fun i=>∃ k:Nat,k≤n∧i=.int .i64 k∧Hid (∀ j,j < k→zs[j]?=some 0)) (fun i=>n-(intOf i).toNat)
 case atStart=>exact⟨0,Nat.zero_le _,rfl,zN fun j hj=>by omega⟩
 case round=>
  obtain⟨k,hk,rfl,HZ⟩:=hrel
  by_cases hlt:k < n
  ·obtain⟨z,hz⟩:∃ z,zs[k]?=some z:=⟨_,List.getElem?_eq_getElem (by rw[←HN.out];exact hlt)⟩
   have hck:=HC.out k z hz
   have HZK:=zN hz
   clear hz
   by_cases h0:z=0
   ·subst h0
    go_wp2
    go_round
    case rel=>exact⟨k+1,by omega,by go_num,zN fun j hj=>by
     by_cases hjk:j < k
     ·exact HZ.out j hjk
     ·obtain rfl:j=k:=by omega
      exact HZK.out⟩
    case measure=>simp[intOf];omega
   ·have hne:(z != 0)=true:=by simpa using h0
    have HE:Hid (orL zs=z):=by
     show _=_
     rw[orL_skip zs k HZ.out,List.drop_eq_getElem_cons (by rw[←HN.out];exact hlt)]
     have:zs[k]'(by rw[←HN.out];exact hlt)=z:=by
      have:=HZK.out;rw[List.getElem?_eq_getElem (by rw[←HN.out];exact hlt)] at this;injection this
     rw[this,orL,if_neg h0]
    go_wp2
    go_ret
    rw[HE.out]
    exact⟨rfl,rfl⟩
  ·obtain rfl:k=n:=by omega
   have HE:Hid (orL zs=0):=by
    show _=_
    rw[orL_skip zs k HZ.out,HN.out,List.drop_length];rfl
   go_wp2
   go_ret
   rw[HE.out]
   exact⟨rfl,rfl⟩
end Go.Proofs.YtojkamfabapcoaaGreatDoor
