import Derived.Test.YtednaajanciabaaGreatDoorKRefB
import Derived.Test.YtednaajanciabaaGreatDoorKPlainG
import Derived.Test.YtednaajanciabaaGreatDoorKCopy
import Derived.Laws.CopyRow
import Derived.Laws.CopyOwn
import Derived.Deep.DeepCutAuto
import Derived.Test.YtednaajanciabaaGreatDoorKEdges
import Derived.Test.YtednaajanciabaaGreatDoorKFreq
import Derived.BigQuiet
import Derived.Deep.QuietTactic
set_option maxRecDepth 100000
set_option maxHeartbeats 8000000
set_option linter.unusedSimpArgs false
set_option linter.unusedVariables false
namespace Go.Proofs.YtednaajanciabaaGreatDoor
open Go.RowKit Go.Grid Go.Maps Go.Sort Go.Shelf
theorem elCell3:RX.ElemOf Tryz.prog 111 136 (.agg #[.int .i64 0,.int .i64 0,.int .i64 0]) 3 24:=⟨Tryz.underlying111,by kernel_rfl,rfl,by decide⟩
def CeRow (w:World) (base:Nat) (v:Value) (C:List I3):Prop:=w.ownsRow base 136 3 v C.length (C.flatMap enc3)
theorem CeRow.nil (w:World) (base:Nat):CeRow w base (.slice none 0 0) []:=World.ownsRow_nil _ _ _ _
theorem CeRow.kept {w w':World} {base:Nat} {v:Value} {C:List I3} (h:CeRow w base v C) (hb:Below w.heap.size w w'):CeRow w' base v C:=
 World.ownsRow.kept (row:=none) h ⟨hb.os,hb.tape,hb.output,hb.size,fun k hk _=>hb.block k hk⟩ (by
  cases v.ownBlock with
  |none=>exact .inl rfl
  |some k=>exact .inr (by simp))
theorem CeRow.mono {w:World} {base base':Nat} {v:Value} {C:List I3} (h:CeRow w base v C) (hb:base'≤base):CeRow w base' v C:=own_mono h hb
theorem enc3_len (C:List I3):(C.flatMap enc3).length=C.length*3:=by
 induction C with
 |nil=>rfl
 |cons p C ih=>rw[List.flatMap_cons,List.length_append,ih];simp[enc3];omega
theorem enc3_get:∀ (C:List I3) (m:Nat) (h:m < C.length) (j:Nat),j < 3→(C.flatMap enc3)[m*3+j]?=(enc3 C[m])[j]?
 |p :: L,0,h,j,hj=>by
  simp only[List.flatMap_cons,Nat.zero_mul,Nat.zero_add]
  rw[List.getElem?_append_left (by simp[enc3];omega)];rfl
 |p :: L,m+1,h,j,hj=>by
  have ih:=enc3_get L m (by simpa using h) j hj
  simp only[List.flatMap_cons]
  rw[List.getElem?_append_right (by simp[enc3];omega),show (m+1)*3+j-(enc3 p).length=m*3+j by simp[enc3];omega,ih];rfl
theorem enc3_drop (C:List I3) (k:Nat):(C.flatMap enc3).drop (k*3)=(C.drop k).flatMap enc3:=by
 induction C generalizing k with
 |nil=>simp
 |cons p C ih=>
  cases k with
  |zero=>simp
  |succ k=>
   rw[List.flatMap_cons,List.drop_succ_cons,←ih k,show (k+1)*3=(enc3 p).length+k*3 by simp[enc3];omega,←List.drop_drop,List.drop_left]
theorem enc3_take (C:List I3) (k:Nat):(C.flatMap enc3).take (k*3)=(C.take k).flatMap enc3:=by
 induction C generalizing k with
 |nil=>simp
 |cons p C ih=>
  cases k with
  |zero=>simp
  |succ k=>
   rw[List.flatMap_cons,List.take_succ_cons,List.flatMap_cons,←ih k,show (k+1)*3=(enc3 p).length+k*3 by simp[enc3];omega,List.take_length_add_append]
theorem enc3_one {C:List I3}:∀ u∈C.flatMap enc3,u.oneCell'=true:=fun u hu=>by
 obtain⟨x,_,h⟩:=List.mem_flatMap.1 hu
 simp only[enc3,List.mem_cons,List.not_mem_nil,or_false] at h
 rcases h with rfl|rfl|rfl<;>rfl
def CesAt (w:World) (b:Nat) (C:List I3):Prop:=∀ k (h:k < C.length),w.cell? ⟨b,k*3,none⟩=some (.int .i64 C[k].1)∧w.cell? ⟨b,k*3+1,none⟩=some (.int .i64 C[k].2.1)∧w.cell? ⟨b,k*3+2,none⟩=some (.int .i64 C[k].2.2)
theorem CeRow.form {w:World} {base:Nat} {v:Value} {C:List I3} (h:CeRow w base v C):∃ p cap b,v=.slice p C.length cap∧C.length≤cap∧(0 < C.length→p=some ⟨b,0,none⟩∧base≤b∧b < w.heap.size)∧CesAt w b C:=by
 rcases h.2 with ⟨h1,h2⟩|⟨g,cap,cur,h1,h2,h3,h4,_⟩
 ·exact⟨none,0,0,by rw[h1,h2],by omega,fun hh=>by omega,fun j hj=>by omega⟩
 ·refine⟨_,cap,g,h1,h4,fun hp=>⟨rfl,h2,(World.ownsRow.lt h g (by rw[h1];rfl)).2⟩,fun j hj=>?_⟩
  subst h1
  have key:∀ i,i < 3→w.cell? ⟨g,j*3+i,none⟩=(enc3 C[j])[i]?:=fun i hi=>by
   rw[World.ownsRow.cellAt h (j*3+i) (by omega),←enc3_get C j hj i hi]
  exact⟨key 0 (by omega),key 1 (by omega),key 2 (by omega)⟩
theorem CeRow.moved {w:World} {base g cap:Nat} {C:List I3} {x:I3} {k:Nat} (hk:k≤C.length) (h:w.ownsRow base 136 3 (.slice (some ⟨g,0,none⟩) (C.length+1) cap) (C.length+1) (C.flatMap enc3 ++ [.int .i64 0,.int .i64 0,.int .i64 0])) :
  ∃ cur,w.heap[g]?=some (.cells cur 136 (0,0))∧(C.length+1)*3≤cur.size∧base≤g∧(∀ j v,((C.drop k).flatMap enc3)[j]?=some v→w.cell? ⟨g,k*3+j,none⟩=some v)∧
   (∀ j,j < 3→∃ u,(w.setRow g (cur.toList.take ((k+1)*3) ++ (C.drop k).flatMap enc3 ++ cur.toList.drop ((k+1)*3+((C.drop k).flatMap enc3).length)).toArray).cell? ⟨g,k*3+j,none⟩=some u)∧(∀ j,(w.setRow g (cur.toList.take ((k+1)*3) ++ (C.drop k).flatMap enc3 ++ cur.toList.drop ((k+1)*3+((C.drop k).flatMap enc3).length)).toArray).frozen? ⟨g,j,none⟩=false)∧
   CeRow ((((w.setRow g (cur.toList.take ((k+1)*3) ++ (C.drop k).flatMap enc3 ++ cur.toList.drop ((k+1)*3+((C.drop k).flatMap enc3).length)).toArray).setCell ⟨g,k*3,none⟩ (.int .i64 x.1)).setCell ⟨g,k*3+1,none⟩ (.int .i64 x.2.1)).setCell ⟨g,k*3+2,none⟩ (.int .i64 x.2.2)) base (.slice (some ⟨g,0,none⟩) (C.length+1) cap) (C.take k ++ x :: C.drop k):=by
 rcases h.2 with ⟨h1,h2⟩|⟨g',cap',cur,h1,hb,hg,hc1,hc2,hc3,ht⟩
 ·cases h1
 ·injection h1 with e1 _ e3
  injection e1 with e1
  injection e1 with e1
  subst e1;subst e3
  have hsz:(C.length+1)*3≤cur.size:=by rw[hc3];exact Nat.mul_le_mul_right _ hc1
  have hd:((C.drop k).flatMap enc3).length=(C.length-k)*3:=by rw[enc3_len,List.length_drop]
  refine⟨cur,hg,hsz,hb,fun j v hj=>?_,fun j hj=>?_,fun j=>?_,?_⟩
  ·have hj2:j < ((C.drop k).flatMap enc3).length:=by
    rw[List.getElem?_eq_some_iff] at hj;exact hj.1
   rw[World.ownsRow.cellAt h (k*3+j) (by rw[hd] at hj2;omega)]
   rw[List.getElem?_append_left (by rw[enc3_len];rw[hd] at hj2;omega),←List.getElem?_drop,enc3_drop]
   exact hj
  ·have g0:=setRow_heap w g cur (cur.toList.take ((k+1)*3) ++ (C.drop k).flatMap enc3 ++ cur.toList.drop ((k+1)*3+((C.drop k).flatMap enc3).length)).toArray 136 (0,0) hg
   simp only[World.cell?,g0]
   refine⟨_,Array.getElem?_eq_getElem ?_⟩
   have hlc:cur.toList.length=cur.size:=Array.length_toList
   simp only[List.size_toArray,List.length_append,List.length_take,List.length_drop,hd]
   omega
  ·have g0:=setRow_heap w g cur (cur.toList.take ((k+1)*3) ++ (C.drop k).flatMap enc3 ++ cur.toList.drop ((k+1)*3+((C.drop k).flatMap enc3).length)).toArray 136 (0,0) hg
   unfold World.frozen?
   simp only[g0]
   simp
  ·obtain⟨c1,hc1e⟩:∃ c,c=(cur.toList.take ((k+1)*3) ++ (C.drop k).flatMap enc3 ++ cur.toList.drop ((k+1)*3+((C.drop k).flatMap enc3).length)).toArray:=⟨_,rfl⟩
   rw[←hc1e]
   have s1:c1.size=cur.size:=by
    rw[hc1e]
    simp only[List.size_toArray,List.length_append,List.length_take,List.length_drop,Array.length_toList,hd]
    omega
   have g1:=setRow_heap w g cur c1 136 (0,0) hg
   rw[setCell_eq_setRow _ g (k*3) c1 136 (0,0) _ g1,setRow_setRow]
   have g2:=setRow_heap w g cur (c1.setIfInBounds (k*3) (.int .i64 x.1)) 136 (0,0) hg
   rw[setCell_eq_setRow _ g (k*3+1) _ 136 (0,0) _ g2,setRow_setRow]
   have g3:=setRow_heap w g cur ((c1.setIfInBounds (k*3) (.int .i64 x.1)).setIfInBounds (k*3+1) (.int .i64 x.2.1)) 136 (0,0) hg
   rw[setCell_eq_setRow _ g (k*3+2) _ 136 (0,0) _ g3,setRow_setRow]
   have e1:(C.take k ++ x :: C.drop k).length=C.length+1:=ins_len
   unfold CeRow
   rw[e1]
   refine⟨by rw[enc3_len,e1],.inr ⟨g,cap,_,rfl,hb,setRow_heap w g cur _ 136 (0,0) hg,hc1,hc2,by simpa[s1] using hc3,?_⟩⟩
   refine List.ext_getElem? fun j=>?_
   have lt:((C.take k).flatMap enc3).length=k*3:=by rw[enc3_len,List.length_take,Nat.min_eq_left hk]
   rw[List.flatMap_append,List.flatMap_cons]
   simp only[Array.toList_setIfInBounds]
   rw[List.getElem?_take]
   have ht':∀ j,j < C.length*3→cur.toList[j]?=(C.flatMap enc3)[j]?:=fun j hj=>by
    have h9:(cur.toList.take ((C.length+1)*3))[j]?=(C.flatMap enc3 ++ [.int .i64 0,.int .i64 0,.int .i64 0])[j]?:=by rw[ht]
    rw[List.getElem?_take,if_pos (by omega),List.getElem?_append_left (by rw[enc3_len];omega)] at h9
    exact h9
   have hc1l:c1.toList=cur.toList.take ((k+1)*3) ++ ((C.drop k).flatMap enc3 ++ cur.toList.drop ((k+1)*3+((C.drop k).flatMap enc3).length)):=by rw[hc1e,List.append_assoc]
   have hlc:cur.toList.length=cur.size:=Array.length_toList
   by_cases hj:j < (C.length+1)*3
   ·rw[if_pos hj,List.getElem?_set,List.getElem?_set,List.getElem?_set]
    simp only[List.length_set]
    have hl1:c1.toList.length=cur.size:=by rw[Array.length_toList,s1]
    by_cases j0:j < k*3
    ·rw[if_neg (by omega),if_neg (by omega),if_neg (by omega),List.getElem?_append_left (by rw[lt];exact j0),←enc3_take,List.getElem?_take,if_pos j0,hc1l,List.getElem?_append_left (by rw[List.length_take];omega),List.getElem?_take,if_pos (by omega)]
     exact ht' j (by omega)
    ·rw[List.getElem?_append_right (by rw[lt];omega),lt]
     by_cases j1:j=k*3
     ·subst j1
      rw[if_neg (by omega),if_neg (by omega),if_pos rfl,if_pos (by omega),Nat.sub_self];rfl
     ·by_cases j2:j=k*3+1
      ·subst j2
       rw[if_neg (by omega),if_pos rfl,if_pos (by omega),show k*3+1-k*3=1 by omega];rfl
      ·by_cases j3:j=k*3+2
       ·subst j3
        rw[if_pos rfl,if_pos (by omega),show k*3+2-k*3=2 by omega];rfl
       ·rw[if_neg (by omega),if_neg (by omega),if_neg (by omega),hc1l,List.getElem?_append_right (by rw[List.length_take];omega),List.length_take,Nat.min_eq_left (by omega),List.getElem?_append_left (by rw[hd];omega),List.getElem?_append_right (by simp[enc3];omega)]
        congr 1
        simp[enc3];omega
   ·rw[if_neg hj,List.getElem?_eq_none]
    rw[List.length_append,List.length_append,lt,hd];simp[enc3];omega
theorem sorted_is {x y z a b c:Int} (hp:[a,b,c].Perm [x,y,z]) (h1:a≤b) (h2:b≤c):sorted [x,y,z]=[a,b,c]:=by
 refine List.Perm.eq_of_pairwise (le:=fun u v:Int=>u≤v) (fun u v _ _ h1 h2=>by omega) (sorted_pair _) ?_ ((sorted_perm _).trans hp.symm)
 simp only[List.pairwise_cons,List.mem_cons,List.not_mem_nil,or_false]
 exact⟨fun u hu=>by rcases hu with rfl|rfl<;>omega,fun u hu=>by subst hu;omega,fun _ h=>h.elim,List.Pairwise.nil⟩
theorem rcell_any (x y z:Int) (w:World) (hx:0≤x∧x≤100000) (hy:0≤y∧y≤100000) (hz:0≤z∧z≤100000):Calls Tryz.prog 129 #[.int .i64 x,.int .i64 y,.int .i64 z] w fun e w'=>e=.returned (.agg #[.int .i64 (to3 (sorted [x,y,z])).1,.int .i64 (to3 (sorted [x,y,z])).2.1,.int .i64 (to3 (sorted [x,y,z])).2.2])∧Below w.heap.size w w':=by
 obtain⟨hx0,hx1⟩:=hx
 obtain⟨hy0,hy1⟩:=hy
 obtain⟨hz0,hz1⟩:=hz
 have key:∀ a b c:Int,sorted [x,y,z]=[a,b,c]→(.agg #[.int .i64 (to3 (sorted [x,y,z])).1,.int .i64 (to3 (sorted [x,y,z])).2.1,.int .i64 (to3 (sorted [x,y,z])).2.2]:Value)=.agg #[.int .i64 a,.int .i64 b,.int .i64 c]:=fun a b c h=>by rw[h];rfl
 have HK:=zN key
 clear key
 have hcase:(x≤y∧y≤z)∨(x≤z∧z < y)∨(y < x∧x≤z)∨(y≤z∧z < x)∨(z < x∧x≤y)∨(z < y∧y < x):=by omega
 rcases hcase with ⟨h1,h2⟩|⟨h1,h2⟩|⟨h1,h2⟩|⟨h1,h2⟩|⟨h1,h2⟩|⟨h1,h2⟩
 ·rw[HK.out x y z (sorted_is (List.Perm.refl _) (by omega) (by omega))]
  have em:(if z < (if y < x then y else x) then z else (if y < x then y else x))=x:=by (repeat' split)<;>omega
  have eM:(if z > (if y > x then y else x) then z else (if y > x then y else x))=z:=by (repeat' split)<;>omega
  have es:x+y+z-x-z=y:=by omega
  go_enter Tryz.func129,Tryz.ntmps129
  go_wp2
  refine bodyPost_ret (v:=.agg #[.int .i64 x,.int .i64 y,.int .i64 z]) ?_ rfl ⟨rfl,?_⟩
  ·simp[results,Tryz.results129,go_sem,es,em,eM]<;>omega
  ·exact (by repeat (first|(with_reducible first|assumption|exact zBr _ _|refine zBs ?_ (by first|omega|(simp<;>omega)) _|refine zBa ?_ (by first|omega|(simp<;>omega)) _|apply zBd)|assumption))
 ·rw[HK.out x z y (sorted_is ((List.Perm.swap y z []).cons x) (by omega) (by omega))]
  have em:(if z < (if y < x then y else x) then z else (if y < x then y else x))=x:=by (repeat' split)<;>omega
  have eM:(if z > (if y > x then y else x) then z else (if y > x then y else x))=y:=by (repeat' split)<;>omega
  have es:x+y+z-x-y=z:=by omega
  go_enter Tryz.func129,Tryz.ntmps129
  go_wp2
  refine bodyPost_ret (v:=.agg #[.int .i64 x,.int .i64 z,.int .i64 y]) ?_ rfl ⟨rfl,?_⟩
  ·simp[results,Tryz.results129,go_sem,es,em,eM]<;>omega
  ·exact (by repeat (first|(with_reducible first|assumption|exact zBr _ _|refine zBs ?_ (by first|omega|(simp<;>omega)) _|refine zBa ?_ (by first|omega|(simp<;>omega)) _|apply zBd)|assumption))
 ·rw[HK.out y x z (sorted_is (List.Perm.swap x y [z]) (by omega) (by omega))]
  have em:(if z < (if y < x then y else x) then z else (if y < x then y else x))=y:=by (repeat' split)<;>omega
  have eM:(if z > (if y > x then y else x) then z else (if y > x then y else x))=z:=by (repeat' split)<;>omega
  have es:x+y+z-y-z=x:=by omega
  go_enter Tryz.func129,Tryz.ntmps129
  go_wp2
  refine bodyPost_ret (v:=.agg #[.int .i64 y,.int .i64 x,.int .i64 z]) ?_ rfl ⟨rfl,?_⟩
  ·simp[results,Tryz.results129,go_sem,es,em,eM]<;>omega
  ·exact (by repeat (first|(with_reducible first|assumption|exact zBr _ _|refine zBs ?_ (by first|omega|(simp<;>omega)) _|refine zBa ?_ (by first|omega|(simp<;>omega)) _|apply zBd)|assumption))
 ·rw[HK.out y z x (sorted_is (((List.Perm.swap x z []).cons y).trans (List.Perm.swap x y [z])) (by omega) (by omega))]
  have em:(if z < (if y < x then y else x) then z else (if y < x then y else x))=y:=by (repeat' split)<;>omega
  have eM:(if z > (if y > x then y else x) then z else (if y > x then y else x))=x:=by (repeat' split)<;>omega
  have es:x+y+z-y-x=z:=by omega
  go_enter Tryz.func129,Tryz.ntmps129
  go_wp2
  refine bodyPost_ret (v:=.agg #[.int .i64 y,.int .i64 z,.int .i64 x]) ?_ rfl ⟨rfl,?_⟩
  ·simp[results,Tryz.results129,go_sem,es,em,eM]<;>omega
  ·exact (by repeat (first|(with_reducible first|assumption|exact zBr _ _|refine zBs ?_ (by first|omega|(simp<;>omega)) _|refine zBa ?_ (by first|omega|(simp<;>omega)) _|apply zBd)|assumption))
 ·rw[HK.out z x y (sorted_is ((List.Perm.swap x z [y]).trans ((List.Perm.swap y z []).cons x)) (by omega) (by omega))]
  have em:(if z < (if y < x then y else x) then z else (if y < x then y else x))=z:=by (repeat' split)<;>omega
  have eM:(if z > (if y > x then y else x) then z else (if y > x then y else x))=y:=by (repeat' split)<;>omega
  have es:x+y+z-z-y=x:=by omega
  go_enter Tryz.func129,Tryz.ntmps129
  go_wp2
  refine bodyPost_ret (v:=.agg #[.int .i64 z,.int .i64 x,.int .i64 y]) ?_ rfl ⟨rfl,?_⟩
  ·simp[results,Tryz.results129,go_sem,es,em,eM]<;>omega
  ·exact (by repeat (first|(with_reducible first|assumption|exact zBr _ _|refine zBs ?_ (by first|omega|(simp<;>omega)) _|refine zBa ?_ (by first|omega|(simp<;>omega)) _|apply zBd)|assumption))
 ·rw[HK.out z y x (sorted_is (((List.Perm.swap x y []).cons z).trans ((List.Perm.swap x z [y]).trans ((List.Perm.swap y z []).cons x))) (by omega) (by omega))]
  have em:(if z < (if y < x then y else x) then z else (if y < x then y else x))=z:=by (repeat' split)<;>omega
  have eM:(if z > (if y > x then y else x) then z else (if y > x then y else x))=x:=by (repeat' split)<;>omega
  have es:x+y+z-z-x=y:=by omega
  go_enter Tryz.func129,Tryz.ntmps129
  go_wp2
  refine bodyPost_ret (v:=.agg #[.int .i64 z,.int .i64 y,.int .i64 x]) ?_ rfl ⟨rfl,?_⟩
  ·simp[results,Tryz.results129,go_sem,es,em,eM]<;>omega
  ·exact (by repeat (first|(with_reducible first|assumption|exact zBr _ _|refine zBs ?_ (by first|omega|(simp<;>omega)) _|refine zBa ?_ (by first|omega|(simp<;>omega)) _|apply zBd)|assumption))
theorem rinsert_any (w:World) (base:Nat) (v:Value) (C:List I3) (x:I3) (hrow:CeRow w base v C) (hb0:base≤w.heap.size) (hsort:C.Pairwise (fun a b=>¬ lt3 b a)) (hl:C.length≤100000) :
  Calls Tryz.prog 128 #[v,.agg #[.int .i64 x.1,.int .i64 x.2.1,.int .i64 x.2.2]] w fun e w'=>∃ v' D,e=.returned v'∧CeRow w' base v' D∧D.Perm (C ++ [x])∧D.Pairwise (fun a b=>¬ lt3 b a)∧Below base w w':=by
 obtain⟨p,cap,b,rfl,hcap,hpos,hat⟩:=hrow.form
 have HR:=zN hrow
 have HP:=zN hpos
 have HAT:=zN hat
 have HSO:=zN hsort
 clear hrow hpos hat hsort
 have HX:Hid (∀ c:I3,lt3 x c↔(x.1 < c.1∨x.1=c.1∧(x.2.1 < c.2.1∨x.2.1=c.2.1∧x.2.2 < c.2.2))):=zN fun c=>Iff.rfl
 obtain⟨x0,x1,x2⟩:=x
 dsimp only at HX
 go_enter Tryz.func128,Tryz.ntmps128
 go_wp2
 go_loopw [5] (fun i wr=>∃ k:Nat,k≤C.length∧i=.int .i64 k∧Hid (∀ j (h:j < C.length),k≤j→lt3 (x0,x1,x2) C[j])∧Below w.heap.size w wr∧(wr.cell? ⟨w.heap.size,0,none⟩=some (.int .i64 x0)∧wr.cell? ⟨w.heap.size,1,none⟩=some (.int .i64 x1)∧wr.cell? ⟨w.heap.size,2,none⟩=some (.int .i64 x2))) (fun i _=>(intOf i).toNat)
 case atStart=>exact⟨C.length,Nat.le_refl _,rfl,zN (fun j _ h=>by omega),(by repeat (first|(with_reducible first|assumption|exact zBr _ _|refine zBs ?_ (by first|omega|(simp<;>omega)) _|refine zBa ?_ (by first|omega|(simp<;>omega)) _|apply zBd)|assumption)),(by simp[zO,zJ,zQ]),(by simp[zO,zJ,zQ]),(by simp[zO,zJ,zQ])⟩
 case round=>
  obtain⟨k,hk,rfl,HK,hB,k0,k1,k2⟩:=hrel
  have hBs:=hB.size
  obtain⟨bt,HBT⟩:∃ bt:Bool,Hid ((bt=true→∃ h:k-1 < C.length,0 < k∧lt3 (x0,x1,x2) C[k-1])∧(bt=false→∀ h:0 < k,¬ lt3 (x0,x1,x2) (C[k-1]'(by omega)))):=by
   by_cases h0:0 < k
   ·by_cases h1:lt3 (x0,x1,x2) (C[k-1]'(by omega))
    ·exact⟨true,zN ⟨fun _=>⟨by omega,h0,h1⟩,fun e=>by cases e⟩⟩
    ·exact⟨false,zN ⟨fun e=>(by cases e),fun _ _=>h1⟩⟩
   ·exact⟨false,zN ⟨fun e=>(by cases e),fun _ h=>absurd h h0⟩⟩
  go_wp2
  go_cut [64] from 8 to 66 (fun s wc=>s=.bool bt∧Below wr.heap.size wr wc)
  case first=>
   by_cases hk0:0 < k
   ·have hk1:((k:Int)-1)=((k-1:Nat):Int):=by omega
    have hkl:k-1 < C.length:=by omega
    obtain⟨rfl,_,_⟩:=HP.out (by omega)
    obtain⟨d0,d1,d2⟩:=HAT.out (k-1) hkl
    have HC:Hid ((lt3 (x0,x1,x2) C[k-1]→bt=true)∧(¬ lt3 (x0,x1,x2) C[k-1]→bt=false)):=zN ⟨fun h=>by
      cases e:bt with
      |true=>rfl
      |false=>exact absurd h (HBT.out.2 e hk0),fun h=>by
      cases e:bt with
      |false=>rfl
      |true=>obtain⟨_,_,h9⟩:=HBT.out.1 e;exact absurd h9 h⟩
    obtain⟨c,hc⟩:∃ c,c=C[k-1]:=⟨_,rfl⟩
    rw[←hc] at d0 d1 d2 HC
    clear hc
    obtain⟨c0,c1,c2⟩:=c
    replace HC:=HC.out
    rw[HX.out] at HC
    dsimp only at d0 d1 d2 HC
    replace d0:=zP hB d0
    replace d1:=zP hB d1
    replace d2:=zP hB d2
    obtain⟨HC1,HC2⟩:=HC
    replace HC1:=zN HC1
    replace HC2:=zN HC2
    obtain⟨kk,hkk⟩:∃ kk,kk=k-1:=⟨_,rfl⟩
    rw[←hkk] at d0 d1 d2 hk1
    have hkkl:kk < C.length:=by omega
    have hkk0:(0:Int)≤(kk:Int):=by omega
    have hkkI:(kk:Int) < (C.length:Int):=by omega
    clear hkk hkl
    have hcase:x0 < c0∨(x0=c0∧x1 < c1)∨(x0=c0∧x1=c1∧x2 < c2)∨(c0 < x0)∨(x0=c0∧c1 < x1)∨(x0=c0∧x1=c1∧¬ x2 < c2):=by omega
    rcases hcase with h1|⟨h1,h2⟩|⟨h1,h2,h3⟩|h1|⟨h1,h2⟩|⟨h1,h2,h3⟩
    ·obtain rfl:bt=true:=HC1.out (by omega)
     have lt0:decide (x0 < c0)=true:=zDt (by omega)
     clear HC1 HC2 HBT h1
     go_quiet (fail)
     go_wp2
     go_meet
     case rel=>exact⟨rfl,below_drewN (zBr _ _) _⟩
    ·obtain rfl:bt=true:=HC1.out (by omega)
     have lt0:decide (x0 < c0)=false:=zDf (by omega)
     have eq0:(x0 == c0)=true:=by rw[beq_iff_eq];omega
     have lt1:decide (x1 < c1)=true:=zDt (by omega)
     clear HC1 HC2 HBT h1 h2
     go_quiet (fail)
     go_wp2
     go_meet
     case rel=>exact⟨rfl,below_drewN (zBr _ _) _⟩
    ·obtain rfl:bt=true:=HC1.out (by omega)
     have lt0:decide (x0 < c0)=false:=zDf (by omega)
     have eq0:(x0 == c0)=true:=by rw[beq_iff_eq];omega
     have lt1:decide (x1 < c1)=false:=zDf (by omega)
     have eq1:(x1 == c1)=true:=by rw[beq_iff_eq];omega
     have lt2:decide (x2 < c2)=true:=zDt (by omega)
     clear HC1 HC2 HBT h1 h2 h3
     go_quiet (fail)
     go_wp2
     go_meet
     case rel=>exact⟨rfl,below_drewN (zBr _ _) _⟩
    ·obtain rfl:bt=false:=HC2.out (by omega)
     have lt0:decide (x0 < c0)=false:=zDf (by omega)
     have eq0:(x0 == c0)=false:=by rw[beq_eq_false_iff_ne];omega
     clear HC1 HC2 HBT h1
     go_quiet (fail)
     go_wp2
     go_meet
     case rel=>exact⟨rfl,below_drewN (zBr _ _) _⟩
    ·obtain rfl:bt=false:=HC2.out (by omega)
     have lt0:decide (x0 < c0)=false:=zDf (by omega)
     have eq0:(x0 == c0)=true:=by rw[beq_iff_eq];omega
     have lt1:decide (x1 < c1)=false:=zDf (by omega)
     have eq1:(x1 == c1)=false:=by rw[beq_eq_false_iff_ne];omega
     clear HC1 HC2 HBT h1 h2
     go_quiet (fail)
     go_wp2
     go_meet
     case rel=>exact⟨rfl,below_drewN (zBr _ _) _⟩
    ·obtain rfl:bt=false:=HC2.out (by omega)
     have lt0:decide (x0 < c0)=false:=zDf (by omega)
     have eq0:(x0 == c0)=true:=by rw[beq_iff_eq];omega
     have lt1:decide (x1 < c1)=false:=zDf (by omega)
     have eq1:(x1 == c1)=true:=by rw[beq_iff_eq];omega
     have lt2:decide (x2 < c2)=false:=zDf (by omega)
     clear HC1 HC2 HBT h1 h2 h3
     go_quiet (fail)
     go_wp2
     go_meet
     case rel=>exact⟨rfl,below_drewN (zBr _ _) _⟩
   ·obtain rfl:k=0:=by omega
    obtain rfl:bt=false:=by
     cases e:bt with
     |false=>rfl
     |true=>obtain⟨_,h9,_⟩:=HBT.out.1 e;exact absurd h9 hk0
    clear HBT
    go_quiet (fail)
    go_wp2
    go_meet
    case rel=>exact⟨rfl,below_drewN (zBr _ _) _⟩
  case rest=>
   obtain⟨rfl,hBc⟩:=hcut
   replace k0:=zP hBc k0
   replace k1:=zP hBc k1
   replace k2:=zP hBc k2
   have hBcs:=hBc.size
   replace hB:=hB.trans (hBc.mono hBs)
   clear hBc
   cases bt with
   |true=>
    obtain⟨hkl,hk0,hlt⟩:=HBT.out.1 rfl
    have HK2:Hid (∀ j (h:j < C.length),k-1≤j→lt3 (x0,x1,x2) C[j]):=zN (fun j h hj=>by
     by_cases e:j=k-1
     ·subst e;exact hlt
     ·exact HK.out j h (by omega))
    have hk1:((k:Int)-1)=((k-1:Nat):Int):=by omega
    clear hlt HBT HK
    go_wp2
    go_roundw
    case rel=>first|exact⟨k-1,by omega,by first|rfl|rw[hk1],HK2,(by repeat (first|(with_reducible first|assumption|exact zBr _ _|refine zBs ?_ (by first|omega|(simp<;>omega)) _|refine zBa ?_ (by first|omega|(simp<;>omega)) _|apply zBd)|assumption)),k0,k1,k2⟩|((repeat apply zEx);exact⟨⟨k-1,by omega,by first|rfl|rw[hk1],HK2,(by repeat (first|(with_reducible first|assumption|exact zBr _ _|refine zBs ?_ (by first|omega|(simp<;>omega)) _|refine zBa ?_ (by first|omega|(simp<;>omega)) _|apply zBd)|assumption)),k0,k1,k2⟩,rfl⟩)
    case measure=>simp[intOf];omega
   |false=>
    have HF:Hid (∀ h:0 < k,¬ lt3 (x0,x1,x2) (C[k-1]'(by omega))):=zN (HBT.out.2 rfl)
    clear HBT
    have HFIN:Hid ((C.take k ++ (x0,x1,x2) :: C.drop k).Perm (C ++ [(x0,x1,x2)])∧(C.take k ++ (x0,x1,x2) :: C.drop k).Pairwise (fun a b=>¬ lt3 b a)):=zN ⟨ins_perm' (List.Perm.refl _),ins3_sorted HSO.out hk HK.out HF.out⟩
    clear HF HK
    have hown:=(HR.out.kept (hB))
    have hown1:=World.ownsRow.alloc hown (.cells #[.int .i64 0,.int .i64 0,.int .i64 0] 136)
    have hb1:Below base w (wc.alloc (.cells #[.int .i64 0,.int .i64 0,.int .i64 0] 136)):=(hB.mono hb0).alloc (by omega) _
    clear hown
    go_wp2_with (refine RX.wpl_apq (by rfl) elCell3 _ _ (by rfl) base _ _ _ hown1 (by rfl) wc.heap.size _ 1 (by rfl) (heap_alloc_new _ _) (by rfl) (by simp[Value.oneCell']) (by omega) (by omega) (by simp;omega) ?_;intro v1 w1 hown2 hb2 hg2 hat2;obtain⟨g,cap1,hv1,hbg,hglt⟩:=hown2.form (by omega);subst hv1)
    have hnb:∀ q,(Value.slice p C.length cap).ownBlock=some q→q < w.heap.size:=fun q h=>(HR.out.lt q h).2
    have hgw:w.heap.size≠g:=by
     rcases hat2 with h|h
     ·have:=hnb g (by rw[←h];rfl);omega
     ·have h9:some g=some (wc.alloc (.cells #[.int .i64 0,.int .i64 0,.int .i64 0] 136)).heap.size:=h
      injection h9 with h9
      simp at h9;omega
    have hne:some w.heap.size≠(Value.slice p C.length cap).ownBlock:=fun e=>by have:=hnb _ e.symm;omega
    have k0':(wc.alloc (.cells #[.int .i64 0,.int .i64 0,.int .i64 0] 136)).cell? ⟨w.heap.size,0,none⟩=some (.int .i64 x0):=(by (try have hLt:=zM _ _ k0);(try simp only at hLt);(repeat first|rw[zO]|rw[zK _ _ _ _ (by first|(simp<;>omega)|omega)]|rw[zJ,if_neg (by first|(simp<;>omega)|omega)]);first|exact k0|(rw[zJ,if_pos (by first|(simp;done)|omega)];exact k0))
    have k1':(wc.alloc (.cells #[.int .i64 0,.int .i64 0,.int .i64 0] 136)).cell? ⟨w.heap.size,1,none⟩=some (.int .i64 x1):=(by (try have hLt:=zM _ _ k1);(try simp only at hLt);(repeat first|rw[zO]|rw[zK _ _ _ _ (by first|(simp<;>omega)|omega)]|rw[zJ,if_neg (by first|(simp<;>omega)|omega)]);first|exact k1|(rw[zJ,if_pos (by first|(simp;done)|omega)];exact k1))
    have k2':(wc.alloc (.cells #[.int .i64 0,.int .i64 0,.int .i64 0] 136)).cell? ⟨w.heap.size,2,none⟩=some (.int .i64 x2):=(by (try have hLt:=zM _ _ k2);(try simp only at hLt);(repeat first|rw[zO]|rw[zK _ _ _ _ (by first|(simp<;>omega)|omega)]|rw[zJ,if_neg (by first|(simp<;>omega)|omega)]);first|exact k2|(rw[zJ,if_pos (by first|(simp;done)|omega)];exact k2))
    replace k0':=hg2.cell k0' hne
    replace k1':=hg2.cell k1' hne
    replace k2':=hg2.cell k2' hne
    have hB1:=hb1.trans hb2
    have hc1:C.length+1≤cap1:=by
     obtain⟨_,_,h9,h10⟩:=own_slice hown2
     injection h9 with _ _ h9
     omega
    have hown3:World.ownsRow w1.drew base 136 3 (.slice (some ⟨g,0,none⟩) (C.length+1) cap1) (C.length+1) (C.flatMap enc3 ++ [.int .i64 0,.int .i64 0,.int .i64 0]):=hown2
    obtain⟨cur,hcur,hsz,hbg2,hsrc,hex,hfz,HM⟩:=CeRow.moved (k:=k) (x:=(x0,x1,x2)) hk hown3
    have hdl:((C.drop k).flatMap enc3).length=(C.length-k)*3:=by rw[enc3_len,List.length_drop]
    clear hown3 hown2 hown1 hg2 hb2 hat2 hnb hne k0 k1 k2 hb1
    have hks:(0:Int)≤(k:Int):=by omega
    have hk1:(k:Int)+1≤(C.length:Int)+1:=by omega
    have hck:¬ cap1=k:=by omega
    have HMX:=zN (And.intro HM (And.intro hex hfz))
    clear HM hex hfz
    obtain⟨cs,hcs⟩:∃ cs,cs=(C.drop k).flatMap enc3:=⟨_,rfl⟩
    rw[←hcs] at hsrc hdl HMX
    have HCS:=zN hcs
    clear hcs
    have HSRC:=zN hsrc
    clear hsrc
    by_cases hce:cap1=k+1
    ·have hkC:¬ k < C.length:=by omega
     go_wp2
     refine RX.region RX.fL (fun _=>True) (by kernel_rfl) (by kernel_rfl) (trivial) (fun OPS HO QR hQR=>?_)
     repeat (refine zeX (fun R hR=>?_);(first|refine zaX (by first|rfl|(rw[HO.out];rfl)) (by simp only[zA,zB,zC,zD];rfl) ?_|refine zbX (by first|rfl|(rw[HO.out];rfl)) rfl (by first|exact .inl rfl|exact .inr rfl) (by simp only[zE,zF,zG,zH];rfl) (by simp only[zA,zB,zC,zD];rfl) ?_|refine zcX (by first|rfl|(rw[HO.out];rfl)) rfl rfl (by simp only[zE,zF,zG,zH];rfl) (by simp only[zA,zB,zC,zD];rfl) ?_|(refine zdX (by first|rfl|(rw[HO.out];rfl)) rfl rfl rfl ?_;apply zEx;apply zEx;refine⟨fun w' hS K hK=>?_,?_,?_⟩;(focus (go_wp2;exact hK _ _ (by simp only[zl,zG,zH];first|exact zf (by omega)|exact zg (by omega)|exact zh (by omega)|exact zi (by omega)|exact zj (by omega)|exact zk (by omega)|exact RX.bneB _|rfl) rfl));(focus (simp only[zA,zB,zC,zD];rfl))));refine hR _ _ ?_;clear hR R)
     refine zeX (fun R hR=>?_)
     refine zgX (by first|rfl|(rw[HO.out];rfl)) rfl (fun K hK=>?_)
     refine RX.wp_copyK _ _ 111 111 136 rfl 3 Tryz.underlying111 (by kernel_rfl) g ((k+1)*3) _ _ _ _ _ _ (by simp only[RX.eval_tmp,RX.eval_const,List.getD_cons_zero,List.getD_cons_succ];rfl) (by simp only[RX.eval_tmp,RX.eval_const,List.getD_cons_zero,List.getD_cons_succ];rfl) cur 136 hcur cs (C.length-k) ?_ hdl (fun h=>absurd h (by omega)) (fun _=>⟨⟨g,k*3,none⟩,rfl,fun j u hj=>?_⟩) ?_ ?_ ?_
     ·show C.length-k=min (C.length+1-k) (C.length-k);omega
     ·have h9:=HSRC.out j u hj
      unfold Addr.add
      split
      ·rename_i h0;subst h0;exact h9
      ·exact h9
     ·rw[hdl];omega
     ·intro u hu;rw[HCS.out] at hu;exact enc3_one u hu
     refine hK _ _ ⟨trivial,?_⟩;clear hK K;refine RX.at_ (by simp only[RX.put_some,RX.put_none,List.set_cons_zero,List.set_cons_succ];rfl) (hR _ _ ?_);clear hR R
     repeat (refine zeX (fun R hR=>?_);(first|refine zaX (by first|rfl|(rw[HO.out];rfl)) (by simp only[zA,zB,zC,zD];rfl) ?_|refine zbX (by first|rfl|(rw[HO.out];rfl)) rfl (by first|exact .inl rfl|exact .inr rfl) (by simp only[zE,zF,zG,zH];rfl) (by simp only[zA,zB,zC,zD];rfl) ?_|refine zcX (by first|rfl|(rw[HO.out];rfl)) rfl rfl (by simp only[zE,zF,zG,zH];rfl) (by simp only[zA,zB,zC,zD];rfl) ?_|(refine zdX (by first|rfl|(rw[HO.out];rfl)) rfl rfl rfl ?_;apply zEx;apply zEx;refine⟨fun w' hS K hK=>?_,?_,?_⟩;(focus (go_wp2;exact hK _ _ (by simp only[zl,zG,zH];first|exact zf (by omega)|exact zg (by omega)|exact zh (by omega)|exact zi (by omega)|exact zj (by omega)|exact zk (by omega)|exact RX.bneB _|rfl) rfl));(focus (simp only[zA,zB,zC,zD];rfl))));refine hR _ _ ?_;clear hR R)
     refine RX.wpL_nil (hQR _ _ (trivial) ?_);clear hQR QR HO OPS
     refine absW (F:=fun w'=>(w'.cell? ⟨w.heap.size,0,none⟩=some (.int .i64 x0)∧w'.cell? ⟨w.heap.size,1,none⟩=some (.int .i64 x1)∧w'.cell? ⟨w.heap.size,2,none⟩=some (.int .i64 x2))∧((∃ u,w'.cell? ⟨g,k*3,none⟩=some u)∧(∃ u,w'.cell? ⟨g,k*3+1,none⟩=some u)∧(∃ u,w'.cell? ⟨g,k*3+2,none⟩=some u))∧(w'.frozen? ⟨g,k*3,none⟩=false∧w'.frozen? ⟨g,k*3+1,none⟩=false∧w'.frozen? ⟨g,k*3+2,none⟩=false)∧CeRow (((w'.setCell ⟨g,k*3,none⟩ (.int .i64 x0)).setCell ⟨g,k*3+1,none⟩ (.int .i64 x1)).setCell ⟨g,k*3+2,none⟩ (.int .i64 x2)) base (.slice (some ⟨g,0,none⟩) (C.length+1) cap1) (C.take k ++ (x0,x1,x2) :: C.drop k)∧Below base w w') ⟨⟨?_,?_,?_⟩,⟨HMX.out.2.1 0 (by omega),HMX.out.2.1 1 (by omega),HMX.out.2.1 2 (by omega)⟩,⟨HMX.out.2.2 _,HMX.out.2.2 _,HMX.out.2.2 _⟩,HMX.out.1,below_setRow hB1.drew (by omega) _⟩ ?_
     ·rw[cell_setRow_other _ _ _ _ hgw];exact k0'
     ·rw[cell_setRow_other _ _ _ _ hgw];exact k1'
     ·rw[cell_setRow_other _ _ _ _ hgw];exact k2'
     rintro w2 ⟨⟨m0,m1,m2⟩,⟨⟨u0,e0⟩,⟨u1,e1⟩,⟨u2,e2⟩⟩,⟨f0,f1,f2⟩,HM,HB2⟩
     have HM:=zN HM
     have HB2:=zN HB2
     clear k0' k1' k2' HMX
     have hks1:(k:Int) < (C.length:Int)+1:=by omega
     go_wp2
     refine bodyPost_ret (v:=.slice (some ⟨g,0,none⟩) (C.length+1) cap1) (by simp[results,Tryz.results128,go_sem]<;>omega) rfl ?_
     exact⟨_,_,rfl,HM.out,HFIN.out.1,HFIN.out.2,((HB2.out.setCell (by omega) _).setCell (by omega) _).setCell (by omega) _⟩
    ·go_wp2
     refine RX.region RX.fL (fun _=>True) (by kernel_rfl) (by kernel_rfl) (trivial) (fun OPS HO QR hQR=>?_)
     repeat (refine zeX (fun R hR=>?_);(first|refine zaX (by first|rfl|(rw[HO.out];rfl)) (by simp only[zA,zB,zC,zD];rfl) ?_|refine zbX (by first|rfl|(rw[HO.out];rfl)) rfl (by first|exact .inl rfl|exact .inr rfl) (by simp only[zE,zF,zG,zH];rfl) (by simp only[zA,zB,zC,zD];rfl) ?_|refine zcX (by first|rfl|(rw[HO.out];rfl)) rfl rfl (by simp only[zE,zF,zG,zH];rfl) (by simp only[zA,zB,zC,zD];rfl) ?_|(refine zdX (by first|rfl|(rw[HO.out];rfl)) rfl rfl rfl ?_;apply zEx;apply zEx;refine⟨fun w' hS K hK=>?_,?_,?_⟩;(focus (go_wp2;exact hK _ _ (by simp only[zl,zG,zH];first|exact zf (by omega)|exact zg (by omega)|exact zh (by omega)|exact zi (by omega)|exact zj (by omega)|exact zk (by omega)|exact RX.bneB _|rfl) rfl));(focus (simp only[zA,zB,zC,zD];rfl))));refine hR _ _ ?_;clear hR R)
     refine zeX (fun R hR=>?_)
     refine zgX (by first|rfl|(rw[HO.out];rfl)) rfl (fun K hK=>?_)
     refine RX.wp_copyK _ _ 111 111 136 rfl 3 Tryz.underlying111 (by kernel_rfl) g ((k+1)*3) _ _ _ _ _ _ (by simp only[RX.eval_tmp,RX.eval_const,List.getD_cons_zero,List.getD_cons_succ];rfl) (by simp only[RX.eval_tmp,RX.eval_const,List.getD_cons_zero,List.getD_cons_succ];rfl) cur 136 hcur cs (C.length-k) ?_ hdl (fun _=>rfl) (fun _=>⟨⟨g,k*3,none⟩,rfl,fun j u hj=>?_⟩) ?_ ?_ ?_
     ·show C.length-k=min (C.length+1-k) (C.length-k);omega
     ·have h9:=HSRC.out j u hj
      unfold Addr.add
      split
      ·rename_i h0;subst h0;exact h9
      ·exact h9
     ·rw[hdl];omega
     ·intro u hu;rw[HCS.out] at hu;exact enc3_one u hu
     refine hK _ _ ⟨trivial,?_⟩;clear hK K;refine RX.at_ (by simp only[RX.put_some,RX.put_none,List.set_cons_zero,List.set_cons_succ];rfl) (hR _ _ ?_);clear hR R
     repeat (refine zeX (fun R hR=>?_);(first|refine zaX (by first|rfl|(rw[HO.out];rfl)) (by simp only[zA,zB,zC,zD];rfl) ?_|refine zbX (by first|rfl|(rw[HO.out];rfl)) rfl (by first|exact .inl rfl|exact .inr rfl) (by simp only[zE,zF,zG,zH];rfl) (by simp only[zA,zB,zC,zD];rfl) ?_|refine zcX (by first|rfl|(rw[HO.out];rfl)) rfl rfl (by simp only[zE,zF,zG,zH];rfl) (by simp only[zA,zB,zC,zD];rfl) ?_|(refine zdX (by first|rfl|(rw[HO.out];rfl)) rfl rfl rfl ?_;apply zEx;apply zEx;refine⟨fun w' hS K hK=>?_,?_,?_⟩;(focus (go_wp2;exact hK _ _ (by simp only[zl,zG,zH];first|exact zf (by omega)|exact zg (by omega)|exact zh (by omega)|exact zi (by omega)|exact zj (by omega)|exact zk (by omega)|exact RX.bneB _|rfl) rfl));(focus (simp only[zA,zB,zC,zD];rfl))));refine hR _ _ ?_;clear hR R)
     refine RX.wpL_nil (hQR _ _ (trivial) ?_);clear hQR QR HO OPS
     refine absW (F:=fun w'=>(w'.cell? ⟨w.heap.size,0,none⟩=some (.int .i64 x0)∧w'.cell? ⟨w.heap.size,1,none⟩=some (.int .i64 x1)∧w'.cell? ⟨w.heap.size,2,none⟩=some (.int .i64 x2))∧((∃ u,w'.cell? ⟨g,k*3,none⟩=some u)∧(∃ u,w'.cell? ⟨g,k*3+1,none⟩=some u)∧(∃ u,w'.cell? ⟨g,k*3+2,none⟩=some u))∧(w'.frozen? ⟨g,k*3,none⟩=false∧w'.frozen? ⟨g,k*3+1,none⟩=false∧w'.frozen? ⟨g,k*3+2,none⟩=false)∧CeRow (((w'.setCell ⟨g,k*3,none⟩ (.int .i64 x0)).setCell ⟨g,k*3+1,none⟩ (.int .i64 x1)).setCell ⟨g,k*3+2,none⟩ (.int .i64 x2)) base (.slice (some ⟨g,0,none⟩) (C.length+1) cap1) (C.take k ++ (x0,x1,x2) :: C.drop k)∧Below base w w') ⟨⟨?_,?_,?_⟩,⟨HMX.out.2.1 0 (by omega),HMX.out.2.1 1 (by omega),HMX.out.2.1 2 (by omega)⟩,⟨HMX.out.2.2 _,HMX.out.2.2 _,HMX.out.2.2 _⟩,HMX.out.1,below_setRow hB1.drew (by omega) _⟩ ?_
     ·rw[cell_setRow_other _ _ _ _ hgw];exact k0'
     ·rw[cell_setRow_other _ _ _ _ hgw];exact k1'
     ·rw[cell_setRow_other _ _ _ _ hgw];exact k2'
     rintro w2 ⟨⟨m0,m1,m2⟩,⟨⟨u0,e0⟩,⟨u1,e1⟩,⟨u2,e2⟩⟩,⟨f0,f1,f2⟩,HM,HB2⟩
     have HM:=zN HM
     have HB2:=zN HB2
     clear k0' k1' k2' HMX
     have hks1:(k:Int) < (C.length:Int)+1:=by omega
     go_wp2
     refine bodyPost_ret (v:=.slice (some ⟨g,0,none⟩) (C.length+1) cap1) (by simp[results,Tryz.results128,go_sem]<;>omega) rfl ?_
     exact⟨_,_,rfl,HM.out,HFIN.out.1,HFIN.out.2,((HB2.out.setCell (by omega) _).setCell (by omega) _).setCell (by omega) _⟩
def CInv (w:World) (base:Nat) (v:Value) (R:List (List Int)):Prop:=∃ C,CeRow w base v C∧C.Perm (R.map to3)∧C.Pairwise (fun a b=>¬ lt3 b a)
theorem CInv.nil (w:World) (base:Nat):CInv w base (.slice none 0 0) []:=⟨[],CeRow.nil _ _,List.Perm.refl _,List.Pairwise.nil⟩
theorem CInv.kept {w w':World} {base:Nat} {v:Value} {R:List (List Int)} (h:CInv w base v R) (hb:Below w.heap.size w w'):CInv w' base v R:=by
 obtain⟨C,h1,h2⟩:=h;exact⟨C,h1.kept hb,h2⟩
theorem rins_tri (w:World) (base:Nat) (v:Value) (R:List (List Int)) (L:List Pl) (p q r:Pl) (h:CInv w base v R) (hb0:base≤w.heap.size) (hl:R.length≤90000) :
  Calls Tryz.prog 128 #[v,.agg #[.int .i64 (to3 (tri L p q r)).1,.int .i64 (to3 (tri L p q r)).2.1,.int .i64 (to3 (tri L p q r)).2.2]] w fun e w'=>∃ v',e=.returned v'∧CInv w' base v' (R ++ [tri L p q r])∧Below base w w':=by
 obtain⟨C,h1,h2,h3⟩:=h
 have hlen:=h2.length_eq
 rw[List.length_map] at hlen
 refine (rinsert_any w base v C (to3 (tri L p q r)) h1 hb0 h3 (by omega)).mono ?_
 rintro e w' ⟨v',D,rfl,d1,d2,d3,d4⟩
 exact⟨v',rfl,⟨D,d1,d2.trans (by rw[List.map_append];exact h2.append_right _),d3⟩,d4⟩
theorem CInv.fin {w:World} {base:Nat} {v:Value} {n:Nat} (h:CInv w base v (cellsRaw n)):CeRow w base v (cellsS n):=by
 obtain⟨C,h1,h2,h3⟩:=h
 have e:C=cellsS n:=by
  refine List.Perm.eq_of_pairwise (le:=fun a b:I3=>¬ lt3 b a) (fun a b _ _ k1 k2=>?_) h3 ?_ (h2.trans (List.mergeSort_perm _ _).symm)
  ·unfold lt3 at k1 k2
   obtain⟨a0,a1,a2⟩:=a
   obtain⟨b0,b1,b2⟩:=b
   dsimp only at k1 k2
   obtain rfl:a0=b0:=by omega
   obtain rfl:a1=b1:=by omega
   obtain rfl:a2=b2:=by omega
   rfl
  ·unfold cellsS sort3
   have:=List.pairwise_mergeSort (le:=fun x y:I3=>decide (¬ lt3 y x)) (fun a b c h1 h2=>zDt (by have a1:=of_decide_eq_true h1;have a2:=of_decide_eq_true h2;unfold lt3 at *;omega)) (fun a b=>by rcases (show ¬ lt3 b a∨¬ lt3 a b by unfold lt3;omega) with h|h<;>simp[h]) (cells3 n)
   exact this.imp (fun h=>by simpa using h)
 rw[←e];exact h1
theorem rcorner (w:World) (n b cap nl:Nat) (h1:1≤n) (h8:n≤8) (q:Pl) (hq:Corner n q) (hat:PlsAt w b (nodesL n)) (hnl:nl=(nodesL n).length) (hcap:nl≤cap) (A B:Int) (hA:A=q.a) (hB:B=q.b) :
  Calls Tryz.prog 109 #[.slice (some ⟨b,0,none⟩) nl cap,.int .i64 q.f,.int .i64 A,.int .i64 B] w fun e w'=>e=.returned (.int .i64 (atI (nodesL n) q))∧Below w.heap.size w w':=by
 subst hnl
 exact rat_corner w n b cap h1 h8 q hq hat hcap A B hA hB
theorem rcorner_le {n:Nat} {q:Pl} (hq:Corner n q):0≤atI (nodesL n) q∧atI (nodesL n) q≤100000:=by
 have:=hq.le
 unfold atL at this
 unfold atI
 omega
theorem rcells_any (n:Nat) (h1:1≤n) (h8:n≤8) (w:World):Calls Tryz.prog 105 #[.int .i64 n] w fun e w'=>∃ v,e=.returned (.tuple #[v,.int .i64 0])∧CeRow w' w.heap.size v (cellsS n)∧Below w.heap.size w w':=by
 have hn:=hh_mul h1 h8
 have hq:(840:Int).tdiv n=((hh n:Nat):Int):=by
  rw[Int.tdiv_eq_ediv_of_nonneg (by omega)];rfl
 have hn0:((n:Int) == 0)=false:=by rw[beq_eq_false_iff_ne];omega
 have hhp:1≤hh n:=hh_pos h1 (by omega)
 have hh1:hh n≤840:=Nat.div_le_self _ _
 obtain⟨h,hhe⟩:∃ h,h=hh n:=⟨_,rfl⟩
 rw[←hhe] at hq hhp hh1
 have HN:Hid (n*h=840):=zN (by rw[hhe];exact hn)
 have HE:=zN hhe
 have hnl:=nodes_fit h1 h8
 have HNL:=zN hnl
 clear hhe hn hnl
 go_enter Tryz.func105,Tryz.ntmps105
 go_wp2_with fail
 refine (rnodes_any n h1 h8 _).mono ?_
 rintro e w1 ⟨v,rfl,hrow,hB1⟩
 obtain⟨p,cap,b,rfl,hcap,hpos,hat⟩:=hrow.form
 obtain⟨rfl,hb0,hbl⟩:=hpos HNL.out.1
 have HAT:=zN hat
 have hBs1:=hB1.size
 clear hrow hpos hat
 obtain⟨nl,hnl⟩:∃ nl,nl=(nodesL n).length:=⟨_,rfl⟩
 rw[←hnl] at hcap ⊢
 have HNLE:=zN hnl
 clear hnl
 go_wp2
 clear hq hn0
 go_loopw [7,8] (fun v i wr=>∃ f:Nat,f≤20∧i=.int .i64 f∧CInv wr w1.heap.size v (csofar n f 0 0)∧Below w1.heap.size w1 wr) (fun _ i _=>20-(intOf i).toNat)
 case atStart=>exact⟨0,by omega,rfl,by rw[csofar_start];exact CInv.nil _ _,(by repeat (first|(with_reducible first|assumption|exact zBr _ _|refine zBs ?_ (by first|omega|(simp<;>omega)) _|refine zBa ?_ (by first|omega|(simp<;>omega)) _|apply zBd)|assumption))⟩
 case round=>
  obtain⟨f,hf,rfl,hrow,hB⟩:=hrel
  by_cases hltf:f < 20
  ·have hdf:decide ((f:Int) < 20)=true:=zDt (by omega)
   go_wp2
   go_loopw [7,9] (fun v i wr=>∃ a:Nat,a≤n∧AtMul i h a∧CInv wr w1.heap.size v (csofar n f a 0)∧Below w1.heap.size w1 wr) (fun _ i _=>1681-(intOf i).toNat)
   case atStart=>exact⟨0,by omega,AtMul.zero h,hrow,hB⟩
   case round=>
    clear hrow hB
    obtain⟨a,ha,⟨x,HX0,rfl⟩,hrow,hB⟩:=hrel
    have HX:=zN HX0
    clear HX0
    by_cases hlta:a < n
    ·have hx1:x+h≤840:=by
      have e:=Nat.mul_le_mul_right h (show a+1≤n by omega)
      rw[HN.out,Nat.succ_mul,←HX.out] at e;exact e
     have hdx:decide ((x:Int)≤840-(h:Int))=true:=zDt (by omega)
     go_wp2
     go_loopw [7,10] (fun v i wr=>∃ b:Nat,b≤n-a∧AtMul i h b∧CInv wr w1.heap.size v (csofar n f a b)∧Below w1.heap.size w1 wr) (fun _ i _=>1681-(intOf i).toNat)
     case atStart=>exact⟨0,by omega,AtMul.zero h,hrow,hB⟩
     case round=>
      clear hrow hB
      obtain⟨j,hj,⟨y,HY0,rfl⟩,hrow,hB⟩:=hrel
      have HY:=zN HY0
      clear HY0
      by_cases hltb:a+j < n
      ·obtain⟨z,HZ⟩:∃ z,Hid (z=(n-1-a-j)*h):=⟨_,zN rfl⟩
       have hxyz:x+y+z+h=840:=by
        rw[HX.out,HY.out,HZ.out,←HN.out,←Nat.add_mul,←Nat.add_mul,←Nat.succ_mul]
        congr 1;omega
       have HYS:AtMul (.int .i64 ((y:Int)+(h:Int))) h (j+1):=AtMul.next HY.out
       have hdy:decide ((x:Int)+(y:Int)≤840-(h:Int))=true:=zDt (by omega)
       have HLEN:Hid ((csofar n f a j).length≤5000):=zN (len_csofar h8 (by omega) ha (by omega))
       have hup:=lat_up hltb f
       rw[←HE.out,←HX.out,←HY.out,←HZ.out] at hup
       obtain⟨hu0,hu1,hu2⟩:=hup
       have hn':n*hh n=840:=by rw[←HE.out];exact HN.out
       have CO0:Hid (Corner n ⟨f,x+h,y,z⟩):=zN (by rw[hu0];exact corner_lat h1 h8 hn' hltf (by omega))
       have CO1:Hid (Corner n ⟨f,x,y+h,z⟩):=zN (by rw[hu1];exact corner_lat h1 h8 hn' hltf (by omega))
       have CO2:Hid (Corner n ⟨f,x,y,z+h⟩):=zN (by rw[hu2];exact corner_lat h1 h8 hn' hltf (by omega))
       have HNEXT:Hid (∀ v wr',CInv wr' w1.heap.size v (csofar n f a j ++ cellsAt (nodesL n) h ⟨f,x,y,z⟩)→CInv wr' w1.heap.size v (csofar n f a (j+1))):=zN (fun v wr' hr=>by
        rw[csofar_succ]
        unfold cpos
        rw[←HE.out,←HX.out,←HY.out,←HZ.out]
        exact hr)
       have HDW:Hid (h≤z→Corner n ⟨f,x+h,y+h,z-h⟩):=zN (fun hz=>by
        have hd:=(down_iff (by rw[←HE.out];omega) hltb).1 (by rw[←HE.out,←HZ.out];exact hz)
        have hld:=lat_down hd f
        rw[←HE.out,←HX.out,←HY.out,←HZ.out] at hld
        rw[hld]
        exact corner_lat h1 h8 hn' hltf (by omega))
       clear hu0 hu1 hu2 hn'
       generalize csofar n f a j=R at *
       have HR:=zN hrow
       have hBs:=hB.size
       clear hrow
       obtain⟨u0,hu0⟩:∃ u:World,u=wr:=⟨_,rfl⟩
       rw[←hu0] at hB hBs HR ⊢
       clear hu0
       have hB_u0:=hB
       have hBs_u0:=hBs
       have HR_u0:=HR
       clear hB hBs HR
       go_wp2_with fail
       refine (rcorner u0 n b cap nl h1 h8 ⟨f,x+h,y,z⟩ CO0.out (HAT.out.kept (hB_u0.block b hbl)) HNLE.out hcap ((x:Int)+(h:Int)) ((y:Int)) (by simp) (by simp)).mono ?_
       rintro e u1 ⟨rfl,hb⟩
       have hB_u1:=hB_u0.trans (hb.mono hBs_u0)
       have hBs_u1:=hB_u1.size
       have HR_u1:=zN (HR_u0.out.kept hb)
       clear hb HR_u0
       go_wp2_with fail
       refine (rcorner u1 n b cap nl h1 h8 ⟨f,x,y+h,z⟩ CO1.out (HAT.out.kept (hB_u1.block b hbl)) HNLE.out hcap ((x:Int)) ((y:Int)+(h:Int)) (by simp) (by simp)).mono ?_
       rintro e u2 ⟨rfl,hb⟩
       have hB_u2:=hB_u1.trans (hb.mono hBs_u1)
       have hBs_u2:=hB_u2.size
       have HR_u2:=zN (HR_u1.out.kept hb)
       clear hb HR_u1
       go_wp2_with fail
       refine (rcorner u2 n b cap nl h1 h8 ⟨f,x,y,z+h⟩ CO2.out (HAT.out.kept (hB_u2.block b hbl)) HNLE.out hcap ((x:Int)) ((y:Int)) (by simp) (by simp)).mono ?_
       rintro e u3 ⟨rfl,hb⟩
       have hB_u3:=hB_u2.trans (hb.mono hBs_u2)
       have hBs_u3:=hB_u3.size
       have HR_u3:=zN (HR_u2.out.kept hb)
       clear hb HR_u2
       go_wp2_with fail
       refine (rcell_any _ _ _ u3 (rcorner_le CO0.out) (rcorner_le CO1.out) (rcorner_le CO2.out)).mono ?_
       rintro e u4 ⟨rfl,hb⟩
       have hB_u4:=hB_u3.trans (hb.mono hBs_u3)
       have hBs_u4:=hB_u4.size
       have HR_u4:=zN (HR_u3.out.kept hb)
       clear hb HR_u3
       go_wp2_with fail
       refine (rins_tri u4 w1.heap.size _ R (nodesL n) ⟨f,x+h,y,z⟩ ⟨f,x,y+h,z⟩ ⟨f,x,y,z+h⟩ HR_u4.out hBs_u4 (by have:=HLEN.out;omega)).mono ?_
       rintro e u5 ⟨v1,rfl,hr,hb⟩
       have hB_u5:=hB_u4.trans hb
       have hBs_u5:=hB_u5.size
       have HR_u5:=zN hr
       clear hb hr HR_u4
       by_cases hz:h≤z
       ·have hd2:decide ((x:Int)+(y:Int)≤840-2*(h:Int))=true:=zDt (by omega)
        have CO3:=zN (HDW.out hz)
        go_wp2_with fail
        refine (rcorner u5 n b cap nl h1 h8 ⟨f,x,y+h,z⟩ CO1.out (HAT.out.kept (hB_u5.block b hbl)) HNLE.out hcap ((x:Int)) ((y:Int)+(h:Int)) (by simp) (by simp)).mono ?_
        rintro e u6 ⟨rfl,hb⟩
        have hB_u6:=hB_u5.trans (hb.mono hBs_u5)
        have hBs_u6:=hB_u6.size
        have HR_u6:=zN (HR_u5.out.kept hb)
        clear hb HR_u5
        go_wp2_with fail
        refine (rcorner u6 n b cap nl h1 h8 ⟨f,x+h,y,z⟩ CO0.out (HAT.out.kept (hB_u6.block b hbl)) HNLE.out hcap ((x:Int)+(h:Int)) ((y:Int)) (by simp) (by simp)).mono ?_
        rintro e u7 ⟨rfl,hb⟩
        have hB_u7:=hB_u6.trans (hb.mono hBs_u6)
        have hBs_u7:=hB_u7.size
        have HR_u7:=zN (HR_u6.out.kept hb)
        clear hb HR_u6
        go_wp2_with fail
        refine (rcorner u7 n b cap nl h1 h8 ⟨f,x+h,y+h,z-h⟩ CO3.out (HAT.out.kept (hB_u7.block b hbl)) HNLE.out hcap ((x:Int)+(h:Int)) ((y:Int)+(h:Int)) (by simp) (by simp)).mono ?_
        rintro e u8 ⟨rfl,hb⟩
        have hB_u8:=hB_u7.trans (hb.mono hBs_u7)
        have hBs_u8:=hB_u8.size
        have HR_u8:=zN (HR_u7.out.kept hb)
        clear hb HR_u7
        go_wp2_with fail
        refine (rcell_any _ _ _ u8 (rcorner_le CO1.out) (rcorner_le CO0.out) (rcorner_le CO3.out)).mono ?_
        rintro e u9 ⟨rfl,hb⟩
        have hB_u9:=hB_u8.trans (hb.mono hBs_u8)
        have hBs_u9:=hB_u9.size
        have HR_u9:=zN (HR_u8.out.kept hb)
        clear hb HR_u8
        go_wp2_with fail
        refine (rins_tri u9 w1.heap.size _ (R ++ [tri (nodesL n) ⟨f,x+h,y,z⟩ ⟨f,x,y+h,z⟩ ⟨f,x,y,z+h⟩]) (nodesL n) ⟨f,x,y+h,z⟩ ⟨f,x+h,y,z⟩ ⟨f,x+h,y+h,z-h⟩ HR_u9.out hBs_u9 (by have:=HLEN.out;rw[List.length_append];simp;omega)).mono ?_
        rintro e v0 ⟨v2,rfl,hr,hb⟩
        have hB_v0:=hB_u9.trans hb
        have hBs_v0:=hB_v0.size
        have HR_v0:=zN hr
        clear hb hr HR_u9
        have HFI:=zN (HNEXT.out _ _ (by unfold cellsAt;rw[if_pos hz];have h9:=HR_v0.out;rw[List.append_assoc] at h9;exact h9))
        go_wp2
        go_roundw
        case rel=>first|exact⟨j+1,by omega,HYS,HFI.out,hB_v0⟩|((repeat apply zEx);exact⟨⟨j+1,by omega,HYS,HFI.out,hB_v0⟩,rfl⟩)
        case measure=>simp[intOf];omega
       ·have hd2:decide ((x:Int)+(y:Int)≤840-2*(h:Int))=false:=zDf (by omega)
        have HFI:=zN (HNEXT.out _ _ (by unfold cellsAt;rw[if_neg hz];exact HR_u5.out))
        go_wp2
        go_roundw
        case rel=>first|exact⟨j+1,by omega,HYS,HFI.out,hB_u5⟩|((repeat apply zEx);exact⟨⟨j+1,by omega,HYS,HFI.out,hB_u5⟩,rfl⟩)
        case measure=>simp[intOf];omega
      ·have ej:j=n-a:=by omega
       have e:x+y=840:=by
        rw[HX.out,HY.out,←HN.out,←Nat.add_mul];congr 1;omega
       have hy1:x+y≤840:=by omega
       have hdy:decide ((x:Int)+(y:Int)≤840-(h:Int))=false:=zDf (by omega)
       clear e
       rw[ej,csofar_row] at hrow
       have HR:=zN hrow
       clear ej
       have HXS:AtMul (.int .i64 ((x:Int)+(h:Int))) h (a+1):=AtMul.next HX.out
       clear hrow
       go_wp2
       go_roundw
       case rel=>first|exact⟨a+1,by omega,HXS,HR.out,hB⟩|((repeat apply zEx);exact⟨⟨a+1,by omega,HXS,HR.out,hB⟩,rfl⟩)
       case measure=>simp[intOf];omega
    ·have ea:a=n:=by omega
     have e:x=840:=by rw[HX.out,ea,HN.out]
     have hx1:x≤840:=by omega
     have hdx:decide ((x:Int)≤840-(h:Int))=false:=zDf (by omega)
     clear e
     rw[ea,csofar_face] at hrow
     have HR:=zN hrow
     clear hrow ea
     go_wp2
     go_roundw
     case rel=>first|exact⟨f+1,by omega,rfl,HR.out,hB⟩|((repeat apply zEx);exact⟨⟨f+1,by omega,rfl,HR.out,hB⟩,rfl⟩)
     case measure=>simp[intOf];omega
  ·have ef:f=20:=by omega
   have hdf:decide ((f:Int) < 20)=false:=zDf (by omega)
   rw[ef,csofar_end] at hrow
   have HR:=zN (CInv.fin hrow)
   clear hrow ef
   go_wp2
   refine bodyPost_ret (v:=.tuple #[_,.int .i64 0]) (by simp[results,Tryz.results105,go_sem]) rfl ⟨_,rfl,HR.out.mono hBs1,hB1.trans (hB.mono hBs1)⟩
def AroAt (w:World) (N M:Nat) (ls:Nat→List Int):Prop:=∃ vs:Nat→Value,w.rowIs N 22 M vs∧∀ i,i < M→w.ownsRow (N+1) 3 1 (vs i) (ls i).length ((ls i).map (Value.int .i64))
theorem AroAt.made (w:World) (M:Nat):AroAt (w.alloc (.cells (madeCells #[.slice none 0 0] M) 22)) w.heap.size M (fun _=>[]):=
 ⟨fun _=>.slice none 0 0,World.rowIs_made w _ M _,fun _ _=>World.ownsRow_nil _ _ _ _⟩
theorem AroAt.lt {w:World} {N M:Nat} {ls:Nat→List Int} (h:AroAt w N M ls):N < w.heap.size:=by
 obtain⟨vs,h1,_⟩:=h;exact h1.lt
theorem AroAt.below {w w':World} {N M:Nat} {ls:Nat→List Int} (h:AroAt w N M ls) (hb:Below w.heap.size w w'):AroAt w' N M ls:=by
 obtain⟨vs,h1,h2⟩:=h
 exact⟨vs,h1.of_block (hb.block N h1.lt),fun i hi=>own_below (h2 i hi) hb⟩
theorem AroAt.put {w w':World} {N M a:Nat} {ls:Nat→List Int} (h:AroAt w N M ls) (hb:Below w.heap.size w w') (ha:a < M) {v':Value} {l':List Int} (hown:w'.ownsRow (N+1) 3 1 v' l'.length (l'.map (Value.int .i64))):AroAt (w'.setCell ⟨N,a,none⟩ v') N M (setTo ls a l'):=by
 obtain⟨vs,h1,h2⟩:=h
 refine⟨fun i=>if i=a then v' else vs i,(h1.of_block (hb.block N h1.lt)).set a v',fun i hi=>?_⟩
 dsimp only
 unfold setTo
 by_cases hia:i=a
 ·rw[if_pos hia,if_pos hia]
  exact ownsRow_setCell_other hown (fun e=>by have h9:=(hown.lt N e).1;omega) _
 ·rw[if_neg hia,if_neg hia]
  exact ownsRow_setCell_other (own_below (h2 i hi) hb) (fun e=>by have h9:=((h2 i hi).lt N e).1;omega) _
theorem AroAt.row {w:World} {N M a:Nat} {ls:Nat→List Int} (h:AroAt w N M ls) (ha:a < M):∃ p cap b,w.cell? ⟨N,a,none⟩=some (.slice p (ls a).length cap)∧w.frozen? ⟨N,a,none⟩=false∧(ls a).length≤cap∧(0 < (ls a).length→p=some ⟨b,0,none⟩∧N < b∧b < w.heap.size)∧
  (∀ j (hj:j < (ls a).length),w.cell? ⟨b,j,none⟩=some (.int .i64 (ls a)[j]))∧(p=none→cap=0)∧w.ownsRow (N+1) 3 1 (.slice p (ls a).length cap) (ls a).length ((ls a).map (Value.int .i64)):=by
 obtain⟨vs,h1,h2⟩:=h
 have hc:=h1.cell ha
 have hf:=h1.frozen a
 have ho:=h2 a ha
 rcases ho.2 with ⟨e1,e2⟩|⟨g,cap,cur,e1,e2,e3,e4,_⟩
 ·have h0:(ls a).length=0:=e2
  rw[e1] at hc ho
  exact⟨none,0,0,by rw[h0];exact hc,hf,by omega,fun hh=>by omega,fun j hj=>by omega,fun _=>rfl,by rw[h0];rw[h0] at ho;exact ho⟩
 ·rw[e1] at hc ho
  refine⟨_,cap,g,hc,hf,e4,fun _=>⟨rfl,e2,(ho.lt g rfl).2⟩,fun j hj=>?_,(by intro e;cases e),ho⟩
  have h9:=World.ownsRow.cellAt ho j (by omega)
  rw[List.getElem?_map,List.getElem?_eq_getElem hj] at h9
  exact h9
abbrev vI (l:List Int):List Value:=l.map (Value.int .i64)
theorem own_ins {w:World} {base base':Nat} {v:Value} {l:List Int} {k m:Nat} {x:Int} (hk:k≤l.length) (hm:m=l.length-k) (h:w.ownsRow base 3 1 v (k+(1+m)) (vI (l.take k) ++ (#[Value.int .i64 x].toList ++ vI (l.drop k)))) (hb:base'≤base):w.ownsRow base' 3 1 v (l.take k ++ x :: l.drop k).length ((l.take k ++ x :: l.drop k).map (Value.int .i64)):=by
 have e1:(l.take k ++ x :: l.drop k).length=k+(1+m):=by
  rw[List.length_append,List.length_take,List.length_cons,List.length_drop];omega
 have e2:(l.take k ++ x :: l.drop k).map (Value.int .i64)=vI (l.take k) ++ (#[Value.int .i64 x].toList ++ vI (l.drop k)):=by
  rw[List.map_append,List.map_cons];rfl
 rw[e1,e2]
 exact own_mono h hb
theorem vI_one (l:List Int):∀ u∈vI l,u.oneCell'=true:=fun u hu=>by
 obtain⟨x,_,rfl⟩:=List.mem_map.1 hu;rfl
theorem vI_ins (x:Int) (l:List Int):∀ u∈#[Value.int .i64 x].toList ++ vI l,u.oneCell'=true:=fun u hu=>by
 rcases List.mem_append.1 hu with hu|hu
 ·simp only[List.mem_cons,List.not_mem_nil,or_false] at hu;subst hu;rfl
 ·exact vI_one l u hu
theorem cellsS_len {n:Nat} (h8:n≤8):(cellsS n).length≤5000:=by
 have:=len_csofar (f:=20) (a:=0) (b:=0) h8 (by omega) (by omega) (by omega)
 rw[csofar_end] at this
 unfold cellsS sort3 cells3
 rw[List.length_mergeSort,List.length_map];exact this
structure Aro (w:World) (N M:Nat) (P:List (Nat × Int)) (T:Nat):Prop where
 ex:∃ ls,AroAt w N M ls∧RowsOk ls P∧∀ i,(ls i).length≤T
theorem Aro.below {w w':World} {N M T:Nat} {P:List (Nat × Int)} (h:Aro w N M P T) (hb:Below w.heap.size w w'):Aro w' N M P T:=by
 obtain⟨ls,h1,h2⟩:=h.ex
 exact⟨ls,h1.below hb,h2⟩
theorem Aro.lt {w:World} {N M T:Nat} {P:List (Nat × Int)} (h:Aro w N M P T):N < w.heap.size:=by
 obtain⟨ls,h1,_⟩:=h.ex;exact h1.lt
def sixL (a0 a1 a2:Nat):List (Nat × Int):=[(a0,(a1:Int)),(a0,(a2:Int)),(a1,(a2:Int)),(a1,(a0:Int)),(a2,(a0:Int)),(a2,(a1:Int))]
theorem blkCell {w:World} {T j:Nat} {arr:Array Value} {ty:TypeId} {v:Value} (h:w.heap[T]?=some (.cells arr ty (0,0))) (hv:arr[j]?=some v):w.cell? ⟨T,j,none⟩=some v:=by
 simp only[World.cell?,h];exact hv
theorem six_cells {w:World} {T a0 a1 a2:Nat} {ty:TypeId} (h:w.heap[T]?=some (.cells #[.int .i64 (a0:Int),.int .i64 (a1:Int),.int .i64 (a0:Int),.int .i64 (a2:Int),.int .i64 (a1:Int),.int .i64 (a2:Int),.int .i64 (a1:Int),.int .i64 (a0:Int),.int .i64 (a2:Int),.int .i64 (a0:Int),.int .i64 (a2:Int),.int .i64 (a1:Int)] ty (0,0))) :
  ∀ q (hq:q < (sixL a0 a1 a2).length),w.cell? ⟨T,q*2,none⟩=some (.int .i64 (((sixL a0 a1 a2)[q].1:Nat):Int))∧w.cell? ⟨T,q*2+1,none⟩=some (.int .i64 (sixL a0 a1 a2)[q].2):=by
 intro q hq
 have:q=0∨q=1∨q=2∨q=3∨q=4∨q=5:=by simp[sixL] at hq;omega
 rcases this with rfl|rfl|rfl|rfl|rfl|rfl<;>exact⟨blkCell h rfl,blkCell h rfl⟩
theorem raround_any (n:Nat) (h1:1≤n) (h8:n≤8) (w:World):Calls Tryz.prog 72 #[.int .i64 n] w fun e w'=>∃ N,e=.returned (.slice (some ⟨N,0,none⟩) (nodesL n).length (nodesL n).length)∧AroAt w' N (nodesL n).length (nextL n)∧w.heap.size≤N∧Below w.heap.size w w':=by
 obtain⟨M,hM⟩:∃ M,M=(nodesL n).length:=⟨_,rfl⟩
 have hcM:countI (n:Int)=(M:Int):=by
  rw[(countI_nat h1 h8).1,hM,nodes_len h1 h8];simp
 have hM2:M≤2000:=by rw[hM];exact (nodes_fit h1 h8).2
 rw[←hM]
 have HM:=zN hM
 have HCM:=zN hcM
 clear hM hcM
 go_enter Tryz.func72,Tryz.ntmps72
 go_wp2_with fail
 refine (rcells_any n h1 h8 _).mono ?_
 rintro e w1 ⟨v,rfl,hrow,hB1⟩
 have hBs1:=hB1.size
 obtain⟨p,cap,bC,rfl,hcap,hpos,hat⟩:=hrow.form
 have HPOS:=zN hpos
 have HAT:=zN hat
 clear hpos hat hrow
 obtain⟨CL,hCL⟩:∃ CL,CL=(cellsS n).length:=⟨_,rfl⟩
 have hCL5:CL≤5000:=by rw[hCL];exact cellsS_len h8
 rw[←hCL] at hcap ⊢
 have HCL:=zN hCL
 clear hCL
 go_wp2_with fail
 refine (rcount_any n _).mono ?_
 rintro e w2 ⟨rfl,rfl⟩
 rw[HCM.out]
 have hmk:=run_make_row' (P:=Tryz.prog) 35 22 (.slice none 0 0) 24 Tryz.underlying35 (by kernel_rfl) rfl .i64 .i64 M (by omega) (by omega)
 go_wp2
 clear hmk
 have hA0:=AroAt.made w1 M
 have hB2:Below w1.heap.size w1 (w1.alloc (.cells (madeCells #[.slice none 0 0] M) 22)):=(zBr _ _).alloc (Nat.le_refl _) _
 obtain⟨N,hN⟩:∃ N,N=w1.heap.size:=⟨_,rfl⟩
 rw[←hN] at hA0 ⊢
 generalize w1.alloc (.cells (madeCells #[.slice none 0 0] M) 22)=W2 at *
 have HNN:=zN hN
 clear hN
 go_loopw [22] (fun i wr=>∃ m:Nat,m≤CL∧i=.int .i64 m∧Aro wr N M (((cellsS n).take m).flatMap six) (6*m)∧Below w1.heap.size w1 wr) (fun i _=>CL-(intOf i).toNat)
 case atStart=>exact⟨0,by omega,rfl,⟨fun _=>[],hA0,by simpa using RowsOk.start,fun i=>by simp⟩,hB2⟩
 case round=>
  clear hA0 hB2
  obtain⟨m,hm,rfl,hA,hB⟩:=hrel
  by_cases hlm:m < CL
  ·have hdm:decide (m < CL)=true:=zDt hlm
   have hml:m < (cellsS n).length:=by rw[←HCL.out];exact hlm
   obtain⟨rfl,hbC0,hbC1⟩:=HPOS.out (by omega)
   obtain⟨d0,d1,d2⟩:=HAT.out m hml
   have hin:=cells_in h1 h8 (cellsS n)[m] (by have:=List.getElem_mem hml;exact (List.mergeSort_perm _ _).mem_iff.1 this)
   have hsix:six (cellsS n)[m]=six ((cellsS n)[m].1,(cellsS n)[m].2.1,(cellsS n)[m].2.2):=rfl
   obtain⟨a0,ha0⟩:∃ a:Nat,(a:Int)=(cellsS n)[m].1:=⟨(cellsS n)[m].1.toNat,by omega⟩
   obtain⟨a1,ha1⟩:∃ a:Nat,(a:Int)=(cellsS n)[m].2.1:=⟨(cellsS n)[m].2.1.toNat,by omega⟩
   obtain⟨a2,ha2⟩:∃ a:Nat,(a:Int)=(cellsS n)[m].2.2:=⟨(cellsS n)[m].2.2.toNat,by omega⟩
   rw[←ha0,←ha1,←ha2,←HM.out] at hin
   rw[←ha0,←ha1,←ha2] at hsix
   rw[←ha0] at d0
   rw[←ha1] at d1
   rw[←ha2] at d2
   obtain⟨⟨_,hi0⟩,⟨_,hi1⟩,⟨_,hi2⟩⟩:=hin
   have HSX:Hid (six (cellsS n)[m]=[(a0,(a1:Int)),(a0,(a2:Int)),(a1,(a2:Int)),(a1,(a0:Int)),(a2,(a0:Int)),(a2,(a1:Int))]):=zN (by rw[hsix];simp[six])
   clear hsix ha0 ha1 ha2
   replace d0:=zP hB d0
   replace d1:=zP hB d1
   replace d2:=zP hB d2
   have hBs:=hB.size
   have hbCr:bC < wr.heap.size:=by omega
   have HBc:=zN hbCr
   have hNr:=hA.lt
   go_wp2
   have hBX:Below wr.heap.size wr ((wr.alloc (.cells #[.int .i64 (a0:Int),.int .i64 (a1:Int),.int .i64 (a2:Int)] 136)).alloc (.cells #[.int .i64 (a0:Int),.int .i64 (a1:Int),.int .i64 (a0:Int),.int .i64 (a2:Int),.int .i64 (a1:Int),.int .i64 (a2:Int),.int .i64 (a1:Int),.int .i64 (a0:Int),.int .i64 (a2:Int),.int .i64 (a0:Int),.int .i64 (a2:Int),.int .i64 (a1:Int)] 102)):=(by repeat (first|(with_reducible first|assumption|exact zBr _ _|refine zBs ?_ (by first|omega|(simp<;>omega)) _|refine zBa ?_ (by first|omega|(simp<;>omega)) _|apply zBd)|assumption))
   have hTX:((wr.alloc (.cells #[.int .i64 (a0:Int),.int .i64 (a1:Int),.int .i64 (a2:Int)] 136)).alloc (.cells #[.int .i64 (a0:Int),.int .i64 (a1:Int),.int .i64 (a0:Int),.int .i64 (a2:Int),.int .i64 (a1:Int),.int .i64 (a2:Int),.int .i64 (a1:Int),.int .i64 (a0:Int),.int .i64 (a2:Int),.int .i64 (a0:Int),.int .i64 (a2:Int),.int .i64 (a1:Int)] 102)).heap[wr.heap.size+1]?=some (.cells #[.int .i64 (a0:Int),.int .i64 (a1:Int),.int .i64 (a0:Int),.int .i64 (a2:Int),.int .i64 (a1:Int),.int .i64 (a2:Int),.int .i64 (a1:Int),.int .i64 (a0:Int),.int .i64 (a2:Int),.int .i64 (a0:Int),.int .i64 (a2:Int),.int .i64 (a1:Int)] 102 (0,0)):=by
    have h9:=heap_alloc_new (wr.alloc (.cells #[.int .i64 (a0:Int),.int .i64 (a1:Int),.int .i64 (a2:Int)] 136)) (.cells #[.int .i64 (a0:Int),.int .i64 (a1:Int),.int .i64 (a0:Int),.int .i64 (a2:Int),.int .i64 (a1:Int),.int .i64 (a2:Int),.int .i64 (a1:Int),.int .i64 (a0:Int),.int .i64 (a2:Int),.int .i64 (a0:Int),.int .i64 (a2:Int),.int .i64 (a1:Int)] 102)
    rwa[show (wr.alloc (.cells #[.int .i64 (a0:Int),.int .i64 (a1:Int),.int .i64 (a2:Int)] 136)).heap.size=wr.heap.size+1 by simp] at h9
   have hAX:=hA.below hBX
   have hBX1:=hB.trans (hBX.mono hBs)
   have H6:=zN (fun (w':World) h=>six_cells (w:=w') (T:=wr.heap.size+1) (a0:=a0) (a1:=a1) (a2:=a2) (ty:=102) h)
   have hPM:∀ y∈sixL a0 a1 a2,y.1 < M:=by
    intro y hy
    simp only[sixL,List.mem_cons,List.not_mem_nil,or_false] at hy
    rcases hy with rfl|rfl|rfl|rfl|rfl|rfl<;>dsimp only<;>omega
   have hP6:(sixL a0 a1 a2).length=6:=rfl
   have HSX2:Hid (((cellsS n).take (m+1)).flatMap six=((cellsS n).take m).flatMap six ++ sixL a0 a1 a2):=zN (by
    rw[List.take_succ_eq_append_getElem hml,List.flatMap_append,List.flatMap_cons,HSX.out];simp[sixL])
   obtain⟨T6,hT6⟩:∃ T,T=wr.heap.size+1:=⟨_,rfl⟩
   rw[←hT6] at hTX H6 ⊢
   generalize ((wr.alloc (.cells #[.int .i64 (a0:Int),.int .i64 (a1:Int),.int .i64 (a2:Int)] 136)).alloc (.cells #[.int .i64 (a0:Int),.int .i64 (a1:Int),.int .i64 (a0:Int),.int .i64 (a2:Int),.int .i64 (a1:Int),.int .i64 (a2:Int),.int .i64 (a1:Int),.int .i64 (a0:Int),.int .i64 (a2:Int),.int .i64 (a0:Int),.int .i64 (a2:Int),.int .i64 (a1:Int)] 102))=WX at *
   generalize (#[.int .i64 (a0:Int),.int .i64 (a1:Int),.int .i64 (a0:Int),.int .i64 (a2:Int),.int .i64 (a1:Int),.int .i64 (a2:Int),.int .i64 (a1:Int),.int .i64 (a0:Int),.int .i64 (a2:Int),.int .i64 (a0:Int),.int .i64 (a2:Int),.int .i64 (a1:Int)]:Array Value)=arr at *
   generalize sixL a0 a1 a2=P6 at *
   generalize ((cellsS n).take m).flatMap six=P0 at *
   have hNT:N < T6:=by omega
   have HPM:=zN hPM
   have HP6:=zN hP6
   clear hA hB hBX HSX d0 d1 d2 hi0 hi1 hi2 hPM hP6 hBs hNr
   clear hT6
   go_loopw [58] (fun i wr=>∃ q:Nat,q≤6∧i=.int .i64 q∧Aro wr N M (P0 ++ P6.take q) (6*m+q)∧Below w1.heap.size w1 wr∧wr.heap[T6]?=some (.cells arr 102 (0,0))) (fun i _=>6-(intOf i).toNat)
   case atStart=>exact⟨0,by omega,rfl,by simpa using hAX,hBX1,hTX⟩
   case round=>
    clear hAX hBX1 hTX
    obtain⟨q,hq,rfl,hA,hB,hT⟩:=hrel
    by_cases hq6:q < 6
    ·have hdq:decide (q < 6)=true:=zDt hq6
     have hqP:q < P6.length:=by rw[HP6.out];exact hq6
     obtain⟨c0,c1⟩:=H6.out _ hT q hqP
     have ha:=HPM.out _ (List.getElem_mem hqP)
     have HPQ:Hid (P0 ++ P6.take (q+1)=(P0 ++ P6.take q) ++ [(P6[q].1,P6[q].2)]):=zN (by rw[List.take_succ_eq_append_getElem hqP,List.append_assoc])
     generalize P6[q].1=a at *
     generalize P6[q].2=x at *
     have hNs:=hA.lt
     have hTl:T6 < wr.heap.size:=lt_of_block hT
     have hBs:=hB.size
     have hdq2:decide ((q:Int) < 6)=true:=zDt (by omega)
     go_wp2
     have hb3:Below wr.heap.size wr (wr.alloc (.cells #[.int .i64 (a:Int),.int .i64 x] 102)):=(zBr _ _).alloc (Nat.le_refl _) _
     have e0:(wr.alloc (.cells #[.int .i64 (a:Int),.int .i64 x] 102)).cell? ⟨wr.heap.size,0,none⟩=some (.int .i64 (a:Int)):=blkCell (j:=0) (heap_alloc_new wr (.cells #[.int .i64 (a:Int),.int .i64 x] 102)) rfl
     have e1:(wr.alloc (.cells #[.int .i64 (a:Int),.int .i64 x] 102)).cell? ⟨wr.heap.size,1,none⟩=some (.int .i64 x):=blkCell (j:=1) (heap_alloc_new wr (.cells #[.int .i64 (a:Int),.int .i64 x] 102)) rfl
     have hA3:=hA.below hb3
     have hB3:=hB.trans (hb3.mono hBs)
     have hT3:=(hb3.block T6 hTl).trans hT
     have hs3:wr.heap.size < (wr.alloc (.cells #[.int .i64 (a:Int),.int .i64 x] 102)).heap.size:=by simp
     obtain⟨T9,hT9⟩:∃ T,T=wr.heap.size:=⟨_,rfl⟩
     rw[←hT9] at e0 e1 hNs hs3 hTl ⊢
     generalize wr.alloc (.cells #[.int .i64 (a:Int),.int .i64 x] 102)=W3 at *
     obtain⟨ls,hL,hR,hlen⟩:=hA3.ex
     obtain⟨pr,cp,br,r0,rf,rcap,rpos,rat,rnone,rown⟩:=hL.row ha
     have hl9:(ls a).length≤40000:=by have:=hlen a;omega
     have HMORE:Hid (∀ (k:Nat),k≤(ls a).length→(∀ j (h:j < (ls a).length),j < k→(ls a)[j] < x)→(∀ h:k < (ls a).length,x < (ls a)[k])→∀ w' v',Below W3.heap.size W3 w'→w'.ownsRow (N+1) 3 1 v' ((ls a).take k ++ x :: (ls a).drop k).length (((ls a).take k ++ x :: (ls a).drop k).map (Value.int .i64))→
       Aro (w'.setCell ⟨N,a,none⟩ v') N M (P0 ++ P6.take (q+1)) (6*m+(q+1))∧Below w1.heap.size w1 (w'.setCell ⟨N,a,none⟩ v')∧(w'.setCell ⟨N,a,none⟩ v').heap[T6]?=some (.cells arr 102 (0,0))):=zN (fun k hk g1 g2 w' v' hb ho=>by
      refine⟨⟨setTo ls a ((ls a).take k ++ x :: (ls a).drop k),hL.put hb ha ho,?_,fun i=>?_⟩,(hB3.trans (hb.mono hB3.size)).setCell (by rw[←HNN.out];exact Nat.le_refl _) _,?_⟩
      ·rw[HPQ.out];exact hR.more g1 g2
      ·unfold setTo
       split
       ·rw[ins_len];have:=hlen a;omega
       ·have:=hlen i;omega
      ·exact (Below.heap_setCell w' ⟨N,a,none⟩ v' T6 (by simp;omega)).trans ((hb.block T6 (by omega)).trans hT3))
     have HSAME:Hid (x∈ls a→∀ w',Below W3.heap.size W3 w'→Aro w' N M (P0 ++ P6.take (q+1)) (6*m+(q+1))∧Below w1.heap.size w1 w'∧w'.heap[T6]?=some (.cells arr 102 (0,0))):=zN (fun hx w' hb=>
      ⟨⟨ls,hL.below hb,by rw[HPQ.out];exact hR.same hx,fun i=>by have:=hlen i;omega⟩,hB3.trans (hb.mono hB3.size),(hb.block T6 (by omega)).trans hT3⟩)
     generalize ls a=l at *
     have HPOS2:=zN rpos
     have HAT2:=zN rat
     have HNONE:=zN rnone
     have HOWN:=zN rown
     clear rpos rat rnone rown hL hR hlen hA3 hA hB hT hb3 hT3 c0 c1 hT9 hB3
     go_loopw [10] (fun i wk=>∃ k:Nat,k≤l.length∧i=.int .i64 k∧Hid (∀ j (h:j < l.length),j < k→l[j] < x)∧Below W3.heap.size W3 wk) (fun i _=>l.length-(intOf i).toNat)
     case atStart=>exact⟨0,by omega,rfl,zN (fun j _ h=>by omega),(by repeat (first|(with_reducible first|assumption|exact zBr _ _|refine zBs ?_ (by first|omega|(simp<;>omega)) _|refine zBa ?_ (by first|omega|(simp<;>omega)) _|apply zBd)|assumption))⟩
     case round=>
      obtain⟨k,hk,rfl,HK,hBk⟩:=hrel
      have f0:=zP hBk e0
      have f1:=zP hBk e1
      have g0:=zP hBk r0
      by_cases hkl:k < l.length
      ·have hdk:decide (k < l.length)=true:=zDt hkl
       have hdk2:decide ((k:Int) < (l.length:Int))=true:=zDt (by omega)
       obtain⟨rfl,hbr0,hbr1⟩:=HPOS2.out (by omega)
       have y0:=zP hBk (HAT2.out k hkl)
       obtain⟨y,hy⟩:∃ y,y=l[k]:=⟨_,rfl⟩
       rw[←hy] at y0
       have HY:=zN hy
       clear hy
       rcases (show y < x∨y=x∨x < y by omega) with hyx|hyx|hyx
       ·have hdy:decide (y < x)=true:=zDt hyx
        have HK2:Hid (∀ j (h:j < l.length),j < k+1→l[j] < x):=zN (fun j h hj=>by
         by_cases e:j=k
         ·subst e;rw[←HY.out];exact hyx
         ·exact HK.out j h (by omega))
        clear hyx
        go_wp2
        go_quiet (fail)
        go_wp2
        go_roundw
        case rel=>first|exact⟨k+1,by omega,by go_num,HK2,below_drewN hBk _⟩|((repeat apply zEx);refine⟨⟨k+1,by omega,?_,HK2,below_drewN hBk _⟩,rfl⟩;first|rfl|go_num)
        case measure=>simp[intOf];omega
       ·have hdy:decide (y < x)=false:=zDf (by omega)
        have hey:(y == x)=true:=by rw[beq_iff_eq];omega
        have HS:=zN (HSAME.out (by rw[←hyx,HY.out];exact List.getElem_mem hkl))
        clear hyx
        go_wp2
        go_quiet (fail)
        go_wp2
        refine absW (F:=fun w'=>Below W3.heap.size W3 w') (below_drewN hBk _) ?_
        clear f0 f1 g0 y0 hBk
        rintro w5 hB5
        have f0:=zP hB5 e0
        have f1:=zP hB5 e1
        have g0:=zP hB5 r0
        have y0:=zP hB5 (HAT2.out k hkl)
        rw[←HY.out] at y0
        go_quiet (fail)
        go_wp2
        go_roundw
        case rel=>first|exact⟨q+1,by omega,by go_num,(HS.out _ (below_drewN hB5 _)).1,(HS.out _ (below_drewN hB5 _)).2.1,(HS.out _ (below_drewN hB5 _)).2.2⟩|((repeat apply zEx);refine⟨⟨q+1,by omega,?_,(HS.out _ (below_drewN hB5 _)).1,(HS.out _ (below_drewN hB5 _)).2.1,(HS.out _ (below_drewN hB5 _)).2.2⟩,rfl⟩;first|rfl|go_num)
        case measure=>simp[intOf];omega
       ·have hdy:decide (y < x)=false:=zDf (by omega)
        have hey:(y == x)=false:=by rw[beq_eq_false_iff_ne];omega
        have HM2:=zN (HMORE.out k hk HK.out (fun _=>by rw[←HY.out];exact hyx))
        clear hyx
        go_wp2
        go_quiet (fail)
        go_wp2
        refine absW (F:=fun w'=>Below W3.heap.size W3 w') (below_drewN hBk _) ?_
        clear f0 f1 g0 y0 hBk
        rintro w5 hB5
        have f0:=zP hB5 e0
        have f1:=zP hB5 e1
        have g0:=zP hB5 r0
        have y0:=zP hB5 (HAT2.out k hkl)
        rw[←HY.out] at y0
        go_quiet (fail)
        go_wp2
        have hkc:¬ cp=k:=by omega
        refine absW (F:=fun w'=>Below W3.heap.size W3 w') (below_drewN hB5 _) ?_
        clear f0 f1 g0 hB5
        rintro w6 hB6
        have f0:=zP hB6 e0
        have f1:=zP hB6 e1
        have g0:=zP hB6 r0
        have hO6:=own_below HOWN.out hB6
        have hN6:N < w6.heap.size:=by have:=hB6.size;omega
        have hT96:T9 < w6.heap.size:=by have:=hB6.size;omega
        have rf6:w6.frozen? ⟨N,a,none⟩=false:=(zFb (hB6.block N (by omega))).trans rf
        refine RX.region RX.fN (fun w'=>w'.cell? ⟨T9,0,none⟩=some (.int .i64 (a:Int))∧w'.cell? ⟨T9,1,none⟩=some (.int .i64 x)∧w'.cell? ⟨N,a,none⟩=some (.slice (some ⟨br,0,none⟩) l.length cp)) (by kernel_rfl) (by kernel_rfl) (⟨(by (try have hLt:=zM _ _ f0);(try simp only at hLt);(repeat first|rw[zO]|rw[zK _ _ _ _ (by first|(simp<;>omega)|omega)]|rw[zJ,if_neg (by first|(simp<;>omega)|omega)]);first|exact f0|(rw[zJ,if_pos (by first|(simp;done)|omega)];exact f0)),(by (try have hLt:=zM _ _ f1);(try simp only at hLt);(repeat first|rw[zO]|rw[zK _ _ _ _ (by first|(simp<;>omega)|omega)]|rw[zJ,if_neg (by first|(simp<;>omega)|omega)]);first|exact f1|(rw[zJ,if_pos (by first|(simp;done)|omega)];exact f1)),(by (try have hLt:=zM _ _ g0);(try simp only at hLt);(repeat first|rw[zO]|rw[zK _ _ _ _ (by first|(simp<;>omega)|omega)]|rw[zJ,if_neg (by first|(simp<;>omega)|omega)]);first|exact g0|(rw[zJ,if_pos (by first|(simp;done)|omega)];exact g0))⟩) (fun OPS HO QR hQR=>?_)
        repeat (refine zeX (fun R hR=>?_);(first|refine zaX (by first|rfl|(rw[HO.out];rfl)) (by simp only[zA,zB,zC,zD];rfl) ?_|refine zbX (by first|rfl|(rw[HO.out];rfl)) rfl (by first|exact .inl rfl|exact .inr rfl) (by simp only[zE,zF,zG,zH];rfl) (by simp only[zA,zB,zC,zD];rfl) ?_|refine zcX (by first|rfl|(rw[HO.out];rfl)) rfl rfl (by simp only[zE,zF,zG,zH];rfl) (by simp only[zA,zB,zC,zD];rfl) ?_|(refine zdX (by first|rfl|(rw[HO.out];rfl)) rfl rfl rfl ?_;apply zEx;apply zEx;refine⟨fun w' hS K hK=>?_,?_,?_⟩;(focus (obtain⟨hS1,hS2,hS3⟩:=hS;go_wp2;exact hK _ _ (by simp only[zl,zG,zH];first|exact zf (by omega)|exact zg (by omega)|exact zh (by omega)|exact zi (by omega)|exact zj (by omega)|exact zk (by omega)|exact RX.bneB _|rfl) rfl));(focus (simp only[zA,zB,zC,zD];rfl))));refine hR _ _ ?_;clear hR R)
        refine zeX (fun R hR=>?_)
        refine zgX (by first|rfl|(rw[HO.out];rfl)) rfl (fun K hK=>?_)
        go_wp2
        refine⟨⟨(by (try have hLt:=zM _ _ f0);(try simp only at hLt);(repeat first|rw[zO]|rw[zK _ _ _ _ (by first|(simp<;>omega)|omega)]|rw[zJ,if_neg (by first|(simp<;>omega)|omega)]);first|exact f0|(rw[zJ,if_pos (by first|(simp;done)|omega)];exact f0)),(by (try have hLt:=zM _ _ f1);(try simp only at hLt);(repeat first|rw[zO]|rw[zK _ _ _ _ (by first|(simp<;>omega)|omega)]|rw[zJ,if_neg (by first|(simp<;>omega)|omega)]);first|exact f1|(rw[zJ,if_pos (by first|(simp;done)|omega)];exact f1)),(by (try have hLt:=zM _ _ g0);(try simp only at hLt);(repeat first|rw[zO]|rw[zK _ _ _ _ (by first|(simp<;>omega)|omega)]|rw[zJ,if_neg (by first|(simp<;>omega)|omega)]);first|exact g0|(rw[zJ,if_pos (by first|(simp;done)|omega)];exact g0))⟩,hR _ _ ?_⟩;clear hR R
        repeat (refine zeX (fun R hR=>?_);(first|refine zaX (by first|rfl|(rw[HO.out];rfl)) (by simp only[zA,zB,zC,zD];rfl) ?_|refine zbX (by first|rfl|(rw[HO.out];rfl)) rfl (by first|exact .inl rfl|exact .inr rfl) (by simp only[zE,zF,zG,zH];rfl) (by simp only[zA,zB,zC,zD];rfl) ?_|refine zcX (by first|rfl|(rw[HO.out];rfl)) rfl rfl (by simp only[zE,zF,zG,zH];rfl) (by simp only[zA,zB,zC,zD];rfl) ?_|(refine zdX (by first|rfl|(rw[HO.out];rfl)) rfl rfl rfl ?_;apply zEx;apply zEx;refine⟨fun w' hS K hK=>?_,?_,?_⟩;(focus (obtain⟨hS1,hS2,hS3⟩:=hS;go_wp2;exact hK _ _ (by simp only[zl,zG,zH];first|exact zf (by omega)|exact zg (by omega)|exact zh (by omega)|exact zi (by omega)|exact zj (by omega)|exact zk (by omega)|exact RX.bneB _|rfl) rfl));(focus (simp only[zA,zB,zC,zD];rfl))));refine hR _ _ ?_;clear hR R)
        refine zeX (fun R hR=>?_)
        refine zgX (by first|rfl|(rw[HO.out];rfl)) rfl (fun K hK=>?_)
        have hb1:Below w6.heap.size w6 (w6.drew.alloc (.cells #[.int .i64 x] 3)):=(by repeat (first|(with_reducible first|assumption|exact zBr _ _|refine zBs ?_ (by first|omega|(simp<;>omega)) _|refine zBa ?_ (by first|omega|(simp<;>omega)) _|apply zBd)|assumption))
        refine RX.wp_apr elInt _ _ rfl w6.heap.size #[.int .i64 x] (by first|(simp only[RX.eval_tmp,RX.eval_const,List.getD_cons_zero,List.getD_cons_succ];done)|(simp only[RX.eval_tmp,RX.eval_const,List.getD_cons_zero,List.getD_cons_succ];rfl)) (heap_alloc_new _ _) rfl (some ⟨br,k,none⟩) (l.length-k) _ (vI (l.drop k)) (by first|(simp only[RX.eval_tmp,RX.eval_const,List.getD_cons_zero,List.getD_cons_succ];done)|(simp only[RX.eval_tmp,RX.eval_const,List.getD_cons_zero,List.getD_cons_succ];rfl)) (by simp) (by have h9:=((RX.SrcAt.of_own hO6).keep (fun _ _ hp=>zP hb1 hp)).cut (k:=k) (cap:=cp) (size:=1) (by omega) rcap;rw[if_neg hkc,Nat.mul_one,←List.map_drop,show Option.map (fun x:Addr=>x.add k) (some ⟨br,0,none⟩)=some ⟨br,k,none⟩ from by simp[Addr.add_lit]] at h9;exact h9) (vI_one _) (by omega) (by omega) (fun v1 w7 hown1 hg1 hat1=>?_)
        have hb7:Below w6.heap.size w6 w7:=hb1.grown hg1 (by simp) (fun k' hk'=>by injection hk' with hk';omega)
        clear hat1 hg1
        have f07:=zP hb7 f0
        have f17:=zP hb7 f1
        have g07:=zP hb7 g0
        refine hK _ _ ⟨⟨f07,f17,g07⟩,?_⟩;clear hK K;refine RX.at_ (by simp only[RX.put_some,RX.put_none,List.set_cons_zero,List.set_cons_succ];rfl) (hR _ _ ?_);clear hR R
        repeat (refine zeX (fun R hR=>?_);(first|refine zaX (by first|rfl|(rw[HO.out];rfl)) (by simp only[zA,zB,zC,zD];rfl) ?_|refine zbX (by first|rfl|(rw[HO.out];rfl)) rfl (by first|exact .inl rfl|exact .inr rfl) (by simp only[zE,zF,zG,zH];rfl) (by simp only[zA,zB,zC,zD];rfl) ?_|refine zcX (by first|rfl|(rw[HO.out];rfl)) rfl rfl (by simp only[zE,zF,zG,zH];rfl) (by simp only[zA,zB,zC,zD];rfl) ?_|(refine zdX (by first|rfl|(rw[HO.out];rfl)) rfl rfl rfl ?_;apply zEx;apply zEx;refine⟨fun w' hS K hK=>?_,?_,?_⟩;(focus (obtain⟨hS1,hS2,hS3⟩:=hS;go_wp2;exact hK _ _ (by simp only[zl,zG,zH];first|exact zf (by omega)|exact zg (by omega)|exact zh (by omega)|exact zi (by omega)|exact zj (by omega)|exact zk (by omega)|exact RX.bneB _|rfl) rfl));(focus (simp only[zA,zB,zC,zD];rfl))));refine hR _ _ ?_;clear hR R)
        refine RX.wpL_nil (hQR _ _ (⟨f07,f17,g07⟩) ?_);clear hQR QR HO OPS
        go_wp2
        have hs2:RX.SrcAt w7.drew (some ⟨br,0,none⟩) (k) (vI (l.take (k))):=by
         have h9:=((RX.SrcAt.of_own hO6).keep (fun _ _ hp=>zP hb7.drew hp)).take (k:=k) (size:=1) (by omega)
         rw[Nat.mul_one,←List.map_take] at h9;exact h9
        refine RY.region RX.fN (fun w'=>w'.cell? ⟨T9,0,none⟩=some (.int .i64 (a:Int))∧w'.cell? ⟨T9,1,none⟩=some (.int .i64 x)∧w'.cell? ⟨N,a,none⟩=some (.slice (some ⟨br,0,none⟩) l.length cp)) (by kernel_rfl) (by kernel_rfl) (⟨(by (try have hLt:=zM _ _ f07);(try simp only at hLt);(repeat first|rw[zO]|rw[zK _ _ _ _ (by first|(simp<;>omega)|omega)]|rw[zJ,if_neg (by first|(simp<;>omega)|omega)]);first|exact f07|(rw[zJ,if_pos (by first|(simp;done)|omega)];exact f07)),(by (try have hLt:=zM _ _ f17);(try simp only at hLt);(repeat first|rw[zO]|rw[zK _ _ _ _ (by first|(simp<;>omega)|omega)]|rw[zJ,if_neg (by first|(simp<;>omega)|omega)]);first|exact f17|(rw[zJ,if_pos (by first|(simp;done)|omega)];exact f17)),(by (try have hLt:=zM _ _ g07);(try simp only at hLt);(repeat first|rw[zO]|rw[zK _ _ _ _ (by first|(simp<;>omega)|omega)]|rw[zJ,if_neg (by first|(simp<;>omega)|omega)]);first|exact g07|(rw[zJ,if_pos (by first|(simp;done)|omega)];exact g07))⟩) (fun OPS HO QR hQR=>?_)
        repeat (refine zeY (fun R hR=>?_);(first|refine zaY (by first|rfl|(rw[HO.out];rfl)) (by simp only[zA,zB,zC,zD];rfl) ?_|refine zbY (by first|rfl|(rw[HO.out];rfl)) rfl (by first|exact .inl rfl|exact .inr rfl) (by simp only[zE,zF,zG,zH];rfl) (by simp only[zA,zB,zC,zD];rfl) ?_|refine zcY (by first|rfl|(rw[HO.out];rfl)) rfl rfl (by simp only[zE,zF,zG,zH];rfl) (by simp only[zA,zB,zC,zD];rfl) ?_|(refine zdY (by first|rfl|(rw[HO.out];rfl)) rfl rfl rfl ?_;apply zEx;apply zEx;refine⟨fun w' hS K hK=>?_,?_,?_⟩;(focus (obtain⟨hS1,hS2,hS3⟩:=hS;go_wp2;exact hK _ _ (by simp only[zl,zG,zH];first|exact zf (by omega)|exact zg (by omega)|exact zh (by omega)|exact zi (by omega)|exact zj (by omega)|exact zk (by omega)|exact RX.bneB _|rfl) rfl));(focus (simp only[zA,zB,zC,zD];rfl))));refine hR _ _ ?_;clear hR R)
        refine zeY (fun R hR=>?_)
        refine zgY (by first|rfl|(rw[HO.out];rfl)) rfl (fun K hK=>?_)
        refine RX.wp_apg elInt _ _ rfl (some ⟨br,0,none⟩) (k) (vI (l.take (k))) (by first|(simp only[RX.eval_tmp,RX.eval_const,List.getD_cons_zero,List.getD_cons_succ];done)|(simp only[RX.eval_tmp,RX.eval_const,List.getD_cons_zero,List.getD_cons_succ];rfl)) (fun e=>by cases e) (by first|(simp;done)|(simp;omega)) hs2 w6.heap.size (1+(l.length-k)) v1 _ (by first|(simp only[RX.eval_tmp,RX.eval_const,List.getD_cons_zero,List.getD_cons_succ];done)|(simp only[RX.eval_tmp,RX.eval_const,List.getD_cons_zero,List.getD_cons_succ];rfl)) (World.ownsRow.drew hown1) (by omega) (vI_ins _ _) (by omega) (by omega) (fun v2 w8 hown2 hg2=>?_)
        have hb8:Below w6.heap.size w6 w8:=hb7.drew.grown hg2 hb7.drew.size (fun k' hk'=>by cases hk')
        obtain⟨p2,c2,hv2,_⟩:=own_slice hown2
        subst hv2
        have f08:=zP hb8 f0
        have f18:=zP hb8 f1
        have g08:=zP hb8 g0
        have rf8:w8.frozen? ⟨N,a,none⟩=false:=(zFb (hb8.block N hN6)).trans rf6
        have HF:=zN (HM2.out w8 _ (hB6.trans (hb8.mono hB6.size)) (own_ins (by first|omega|simp) (by first|omega|simp) hown2 (by have:=hb7.size;have:=hB6.size;simp;omega)))
        clear hown1 hown2 hg2 hb1 hb7 hs2 f07 f17 g07 hO6 hb8
        refine hK _ _ ⟨.inr (⟨f08,f18,g08⟩),?_⟩;clear hK K;refine RY.at_ (by simp only[RX.put_some,RX.put_none,List.set_cons_zero,List.set_cons_succ];rfl) (hR _ _ ?_);clear hR R
        repeat (refine zeY (fun R hR=>?_);(first|refine zaY (by first|rfl|(rw[HO.out];rfl)) (by simp only[zA,zB,zC,zD];rfl) ?_|refine zbY (by first|rfl|(rw[HO.out];rfl)) rfl (by first|exact .inl rfl|exact .inr rfl) (by simp only[zE,zF,zG,zH];rfl) (by simp only[zA,zB,zC,zD];rfl) ?_|refine zcY (by first|rfl|(rw[HO.out];rfl)) rfl rfl (by simp only[zE,zF,zG,zH];rfl) (by simp only[zA,zB,zC,zD];rfl) ?_|(refine zdY (by first|rfl|(rw[HO.out];rfl)) rfl rfl rfl ?_;apply zEx;apply zEx;refine⟨fun w' hS K hK=>?_,?_,?_⟩;(focus (obtain⟨hS1,hS2,hS3⟩:=hS;go_wp2;exact hK _ _ (by simp only[zl,zG,zH];first|exact zf (by omega)|exact zg (by omega)|exact zh (by omega)|exact zi (by omega)|exact zj (by omega)|exact zk (by omega)|exact RX.bneB _|rfl) rfl));(focus (simp only[zA,zB,zC,zD];rfl))));refine hR _ _ ?_;clear hR R)
        refine zeY (fun R hR=>?_)
        refine zgY (by first|rfl|(rw[HO.out];rfl)) rfl (fun K hK=>?_)
        go_wp2
        first|refine⟨(by first|exact .inl rfl|exact .inl trivial|trivial),hR _ _ (RY.wpL_nil (hQR _ _ ?_))⟩|refine hR _ _ (RY.wpL_nil (hQR _ _ ?_))|refine hQR _ _ ?_
        (try clear hR);(try clear R);clear hQR QR HO OPS
        go_wp2
        go_roundw
        case rel=>first|exact⟨q+1,by omega,by go_num,HF.out.1,HF.out.2.1,HF.out.2.2⟩|((repeat apply zEx);refine⟨⟨q+1,by omega,?_,HF.out.1,HF.out.2.1,HF.out.2.2⟩,rfl⟩;first|rfl|go_num)
        case measure=>simp[intOf];omega
      ·have ek:k=l.length:=by omega
       have hdk:decide (k < l.length)=false:=zDf hkl
       have hdk2:decide ((k:Int) < (l.length:Int))=false:=zDf (by omega)
       have HM2:=zN (HMORE.out k hk HK.out (fun h=>absurd h hkl))
       subst ek
       cases pr with
       |none=>
        obtain rfl:=HNONE.out rfl
        have h0:l.length=0:=by omega
        obtain rfl:l=[]:=List.eq_nil_of_length_eq_zero h0
        clear h0
        simp only[List.length_nil] at *
        go_wp2
        go_quiet (fail)
        go_wp2
        refine absW (F:=fun w'=>Below W3.heap.size W3 w') (below_drewN hBk _) ?_
        clear f0 f1 g0 hBk
        rintro w5 hB5
        have f0:=zP hB5 e0
        have f1:=zP hB5 e1
        have g0:=zP hB5 r0
        go_quiet (fail)
        go_wp2
        refine absW (F:=fun w'=>Below W3.heap.size W3 w') (below_drewN hB5 _) ?_
        clear f0 f1 g0 hB5
        rintro w6 hB6
        have f0:=zP hB6 e0
        have f1:=zP hB6 e1
        have g0:=zP hB6 r0
        have hO6:=own_below HOWN.out hB6
        have hN6:N < w6.heap.size:=by have:=hB6.size;omega
        have hT96:T9 < w6.heap.size:=by have:=hB6.size;omega
        have rf6:w6.frozen? ⟨N,a,none⟩=false:=(zFb (hB6.block N (by omega))).trans rf
        refine RX.region RX.fN (fun w'=>w'.cell? ⟨T9,0,none⟩=some (.int .i64 (a:Int))∧w'.cell? ⟨T9,1,none⟩=some (.int .i64 x)∧w'.cell? ⟨N,a,none⟩=some (.slice none 0 0)) (by kernel_rfl) (by kernel_rfl) (⟨(by (try have hLt:=zM _ _ f0);(try simp only at hLt);(repeat first|rw[zO]|rw[zK _ _ _ _ (by first|(simp<;>omega)|omega)]|rw[zJ,if_neg (by first|(simp<;>omega)|omega)]);first|exact f0|(rw[zJ,if_pos (by first|(simp;done)|omega)];exact f0)),(by (try have hLt:=zM _ _ f1);(try simp only at hLt);(repeat first|rw[zO]|rw[zK _ _ _ _ (by first|(simp<;>omega)|omega)]|rw[zJ,if_neg (by first|(simp<;>omega)|omega)]);first|exact f1|(rw[zJ,if_pos (by first|(simp;done)|omega)];exact f1)),(by (try have hLt:=zM _ _ g0);(try simp only at hLt);(repeat first|rw[zO]|rw[zK _ _ _ _ (by first|(simp<;>omega)|omega)]|rw[zJ,if_neg (by first|(simp<;>omega)|omega)]);first|exact g0|(rw[zJ,if_pos (by first|(simp;done)|omega)];exact g0))⟩) (fun OPS HO QR hQR=>?_)
        repeat (refine zeX (fun R hR=>?_);(first|refine zaX (by first|rfl|(rw[HO.out];rfl)) (by simp only[zA,zB,zC,zD];rfl) ?_|refine zbX (by first|rfl|(rw[HO.out];rfl)) rfl (by first|exact .inl rfl|exact .inr rfl) (by simp only[zE,zF,zG,zH];rfl) (by simp only[zA,zB,zC,zD];rfl) ?_|refine zcX (by first|rfl|(rw[HO.out];rfl)) rfl rfl (by simp only[zE,zF,zG,zH];rfl) (by simp only[zA,zB,zC,zD];rfl) ?_|(refine zdX (by first|rfl|(rw[HO.out];rfl)) rfl rfl rfl ?_;apply zEx;apply zEx;refine⟨fun w' hS K hK=>?_,?_,?_⟩;(focus (obtain⟨hS1,hS2,hS3⟩:=hS;go_wp2;exact hK _ _ (by simp only[zl,zG,zH];first|exact zf (by omega)|exact zg (by omega)|exact zh (by omega)|exact zi (by omega)|exact zj (by omega)|exact zk (by omega)|exact RX.bneB _|rfl) rfl));(focus (simp only[zA,zB,zC,zD];rfl))));refine hR _ _ ?_;clear hR R)
        refine zeX (fun R hR=>?_)
        refine zgX (by first|rfl|(rw[HO.out];rfl)) rfl (fun K hK=>?_)
        go_wp2
        refine⟨⟨(by (try have hLt:=zM _ _ f0);(try simp only at hLt);(repeat first|rw[zO]|rw[zK _ _ _ _ (by first|(simp<;>omega)|omega)]|rw[zJ,if_neg (by first|(simp<;>omega)|omega)]);first|exact f0|(rw[zJ,if_pos (by first|(simp;done)|omega)];exact f0)),(by (try have hLt:=zM _ _ f1);(try simp only at hLt);(repeat first|rw[zO]|rw[zK _ _ _ _ (by first|(simp<;>omega)|omega)]|rw[zJ,if_neg (by first|(simp<;>omega)|omega)]);first|exact f1|(rw[zJ,if_pos (by first|(simp;done)|omega)];exact f1)),(by (try have hLt:=zM _ _ g0);(try simp only at hLt);(repeat first|rw[zO]|rw[zK _ _ _ _ (by first|(simp<;>omega)|omega)]|rw[zJ,if_neg (by first|(simp<;>omega)|omega)]);first|exact g0|(rw[zJ,if_pos (by first|(simp;done)|omega)];exact g0))⟩,hR _ _ ?_⟩;clear hR R
        repeat (refine zeX (fun R hR=>?_);(first|refine zaX (by first|rfl|(rw[HO.out];rfl)) (by simp only[zA,zB,zC,zD];rfl) ?_|refine zbX (by first|rfl|(rw[HO.out];rfl)) rfl (by first|exact .inl rfl|exact .inr rfl) (by simp only[zE,zF,zG,zH];rfl) (by simp only[zA,zB,zC,zD];rfl) ?_|refine zcX (by first|rfl|(rw[HO.out];rfl)) rfl rfl (by simp only[zE,zF,zG,zH];rfl) (by simp only[zA,zB,zC,zD];rfl) ?_|(refine zdX (by first|rfl|(rw[HO.out];rfl)) rfl rfl rfl ?_;apply zEx;apply zEx;refine⟨fun w' hS K hK=>?_,?_,?_⟩;(focus (obtain⟨hS1,hS2,hS3⟩:=hS;go_wp2;exact hK _ _ (by simp only[zl,zG,zH];first|exact zf (by omega)|exact zg (by omega)|exact zh (by omega)|exact zi (by omega)|exact zj (by omega)|exact zk (by omega)|exact RX.bneB _|rfl) rfl));(focus (simp only[zA,zB,zC,zD];rfl))));refine hR _ _ ?_;clear hR R)
        refine zeX (fun R hR=>?_)
        refine zgX (by first|rfl|(rw[HO.out];rfl)) rfl (fun K hK=>?_)
        have hb1:Below w6.heap.size w6 (w6.drew.alloc (.cells #[.int .i64 x] 3)):=(by repeat (first|(with_reducible first|assumption|exact zBr _ _|refine zBs ?_ (by first|omega|(simp<;>omega)) _|refine zBa ?_ (by first|omega|(simp<;>omega)) _|apply zBd)|assumption))
        refine RX.wp_apr elInt _ _ rfl w6.heap.size #[.int .i64 x] (by first|(simp only[RX.eval_tmp,RX.eval_const,List.getD_cons_zero,List.getD_cons_succ];done)|(simp only[RX.eval_tmp,RX.eval_const,List.getD_cons_zero,List.getD_cons_succ];rfl)) (heap_alloc_new _ _) rfl none (0) _ (vI (([]:List Int).drop 0)) (by first|(simp only[RX.eval_tmp,RX.eval_const,List.getD_cons_zero,List.getD_cons_succ];done)|(simp only[RX.eval_tmp,RX.eval_const,List.getD_cons_zero,List.getD_cons_succ];rfl)) (by simp) (RX.SrcAt.none _ _ _) (vI_one _) (by omega) (by omega) (fun v1 w7 hown1 hg1 hat1=>?_)
        have hb7:Below w6.heap.size w6 w7:=hb1.grown hg1 (by simp) (fun k' hk'=>by injection hk' with hk';omega)
        clear hat1 hg1
        have f07:=zP hb7 f0
        have f17:=zP hb7 f1
        have g07:=zP hb7 g0
        refine hK _ _ ⟨⟨f07,f17,g07⟩,?_⟩;clear hK K;refine RX.at_ (by simp only[RX.put_some,RX.put_none,List.set_cons_zero,List.set_cons_succ];rfl) (hR _ _ ?_);clear hR R
        repeat (refine zeX (fun R hR=>?_);(first|refine zaX (by first|rfl|(rw[HO.out];rfl)) (by simp only[zA,zB,zC,zD];rfl) ?_|refine zbX (by first|rfl|(rw[HO.out];rfl)) rfl (by first|exact .inl rfl|exact .inr rfl) (by simp only[zE,zF,zG,zH];rfl) (by simp only[zA,zB,zC,zD];rfl) ?_|refine zcX (by first|rfl|(rw[HO.out];rfl)) rfl rfl (by simp only[zE,zF,zG,zH];rfl) (by simp only[zA,zB,zC,zD];rfl) ?_|(refine zdX (by first|rfl|(rw[HO.out];rfl)) rfl rfl rfl ?_;apply zEx;apply zEx;refine⟨fun w' hS K hK=>?_,?_,?_⟩;(focus (obtain⟨hS1,hS2,hS3⟩:=hS;go_wp2;exact hK _ _ (by simp only[zl,zG,zH];first|exact zf (by omega)|exact zg (by omega)|exact zh (by omega)|exact zi (by omega)|exact zj (by omega)|exact zk (by omega)|exact RX.bneB _|rfl) rfl));(focus (simp only[zA,zB,zC,zD];rfl))));refine hR _ _ ?_;clear hR R)
        refine RX.wpL_nil (hQR _ _ (⟨f07,f17,g07⟩) ?_);clear hQR QR HO OPS
        go_wp2
        have hs2:RX.SrcAt w7.drew none (0) (vI (([]:List Int).take (0))):=by
         have h9:=((RX.SrcAt.of_own hO6).keep (fun _ _ hp=>zP hb7.drew hp)).take (k:=0) (size:=1) (by omega)
         rw[Nat.mul_one,←List.map_take] at h9;exact h9
        refine RY.region RX.fN (fun w'=>w'.cell? ⟨T9,0,none⟩=some (.int .i64 (a:Int))∧w'.cell? ⟨T9,1,none⟩=some (.int .i64 x)∧w'.cell? ⟨N,a,none⟩=some (.slice none 0 0)) (by kernel_rfl) (by kernel_rfl) (⟨(by (try have hLt:=zM _ _ f07);(try simp only at hLt);(repeat first|rw[zO]|rw[zK _ _ _ _ (by first|(simp<;>omega)|omega)]|rw[zJ,if_neg (by first|(simp<;>omega)|omega)]);first|exact f07|(rw[zJ,if_pos (by first|(simp;done)|omega)];exact f07)),(by (try have hLt:=zM _ _ f17);(try simp only at hLt);(repeat first|rw[zO]|rw[zK _ _ _ _ (by first|(simp<;>omega)|omega)]|rw[zJ,if_neg (by first|(simp<;>omega)|omega)]);first|exact f17|(rw[zJ,if_pos (by first|(simp;done)|omega)];exact f17)),(by (try have hLt:=zM _ _ g07);(try simp only at hLt);(repeat first|rw[zO]|rw[zK _ _ _ _ (by first|(simp<;>omega)|omega)]|rw[zJ,if_neg (by first|(simp<;>omega)|omega)]);first|exact g07|(rw[zJ,if_pos (by first|(simp;done)|omega)];exact g07))⟩) (fun OPS HO QR hQR=>?_)
        repeat (refine zeY (fun R hR=>?_);(first|refine zaY (by first|rfl|(rw[HO.out];rfl)) (by simp only[zA,zB,zC,zD];rfl) ?_|refine zbY (by first|rfl|(rw[HO.out];rfl)) rfl (by first|exact .inl rfl|exact .inr rfl) (by simp only[zE,zF,zG,zH];rfl) (by simp only[zA,zB,zC,zD];rfl) ?_|refine zcY (by first|rfl|(rw[HO.out];rfl)) rfl rfl (by simp only[zE,zF,zG,zH];rfl) (by simp only[zA,zB,zC,zD];rfl) ?_|(refine zdY (by first|rfl|(rw[HO.out];rfl)) rfl rfl rfl ?_;apply zEx;apply zEx;refine⟨fun w' hS K hK=>?_,?_,?_⟩;(focus (obtain⟨hS1,hS2,hS3⟩:=hS;go_wp2;exact hK _ _ (by simp only[zl,zG,zH];first|exact zf (by omega)|exact zg (by omega)|exact zh (by omega)|exact zi (by omega)|exact zj (by omega)|exact zk (by omega)|exact RX.bneB _|rfl) rfl));(focus (simp only[zA,zB,zC,zD];rfl))));refine hR _ _ ?_;clear hR R)
        refine zeY (fun R hR=>?_)
        refine zgY (by first|rfl|(rw[HO.out];rfl)) rfl (fun K hK=>?_)
        refine RX.wp_apg elInt _ _ rfl none (0) (vI (([]:List Int).take (0))) (by first|(simp only[RX.eval_tmp,RX.eval_const,List.getD_cons_zero,List.getD_cons_succ];done)|(simp only[RX.eval_tmp,RX.eval_const,List.getD_cons_zero,List.getD_cons_succ];rfl)) (fun _=>rfl) (by first|(simp;done)|(simp;omega)) hs2 w6.heap.size (1+(0)) v1 _ (by first|(simp only[RX.eval_tmp,RX.eval_const,List.getD_cons_zero,List.getD_cons_succ];done)|(simp only[RX.eval_tmp,RX.eval_const,List.getD_cons_zero,List.getD_cons_succ];rfl)) (World.ownsRow.drew hown1) (by omega) (vI_ins _ _) (by omega) (by omega) (fun v2 w8 hown2 hg2=>?_)
        have hb8:Below w6.heap.size w6 w8:=hb7.drew.grown hg2 hb7.drew.size (fun k' hk'=>by cases hk')
        obtain⟨p2,c2,hv2,_⟩:=own_slice hown2
        subst hv2
        have f08:=zP hb8 f0
        have f18:=zP hb8 f1
        have g08:=zP hb8 g0
        have rf8:w8.frozen? ⟨N,a,none⟩=false:=(zFb (hb8.block N hN6)).trans rf6
        have HF:=zN (HM2.out w8 _ (hB6.trans (hb8.mono hB6.size)) (own_ins (by first|omega|simp) (by first|omega|simp) hown2 (by have:=hb7.size;have:=hB6.size;simp;omega)))
        clear hown1 hown2 hg2 hb1 hb7 hs2 f07 f17 g07 hO6 hb8
        refine hK _ _ ⟨.inr (⟨f08,f18,g08⟩),?_⟩;clear hK K;refine RY.at_ (by simp only[RX.put_some,RX.put_none,List.set_cons_zero,List.set_cons_succ];rfl) (hR _ _ ?_);clear hR R
        repeat (refine zeY (fun R hR=>?_);(first|refine zaY (by first|rfl|(rw[HO.out];rfl)) (by simp only[zA,zB,zC,zD];rfl) ?_|refine zbY (by first|rfl|(rw[HO.out];rfl)) rfl (by first|exact .inl rfl|exact .inr rfl) (by simp only[zE,zF,zG,zH];rfl) (by simp only[zA,zB,zC,zD];rfl) ?_|refine zcY (by first|rfl|(rw[HO.out];rfl)) rfl rfl (by simp only[zE,zF,zG,zH];rfl) (by simp only[zA,zB,zC,zD];rfl) ?_|(refine zdY (by first|rfl|(rw[HO.out];rfl)) rfl rfl rfl ?_;apply zEx;apply zEx;refine⟨fun w' hS K hK=>?_,?_,?_⟩;(focus (obtain⟨hS1,hS2,hS3⟩:=hS;go_wp2;exact hK _ _ (by simp only[zl,zG,zH];first|exact zf (by omega)|exact zg (by omega)|exact zh (by omega)|exact zi (by omega)|exact zj (by omega)|exact zk (by omega)|exact RX.bneB _|rfl) rfl));(focus (simp only[zA,zB,zC,zD];rfl))));refine hR _ _ ?_;clear hR R)
        refine zeY (fun R hR=>?_)
        refine zgY (by first|rfl|(rw[HO.out];rfl)) rfl (fun K hK=>?_)
        go_wp2
        first|refine⟨(by first|exact .inl rfl|exact .inl trivial|trivial),hR _ _ (RY.wpL_nil (hQR _ _ ?_))⟩|refine hR _ _ (RY.wpL_nil (hQR _ _ ?_))|refine hQR _ _ ?_
        (try clear hR);(try clear R);clear hQR QR HO OPS
        go_wp2
        go_roundw
        case rel=>first|exact⟨q+1,by omega,by go_num,HF.out.1,HF.out.2.1,HF.out.2.2⟩|((repeat apply zEx);refine⟨⟨q+1,by omega,?_,HF.out.1,HF.out.2.1,HF.out.2.2⟩,rfl⟩;first|rfl|go_num)
        case measure=>simp[intOf];omega
       |some ar=>
        by_cases hcc:cp=l.length
        ·obtain rfl:=hcc
         go_wp2
         go_quiet (fail)
         go_wp2
         refine absW (F:=fun w'=>Below W3.heap.size W3 w') (below_drewN hBk _) ?_
         clear f0 f1 g0 hBk
         rintro w5 hB5
         have f0:=zP hB5 e0
         have f1:=zP hB5 e1
         have g0:=zP hB5 r0
         go_quiet (fail)
         go_wp2
         refine absW (F:=fun w'=>Below W3.heap.size W3 w') (below_drewN hB5 _) ?_
         clear f0 f1 g0 hB5
         rintro w6 hB6
         have f0:=zP hB6 e0
         have f1:=zP hB6 e1
         have g0:=zP hB6 r0
         have hO6:=own_below HOWN.out hB6
         have hN6:N < w6.heap.size:=by have:=hB6.size;omega
         have hT96:T9 < w6.heap.size:=by have:=hB6.size;omega
         have rf6:w6.frozen? ⟨N,a,none⟩=false:=(zFb (hB6.block N (by omega))).trans rf
         refine RX.region RX.fN (fun w'=>w'.cell? ⟨T9,0,none⟩=some (.int .i64 (a:Int))∧w'.cell? ⟨T9,1,none⟩=some (.int .i64 x)∧w'.cell? ⟨N,a,none⟩=some (.slice (some ar) l.length l.length)) (by kernel_rfl) (by kernel_rfl) (⟨(by (try have hLt:=zM _ _ f0);(try simp only at hLt);(repeat first|rw[zO]|rw[zK _ _ _ _ (by first|(simp<;>omega)|omega)]|rw[zJ,if_neg (by first|(simp<;>omega)|omega)]);first|exact f0|(rw[zJ,if_pos (by first|(simp;done)|omega)];exact f0)),(by (try have hLt:=zM _ _ f1);(try simp only at hLt);(repeat first|rw[zO]|rw[zK _ _ _ _ (by first|(simp<;>omega)|omega)]|rw[zJ,if_neg (by first|(simp<;>omega)|omega)]);first|exact f1|(rw[zJ,if_pos (by first|(simp;done)|omega)];exact f1)),(by (try have hLt:=zM _ _ g0);(try simp only at hLt);(repeat first|rw[zO]|rw[zK _ _ _ _ (by first|(simp<;>omega)|omega)]|rw[zJ,if_neg (by first|(simp<;>omega)|omega)]);first|exact g0|(rw[zJ,if_pos (by first|(simp;done)|omega)];exact g0))⟩) (fun OPS HO QR hQR=>?_)
         repeat (refine zeX (fun R hR=>?_);(first|refine zaX (by first|rfl|(rw[HO.out];rfl)) (by simp only[zA,zB,zC,zD];rfl) ?_|refine zbX (by first|rfl|(rw[HO.out];rfl)) rfl (by first|exact .inl rfl|exact .inr rfl) (by simp only[zE,zF,zG,zH];rfl) (by simp only[zA,zB,zC,zD];rfl) ?_|refine zcX (by first|rfl|(rw[HO.out];rfl)) rfl rfl (by simp only[zE,zF,zG,zH];rfl) (by simp only[zA,zB,zC,zD];rfl) ?_|(refine zdX (by first|rfl|(rw[HO.out];rfl)) rfl rfl rfl ?_;apply zEx;apply zEx;refine⟨fun w' hS K hK=>?_,?_,?_⟩;(focus (obtain⟨hS1,hS2,hS3⟩:=hS;go_wp2;exact hK _ _ (by simp only[zl,zG,zH];first|exact zf (by omega)|exact zg (by omega)|exact zh (by omega)|exact zi (by omega)|exact zj (by omega)|exact zk (by omega)|exact RX.bneB _|rfl) rfl));(focus (simp only[zA,zB,zC,zD];rfl))));refine hR _ _ ?_;clear hR R)
         refine zeX (fun R hR=>?_)
         refine zgX (by first|rfl|(rw[HO.out];rfl)) rfl (fun K hK=>?_)
         go_wp2
         refine⟨⟨(by (try have hLt:=zM _ _ f0);(try simp only at hLt);(repeat first|rw[zO]|rw[zK _ _ _ _ (by first|(simp<;>omega)|omega)]|rw[zJ,if_neg (by first|(simp<;>omega)|omega)]);first|exact f0|(rw[zJ,if_pos (by first|(simp;done)|omega)];exact f0)),(by (try have hLt:=zM _ _ f1);(try simp only at hLt);(repeat first|rw[zO]|rw[zK _ _ _ _ (by first|(simp<;>omega)|omega)]|rw[zJ,if_neg (by first|(simp<;>omega)|omega)]);first|exact f1|(rw[zJ,if_pos (by first|(simp;done)|omega)];exact f1)),(by (try have hLt:=zM _ _ g0);(try simp only at hLt);(repeat first|rw[zO]|rw[zK _ _ _ _ (by first|(simp<;>omega)|omega)]|rw[zJ,if_neg (by first|(simp<;>omega)|omega)]);first|exact g0|(rw[zJ,if_pos (by first|(simp;done)|omega)];exact g0))⟩,hR _ _ ?_⟩;clear hR R
         repeat (refine zeX (fun R hR=>?_);(first|refine zaX (by first|rfl|(rw[HO.out];rfl)) (by simp only[zA,zB,zC,zD];rfl) ?_|refine zbX (by first|rfl|(rw[HO.out];rfl)) rfl (by first|exact .inl rfl|exact .inr rfl) (by simp only[zE,zF,zG,zH];rfl) (by simp only[zA,zB,zC,zD];rfl) ?_|refine zcX (by first|rfl|(rw[HO.out];rfl)) rfl rfl (by simp only[zE,zF,zG,zH];rfl) (by simp only[zA,zB,zC,zD];rfl) ?_|(refine zdX (by first|rfl|(rw[HO.out];rfl)) rfl rfl rfl ?_;apply zEx;apply zEx;refine⟨fun w' hS K hK=>?_,?_,?_⟩;(focus (obtain⟨hS1,hS2,hS3⟩:=hS;go_wp2;exact hK _ _ (by simp only[zl,zG,zH];first|exact zf (by omega)|exact zg (by omega)|exact zh (by omega)|exact zi (by omega)|exact zj (by omega)|exact zk (by omega)|exact RX.bneB _|rfl) rfl));(focus (simp only[zA,zB,zC,zD];rfl))));refine hR _ _ ?_;clear hR R)
         refine zeX (fun R hR=>?_)
         refine zgX (by first|rfl|(rw[HO.out];rfl)) rfl (fun K hK=>?_)
         have hb1:Below w6.heap.size w6 (w6.drew.alloc (.cells #[.int .i64 x] 3)):=(by repeat (first|(with_reducible first|assumption|exact zBr _ _|refine zBs ?_ (by first|omega|(simp<;>omega)) _|refine zBa ?_ (by first|omega|(simp<;>omega)) _|apply zBd)|assumption))
         refine RX.wp_apr elInt _ _ rfl w6.heap.size #[.int .i64 x] (by first|(simp only[RX.eval_tmp,RX.eval_const,List.getD_cons_zero,List.getD_cons_succ];done)|(simp only[RX.eval_tmp,RX.eval_const,List.getD_cons_zero,List.getD_cons_succ];rfl)) (heap_alloc_new _ _) rfl (some ar) (0) _ (vI (l.drop l.length)) (by first|(simp only[RX.eval_tmp,RX.eval_const,List.getD_cons_zero,List.getD_cons_succ];done)|(simp only[RX.eval_tmp,RX.eval_const,List.getD_cons_zero,List.getD_cons_succ];rfl)) (by simp) (RX.SrcAt.none _ _ _) (vI_one _) (by omega) (by omega) (fun v1 w7 hown1 hg1 hat1=>?_)
         have hb7:Below w6.heap.size w6 w7:=hb1.grown hg1 (by simp) (fun k' hk'=>by injection hk' with hk';omega)
         clear hat1 hg1
         have f07:=zP hb7 f0
         have f17:=zP hb7 f1
         have g07:=zP hb7 g0
         refine hK _ _ ⟨⟨f07,f17,g07⟩,?_⟩;clear hK K;refine RX.at_ (by simp only[RX.put_some,RX.put_none,List.set_cons_zero,List.set_cons_succ];rfl) (hR _ _ ?_);clear hR R
         repeat (refine zeX (fun R hR=>?_);(first|refine zaX (by first|rfl|(rw[HO.out];rfl)) (by simp only[zA,zB,zC,zD];rfl) ?_|refine zbX (by first|rfl|(rw[HO.out];rfl)) rfl (by first|exact .inl rfl|exact .inr rfl) (by simp only[zE,zF,zG,zH];rfl) (by simp only[zA,zB,zC,zD];rfl) ?_|refine zcX (by first|rfl|(rw[HO.out];rfl)) rfl rfl (by simp only[zE,zF,zG,zH];rfl) (by simp only[zA,zB,zC,zD];rfl) ?_|(refine zdX (by first|rfl|(rw[HO.out];rfl)) rfl rfl rfl ?_;apply zEx;apply zEx;refine⟨fun w' hS K hK=>?_,?_,?_⟩;(focus (obtain⟨hS1,hS2,hS3⟩:=hS;go_wp2;exact hK _ _ (by simp only[zl,zG,zH];first|exact zf (by omega)|exact zg (by omega)|exact zh (by omega)|exact zi (by omega)|exact zj (by omega)|exact zk (by omega)|exact RX.bneB _|rfl) rfl));(focus (simp only[zA,zB,zC,zD];rfl))));refine hR _ _ ?_;clear hR R)
         refine RX.wpL_nil (hQR _ _ (⟨f07,f17,g07⟩) ?_);clear hQR QR HO OPS
         go_wp2
         have hs2:RX.SrcAt w7.drew (some ar) (l.length) (vI (l.take (l.length))):=by
          have h9:=((RX.SrcAt.of_own hO6).keep (fun _ _ hp=>zP hb7.drew hp)).take (k:=l.length) (size:=1) (by omega)
          rw[Nat.mul_one,←List.map_take] at h9;exact h9
         refine RY.region RX.fN (fun w'=>w'.cell? ⟨T9,0,none⟩=some (.int .i64 (a:Int))∧w'.cell? ⟨T9,1,none⟩=some (.int .i64 x)∧w'.cell? ⟨N,a,none⟩=some (.slice (some ar) l.length l.length)) (by kernel_rfl) (by kernel_rfl) (⟨(by (try have hLt:=zM _ _ f07);(try simp only at hLt);(repeat first|rw[zO]|rw[zK _ _ _ _ (by first|(simp<;>omega)|omega)]|rw[zJ,if_neg (by first|(simp<;>omega)|omega)]);first|exact f07|(rw[zJ,if_pos (by first|(simp;done)|omega)];exact f07)),(by (try have hLt:=zM _ _ f17);(try simp only at hLt);(repeat first|rw[zO]|rw[zK _ _ _ _ (by first|(simp<;>omega)|omega)]|rw[zJ,if_neg (by first|(simp<;>omega)|omega)]);first|exact f17|(rw[zJ,if_pos (by first|(simp;done)|omega)];exact f17)),(by (try have hLt:=zM _ _ g07);(try simp only at hLt);(repeat first|rw[zO]|rw[zK _ _ _ _ (by first|(simp<;>omega)|omega)]|rw[zJ,if_neg (by first|(simp<;>omega)|omega)]);first|exact g07|(rw[zJ,if_pos (by first|(simp;done)|omega)];exact g07))⟩) (fun OPS HO QR hQR=>?_)
         repeat (refine zeY (fun R hR=>?_);(first|refine zaY (by first|rfl|(rw[HO.out];rfl)) (by simp only[zA,zB,zC,zD];rfl) ?_|refine zbY (by first|rfl|(rw[HO.out];rfl)) rfl (by first|exact .inl rfl|exact .inr rfl) (by simp only[zE,zF,zG,zH];rfl) (by simp only[zA,zB,zC,zD];rfl) ?_|refine zcY (by first|rfl|(rw[HO.out];rfl)) rfl rfl (by simp only[zE,zF,zG,zH];rfl) (by simp only[zA,zB,zC,zD];rfl) ?_|(refine zdY (by first|rfl|(rw[HO.out];rfl)) rfl rfl rfl ?_;apply zEx;apply zEx;refine⟨fun w' hS K hK=>?_,?_,?_⟩;(focus (obtain⟨hS1,hS2,hS3⟩:=hS;go_wp2;exact hK _ _ (by simp only[zl,zG,zH];first|exact zf (by omega)|exact zg (by omega)|exact zh (by omega)|exact zi (by omega)|exact zj (by omega)|exact zk (by omega)|exact RX.bneB _|rfl) rfl));(focus (simp only[zA,zB,zC,zD];rfl))));refine hR _ _ ?_;clear hR R)
         refine zeY (fun R hR=>?_)
         refine zgY (by first|rfl|(rw[HO.out];rfl)) rfl (fun K hK=>?_)
         refine RX.wp_apg elInt _ _ rfl (some ar) (l.length) (vI (l.take (l.length))) (by first|(simp only[RX.eval_tmp,RX.eval_const,List.getD_cons_zero,List.getD_cons_succ];done)|(simp only[RX.eval_tmp,RX.eval_const,List.getD_cons_zero,List.getD_cons_succ];rfl)) (fun e=>by cases e) (by first|(simp;done)|(simp;omega)) hs2 w6.heap.size (1+(0)) v1 _ (by first|(simp only[RX.eval_tmp,RX.eval_const,List.getD_cons_zero,List.getD_cons_succ];done)|(simp only[RX.eval_tmp,RX.eval_const,List.getD_cons_zero,List.getD_cons_succ];rfl)) (World.ownsRow.drew hown1) (by omega) (vI_ins _ _) (by omega) (by omega) (fun v2 w8 hown2 hg2=>?_)
         have hb8:Below w6.heap.size w6 w8:=hb7.drew.grown hg2 hb7.drew.size (fun k' hk'=>by cases hk')
         obtain⟨p2,c2,hv2,_⟩:=own_slice hown2
         subst hv2
         have f08:=zP hb8 f0
         have f18:=zP hb8 f1
         have g08:=zP hb8 g0
         have rf8:w8.frozen? ⟨N,a,none⟩=false:=(zFb (hb8.block N hN6)).trans rf6
         have HF:=zN (HM2.out w8 _ (hB6.trans (hb8.mono hB6.size)) (own_ins (by first|omega|simp) (by first|omega|simp) hown2 (by have:=hb7.size;have:=hB6.size;simp;omega)))
         clear hown1 hown2 hg2 hb1 hb7 hs2 f07 f17 g07 hO6 hb8
         refine hK _ _ ⟨.inr (⟨f08,f18,g08⟩),?_⟩;clear hK K;refine RY.at_ (by simp only[RX.put_some,RX.put_none,List.set_cons_zero,List.set_cons_succ];rfl) (hR _ _ ?_);clear hR R
         repeat (refine zeY (fun R hR=>?_);(first|refine zaY (by first|rfl|(rw[HO.out];rfl)) (by simp only[zA,zB,zC,zD];rfl) ?_|refine zbY (by first|rfl|(rw[HO.out];rfl)) rfl (by first|exact .inl rfl|exact .inr rfl) (by simp only[zE,zF,zG,zH];rfl) (by simp only[zA,zB,zC,zD];rfl) ?_|refine zcY (by first|rfl|(rw[HO.out];rfl)) rfl rfl (by simp only[zE,zF,zG,zH];rfl) (by simp only[zA,zB,zC,zD];rfl) ?_|(refine zdY (by first|rfl|(rw[HO.out];rfl)) rfl rfl rfl ?_;apply zEx;apply zEx;refine⟨fun w' hS K hK=>?_,?_,?_⟩;(focus (obtain⟨hS1,hS2,hS3⟩:=hS;go_wp2;exact hK _ _ (by simp only[zl,zG,zH];first|exact zf (by omega)|exact zg (by omega)|exact zh (by omega)|exact zi (by omega)|exact zj (by omega)|exact zk (by omega)|exact RX.bneB _|rfl) rfl));(focus (simp only[zA,zB,zC,zD];rfl))));refine hR _ _ ?_;clear hR R)
         refine zeY (fun R hR=>?_)
         refine zgY (by first|rfl|(rw[HO.out];rfl)) rfl (fun K hK=>?_)
         go_wp2
         first|refine⟨(by first|exact .inl rfl|exact .inl trivial|trivial),hR _ _ (RY.wpL_nil (hQR _ _ ?_))⟩|refine hR _ _ (RY.wpL_nil (hQR _ _ ?_))|refine hQR _ _ ?_
         (try clear hR);(try clear R);clear hQR QR HO OPS
         go_wp2
         go_roundw
         case rel=>first|exact⟨q+1,by omega,by go_num,HF.out.1,HF.out.2.1,HF.out.2.2⟩|((repeat apply zEx);refine⟨⟨q+1,by omega,?_,HF.out.1,HF.out.2.1,HF.out.2.2⟩,rfl⟩;first|rfl|go_num)
         case measure=>simp[intOf];omega
        ·have hcc2:¬ l.length=cp:=fun e=>hcc e.symm
         go_wp2
         go_quiet (fail)
         go_wp2
         refine absW (F:=fun w'=>Below W3.heap.size W3 w') (below_drewN hBk _) ?_
         clear f0 f1 g0 hBk
         rintro w5 hB5
         have f0:=zP hB5 e0
         have f1:=zP hB5 e1
         have g0:=zP hB5 r0
         go_quiet (fail)
         go_wp2
         refine absW (F:=fun w'=>Below W3.heap.size W3 w') (below_drewN hB5 _) ?_
         clear f0 f1 g0 hB5
         rintro w6 hB6
         have f0:=zP hB6 e0
         have f1:=zP hB6 e1
         have g0:=zP hB6 r0
         have hO6:=own_below HOWN.out hB6
         have hN6:N < w6.heap.size:=by have:=hB6.size;omega
         have hT96:T9 < w6.heap.size:=by have:=hB6.size;omega
         have rf6:w6.frozen? ⟨N,a,none⟩=false:=(zFb (hB6.block N (by omega))).trans rf
         refine RX.region RX.fN (fun w'=>w'.cell? ⟨T9,0,none⟩=some (.int .i64 (a:Int))∧w'.cell? ⟨T9,1,none⟩=some (.int .i64 x)∧w'.cell? ⟨N,a,none⟩=some (.slice (some ar) l.length cp)) (by kernel_rfl) (by kernel_rfl) (⟨(by (try have hLt:=zM _ _ f0);(try simp only at hLt);(repeat first|rw[zO]|rw[zK _ _ _ _ (by first|(simp<;>omega)|omega)]|rw[zJ,if_neg (by first|(simp<;>omega)|omega)]);first|exact f0|(rw[zJ,if_pos (by first|(simp;done)|omega)];exact f0)),(by (try have hLt:=zM _ _ f1);(try simp only at hLt);(repeat first|rw[zO]|rw[zK _ _ _ _ (by first|(simp<;>omega)|omega)]|rw[zJ,if_neg (by first|(simp<;>omega)|omega)]);first|exact f1|(rw[zJ,if_pos (by first|(simp;done)|omega)];exact f1)),(by (try have hLt:=zM _ _ g0);(try simp only at hLt);(repeat first|rw[zO]|rw[zK _ _ _ _ (by first|(simp<;>omega)|omega)]|rw[zJ,if_neg (by first|(simp<;>omega)|omega)]);first|exact g0|(rw[zJ,if_pos (by first|(simp;done)|omega)];exact g0))⟩) (fun OPS HO QR hQR=>?_)
         repeat (refine zeX (fun R hR=>?_);(first|refine zaX (by first|rfl|(rw[HO.out];rfl)) (by simp only[zA,zB,zC,zD];rfl) ?_|refine zbX (by first|rfl|(rw[HO.out];rfl)) rfl (by first|exact .inl rfl|exact .inr rfl) (by simp only[zE,zF,zG,zH];rfl) (by simp only[zA,zB,zC,zD];rfl) ?_|refine zcX (by first|rfl|(rw[HO.out];rfl)) rfl rfl (by simp only[zE,zF,zG,zH];rfl) (by simp only[zA,zB,zC,zD];rfl) ?_|(refine zdX (by first|rfl|(rw[HO.out];rfl)) rfl rfl rfl ?_;apply zEx;apply zEx;refine⟨fun w' hS K hK=>?_,?_,?_⟩;(focus (obtain⟨hS1,hS2,hS3⟩:=hS;go_wp2;exact hK _ _ (by simp only[zl,zG,zH];first|exact zf (by omega)|exact zg (by omega)|exact zh (by omega)|exact zi (by omega)|exact zj (by omega)|exact zk (by omega)|exact RX.bneB _|rfl) rfl));(focus (simp only[zA,zB,zC,zD];rfl))));refine hR _ _ ?_;clear hR R)
         refine zeX (fun R hR=>?_)
         refine zgX (by first|rfl|(rw[HO.out];rfl)) rfl (fun K hK=>?_)
         go_wp2
         refine⟨⟨(by (try have hLt:=zM _ _ f0);(try simp only at hLt);(repeat first|rw[zO]|rw[zK _ _ _ _ (by first|(simp<;>omega)|omega)]|rw[zJ,if_neg (by first|(simp<;>omega)|omega)]);first|exact f0|(rw[zJ,if_pos (by first|(simp;done)|omega)];exact f0)),(by (try have hLt:=zM _ _ f1);(try simp only at hLt);(repeat first|rw[zO]|rw[zK _ _ _ _ (by first|(simp<;>omega)|omega)]|rw[zJ,if_neg (by first|(simp<;>omega)|omega)]);first|exact f1|(rw[zJ,if_pos (by first|(simp;done)|omega)];exact f1)),(by (try have hLt:=zM _ _ g0);(try simp only at hLt);(repeat first|rw[zO]|rw[zK _ _ _ _ (by first|(simp<;>omega)|omega)]|rw[zJ,if_neg (by first|(simp<;>omega)|omega)]);first|exact g0|(rw[zJ,if_pos (by first|(simp;done)|omega)];exact g0))⟩,hR _ _ ?_⟩;clear hR R
         repeat (refine zeX (fun R hR=>?_);(first|refine zaX (by first|rfl|(rw[HO.out];rfl)) (by simp only[zA,zB,zC,zD];rfl) ?_|refine zbX (by first|rfl|(rw[HO.out];rfl)) rfl (by first|exact .inl rfl|exact .inr rfl) (by simp only[zE,zF,zG,zH];rfl) (by simp only[zA,zB,zC,zD];rfl) ?_|refine zcX (by first|rfl|(rw[HO.out];rfl)) rfl rfl (by simp only[zE,zF,zG,zH];rfl) (by simp only[zA,zB,zC,zD];rfl) ?_|(refine zdX (by first|rfl|(rw[HO.out];rfl)) rfl rfl rfl ?_;apply zEx;apply zEx;refine⟨fun w' hS K hK=>?_,?_,?_⟩;(focus (obtain⟨hS1,hS2,hS3⟩:=hS;go_wp2;exact hK _ _ (by simp only[zl,zG,zH];first|exact zf (by omega)|exact zg (by omega)|exact zh (by omega)|exact zi (by omega)|exact zj (by omega)|exact zk (by omega)|exact RX.bneB _|rfl) rfl));(focus (simp only[zA,zB,zC,zD];rfl))));refine hR _ _ ?_;clear hR R)
         refine zeX (fun R hR=>?_)
         refine zgX (by first|rfl|(rw[HO.out];rfl)) rfl (fun K hK=>?_)
         have hb1:Below w6.heap.size w6 (w6.drew.alloc (.cells #[.int .i64 x] 3)):=(by repeat (first|(with_reducible first|assumption|exact zBr _ _|refine zBs ?_ (by first|omega|(simp<;>omega)) _|refine zBa ?_ (by first|omega|(simp<;>omega)) _|apply zBd)|assumption))
         refine RX.wp_apr elInt _ _ rfl w6.heap.size #[.int .i64 x] (by first|(simp only[RX.eval_tmp,RX.eval_const,List.getD_cons_zero,List.getD_cons_succ];done)|(simp only[RX.eval_tmp,RX.eval_const,List.getD_cons_zero,List.getD_cons_succ];rfl)) (heap_alloc_new _ _) rfl _ (0) _ (vI (l.drop l.length)) (by first|(simp only[RX.eval_tmp,RX.eval_const,List.getD_cons_zero,List.getD_cons_succ];done)|(simp only[RX.eval_tmp,RX.eval_const,List.getD_cons_zero,List.getD_cons_succ];rfl)) (by simp) (RX.SrcAt.none _ _ _) (vI_one _) (by omega) (by omega) (fun v1 w7 hown1 hg1 hat1=>?_)
         have hb7:Below w6.heap.size w6 w7:=hb1.grown hg1 (by simp) (fun k' hk'=>by injection hk' with hk';omega)
         clear hat1 hg1
         have f07:=zP hb7 f0
         have f17:=zP hb7 f1
         have g07:=zP hb7 g0
         refine hK _ _ ⟨⟨f07,f17,g07⟩,?_⟩;clear hK K;refine RX.at_ (by simp only[RX.put_some,RX.put_none,List.set_cons_zero,List.set_cons_succ];rfl) (hR _ _ ?_);clear hR R
         repeat (refine zeX (fun R hR=>?_);(first|refine zaX (by first|rfl|(rw[HO.out];rfl)) (by simp only[zA,zB,zC,zD];rfl) ?_|refine zbX (by first|rfl|(rw[HO.out];rfl)) rfl (by first|exact .inl rfl|exact .inr rfl) (by simp only[zE,zF,zG,zH];rfl) (by simp only[zA,zB,zC,zD];rfl) ?_|refine zcX (by first|rfl|(rw[HO.out];rfl)) rfl rfl (by simp only[zE,zF,zG,zH];rfl) (by simp only[zA,zB,zC,zD];rfl) ?_|(refine zdX (by first|rfl|(rw[HO.out];rfl)) rfl rfl rfl ?_;apply zEx;apply zEx;refine⟨fun w' hS K hK=>?_,?_,?_⟩;(focus (obtain⟨hS1,hS2,hS3⟩:=hS;go_wp2;exact hK _ _ (by simp only[zl,zG,zH];first|exact zf (by omega)|exact zg (by omega)|exact zh (by omega)|exact zi (by omega)|exact zj (by omega)|exact zk (by omega)|exact RX.bneB _|rfl) rfl));(focus (simp only[zA,zB,zC,zD];rfl))));refine hR _ _ ?_;clear hR R)
         refine RX.wpL_nil (hQR _ _ (⟨f07,f17,g07⟩) ?_);clear hQR QR HO OPS
         go_wp2
         have hs2:RX.SrcAt w7.drew (some ar) (l.length) (vI (l.take (l.length))):=by
          have h9:=((RX.SrcAt.of_own hO6).keep (fun _ _ hp=>zP hb7.drew hp)).take (k:=l.length) (size:=1) (by omega)
          rw[Nat.mul_one,←List.map_take] at h9;exact h9
         refine RY.region RX.fN (fun w'=>w'.cell? ⟨T9,0,none⟩=some (.int .i64 (a:Int))∧w'.cell? ⟨T9,1,none⟩=some (.int .i64 x)∧w'.cell? ⟨N,a,none⟩=some (.slice (some ar) l.length cp)) (by kernel_rfl) (by kernel_rfl) (⟨(by (try have hLt:=zM _ _ f07);(try simp only at hLt);(repeat first|rw[zO]|rw[zK _ _ _ _ (by first|(simp<;>omega)|omega)]|rw[zJ,if_neg (by first|(simp<;>omega)|omega)]);first|exact f07|(rw[zJ,if_pos (by first|(simp;done)|omega)];exact f07)),(by (try have hLt:=zM _ _ f17);(try simp only at hLt);(repeat first|rw[zO]|rw[zK _ _ _ _ (by first|(simp<;>omega)|omega)]|rw[zJ,if_neg (by first|(simp<;>omega)|omega)]);first|exact f17|(rw[zJ,if_pos (by first|(simp;done)|omega)];exact f17)),(by (try have hLt:=zM _ _ g07);(try simp only at hLt);(repeat first|rw[zO]|rw[zK _ _ _ _ (by first|(simp<;>omega)|omega)]|rw[zJ,if_neg (by first|(simp<;>omega)|omega)]);first|exact g07|(rw[zJ,if_pos (by first|(simp;done)|omega)];exact g07))⟩) (fun OPS HO QR hQR=>?_)
         repeat (refine zeY (fun R hR=>?_);(first|refine zaY (by first|rfl|(rw[HO.out];rfl)) (by simp only[zA,zB,zC,zD];rfl) ?_|refine zbY (by first|rfl|(rw[HO.out];rfl)) rfl (by first|exact .inl rfl|exact .inr rfl) (by simp only[zE,zF,zG,zH];rfl) (by simp only[zA,zB,zC,zD];rfl) ?_|refine zcY (by first|rfl|(rw[HO.out];rfl)) rfl rfl (by simp only[zE,zF,zG,zH];rfl) (by simp only[zA,zB,zC,zD];rfl) ?_|(refine zdY (by first|rfl|(rw[HO.out];rfl)) rfl rfl rfl ?_;apply zEx;apply zEx;refine⟨fun w' hS K hK=>?_,?_,?_⟩;(focus (obtain⟨hS1,hS2,hS3⟩:=hS;go_wp2;exact hK _ _ (by simp only[zl,zG,zH];first|exact zf (by omega)|exact zg (by omega)|exact zh (by omega)|exact zi (by omega)|exact zj (by omega)|exact zk (by omega)|exact RX.bneB _|rfl) rfl));(focus (simp only[zA,zB,zC,zD];rfl))));refine hR _ _ ?_;clear hR R)
         refine zeY (fun R hR=>?_)
         refine zgY (by first|rfl|(rw[HO.out];rfl)) rfl (fun K hK=>?_)
         refine RX.wp_apg elInt _ _ rfl (some ar) (l.length) (vI (l.take (l.length))) (by first|(simp only[RX.eval_tmp,RX.eval_const,List.getD_cons_zero,List.getD_cons_succ];done)|(simp only[RX.eval_tmp,RX.eval_const,List.getD_cons_zero,List.getD_cons_succ];rfl)) (fun e=>by cases e) (by first|(simp;done)|(simp;omega)) hs2 w6.heap.size (1+(0)) v1 _ (by first|(simp only[RX.eval_tmp,RX.eval_const,List.getD_cons_zero,List.getD_cons_succ];done)|(simp only[RX.eval_tmp,RX.eval_const,List.getD_cons_zero,List.getD_cons_succ];rfl)) (World.ownsRow.drew hown1) (by omega) (vI_ins _ _) (by omega) (by omega) (fun v2 w8 hown2 hg2=>?_)
         have hb8:Below w6.heap.size w6 w8:=hb7.drew.grown hg2 hb7.drew.size (fun k' hk'=>by cases hk')
         obtain⟨p2,c2,hv2,_⟩:=own_slice hown2
         subst hv2
         have f08:=zP hb8 f0
         have f18:=zP hb8 f1
         have g08:=zP hb8 g0
         have rf8:w8.frozen? ⟨N,a,none⟩=false:=(zFb (hb8.block N hN6)).trans rf6
         have HF:=zN (HM2.out w8 _ (hB6.trans (hb8.mono hB6.size)) (own_ins (by first|omega|simp) (by first|omega|simp) hown2 (by have:=hb7.size;have:=hB6.size;simp;omega)))
         clear hown1 hown2 hg2 hb1 hb7 hs2 f07 f17 g07 hO6 hb8
         refine hK _ _ ⟨.inr (⟨f08,f18,g08⟩),?_⟩;clear hK K;refine RY.at_ (by simp only[RX.put_some,RX.put_none,List.set_cons_zero,List.set_cons_succ];rfl) (hR _ _ ?_);clear hR R
         repeat (refine zeY (fun R hR=>?_);(first|refine zaY (by first|rfl|(rw[HO.out];rfl)) (by simp only[zA,zB,zC,zD];rfl) ?_|refine zbY (by first|rfl|(rw[HO.out];rfl)) rfl (by first|exact .inl rfl|exact .inr rfl) (by simp only[zE,zF,zG,zH];rfl) (by simp only[zA,zB,zC,zD];rfl) ?_|refine zcY (by first|rfl|(rw[HO.out];rfl)) rfl rfl (by simp only[zE,zF,zG,zH];rfl) (by simp only[zA,zB,zC,zD];rfl) ?_|(refine zdY (by first|rfl|(rw[HO.out];rfl)) rfl rfl rfl ?_;apply zEx;apply zEx;refine⟨fun w' hS K hK=>?_,?_,?_⟩;(focus (obtain⟨hS1,hS2,hS3⟩:=hS;go_wp2;exact hK _ _ (by simp only[zl,zG,zH];first|exact zf (by omega)|exact zg (by omega)|exact zh (by omega)|exact zi (by omega)|exact zj (by omega)|exact zk (by omega)|exact RX.bneB _|rfl) rfl));(focus (simp only[zA,zB,zC,zD];rfl))));refine hR _ _ ?_;clear hR R)
         refine zeY (fun R hR=>?_)
         refine zgY (by first|rfl|(rw[HO.out];rfl)) rfl (fun K hK=>?_)
         go_wp2
         first|refine⟨(by first|exact .inl rfl|exact .inl trivial|trivial),hR _ _ (RY.wpL_nil (hQR _ _ ?_))⟩|refine hR _ _ (RY.wpL_nil (hQR _ _ ?_))|refine hQR _ _ ?_
         (try clear hR);(try clear R);clear hQR QR HO OPS
         go_wp2
         go_roundw
         case rel=>first|exact⟨q+1,by omega,by go_num,HF.out.1,HF.out.2.1,HF.out.2.2⟩|((repeat apply zEx);refine⟨⟨q+1,by omega,?_,HF.out.1,HF.out.2.1,HF.out.2.2⟩,rfl⟩;first|rfl|go_num)
         case measure=>simp[intOf];omega
    ·have eq6:q=6:=by omega
     have hdq2:decide ((q:Int) < 6)=false:=zDf (by omega)
     rw[eq6,List.take_of_length_le (by rw[HP6.out];exact Nat.le_refl _),←HSX2.out] at hA
     have HA:=zN hA
     clear hA
     go_wp2
     go_roundw
     case rel=>first|exact⟨m+1,by omega,by go_num,HA.out,hB⟩|((repeat apply zEx);refine⟨⟨m+1,by omega,?_,HA.out,hB⟩,rfl⟩;first|rfl|go_num)
     case measure=>simp[intOf];omega
  ·have em:m=CL:=by omega
   have hdm:decide (m < CL)=false:=zDf hlm
   have HFIN:Hid (AroAt wr N M (nextL n)∧w.heap.size≤N∧Below w.heap.size w wr):=zN (by
    obtain⟨ls,hL,hR,_⟩:=hA.ex
    rw[em,HCL.out,List.take_length] at hR
    have e:ls=nextL n:=funext fun i=>rows_next h1 h8 hR i
    exact⟨e ▸ hL,by rw[HNN.out];exact hBs1,hB1.trans (hB.mono hBs1)⟩)
   clear hA hB
   go_wp2
   go_ret
   exact⟨_,rfl,HFIN.out⟩
end Go.Proofs.YtednaajanciabaaGreatDoor
