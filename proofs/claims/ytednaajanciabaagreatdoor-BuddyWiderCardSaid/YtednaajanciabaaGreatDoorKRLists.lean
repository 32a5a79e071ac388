import Derived.Test.YtednaajanciabaaGreatDoorKRefB
import Derived.Test.YtednaajanciabaaGreatDoorKPlainG
import Derived.Test.YtednaajanciabaaGreatDoorKCopy
import Derived.Laws.CopyRow
import Derived.Laws.CopyOwn
import Derived.Deep.DeepCutAuto
import Derived.Test.YtednaajanciabaaGreatDoorKEdges
import Derived.Test.YtednaajanciabaaGreatDoorKFreq
import Derived.BigQuiet
import Derived.Deep.QuietTactic
set_option maxRecDepth 100000
set_option maxHeartbeats 8000000
set_option linter.unusedSimpArgs false
set_option linter.unusedVariables false
namespace Go.Proofs.YtednaajanciabaaGreatDoor
open Go.RowKit Go.Grid Go.Maps Go.Sort Go.Shelf
def CeRow (w:World) (base:Nat) (v:Value) (C:List I3):Prop:=w.ownsRow base 136 3 v C.length (C.flatMap enc3)
theorem CeRow.nil (w:World) (base:Nat):CeRow w base (.slice none 0 0) []:=World.ownsRow_nil _ _ _ _
theorem CeRow.kept {w w':World} {base:Nat} {v:Value} {C:List I3} (h:CeRow w base v C) (hb:Below w.heap.size w w'):CeRow w' base v C:=
 World.ownsRow.kept (row:=none) h ⟨hb.os,hb.tape,hb.output,hb.size,fun k hk _=>hb.block k hk⟩ (by
  cases v.ownBlock with
  |none=>exact .inl rfl
  |some k=>exact .inr (by simp))
theorem CeRow.mono {w:World} {base base':Nat} {v:Value} {C:List I3} (h:CeRow w base v C) (hb:base'≤base):CeRow w base' v C:=own_mono h hb
theorem enc3_len (C:List I3):(C.flatMap enc3).length=C.length*3:=by
 induction C with
 |nil=>rfl
 |cons p C ih=>rw[List.flatMap_cons,List.length_append,ih];simp[enc3];omega
theorem enc3_get:∀ (C:List I3) (m:Nat) (h:m < C.length) (j:Nat),j < 3→(C.flatMap enc3)[m*3+j]?=(enc3 C[m])[j]?
 |p :: L,0,h,j,hj=>by
  simp only[List.flatMap_cons,Nat.zero_mul,Nat.zero_add]
  rw[List.getElem?_append_left (by simp[enc3];omega)];rfl
 |p :: L,m+1,h,j,hj=>by
  have ih:=enc3_get L m (by simpa using h) j hj
  simp only[List.flatMap_cons]
  rw[List.getElem?_append_right (by simp[enc3];omega),show (m+1)*3+j-(enc3 p).length=m*3+j by simp[enc3];omega,ih];rfl
theorem enc3_drop (C:List I3) (k:Nat):(C.flatMap enc3).drop (k*3)=(C.drop k).flatMap enc3:=by
 induction C generalizing k with
 |nil=>simp
 |cons p C ih=>
  cases k with
  |zero=>simp
  |succ k=>
   rw[List.flatMap_cons,List.drop_succ_cons,←ih k,show (k+1)*3=(enc3 p).length+k*3 by simp[enc3];omega,←List.drop_drop,List.drop_left]
theorem enc3_take (C:List I3) (k:Nat):(C.flatMap enc3).take (k*3)=(C.take k).flatMap enc3:=by
 induction C generalizing k with
 |nil=>simp
 |cons p C ih=>
  cases k with
  |zero=>simp
  |succ k=>
   rw[List.flatMap_cons,List.take_succ_cons,List.flatMap_cons,←ih k,show (k+1)*3=(enc3 p).length+k*3 by simp[enc3];omega,List.take_length_add_append]
def CesAt (w:World) (b:Nat) (C:List I3):Prop:=∀ k (h:k < C.length),w.cell? ⟨b,k*3,none⟩=some (.int .i64 C[k].1)∧w.cell? ⟨b,k*3+1,none⟩=some (.int .i64 C[k].2.1)∧w.cell? ⟨b,k*3+2,none⟩=some (.int .i64 C[k].2.2)
theorem CeRow.form {w:World} {base:Nat} {v:Value} {C:List I3} (h:CeRow w base v C):∃ p cap b,v=.slice p C.length cap∧C.length≤cap∧(0 < C.length→p=some ⟨b,0,none⟩∧base≤b∧b < w.heap.size)∧CesAt w b C:=by
 rcases h.2 with ⟨h1,h2⟩|⟨g,cap,cur,h1,h2,h3,h4,_⟩
 ·exact⟨none,0,0,by rw[h1,h2],by omega,fun hh=>by omega,fun j hj=>by omega⟩
 ·refine⟨_,cap,g,h1,h4,fun hp=>⟨rfl,h2,(World.ownsRow.lt h g (by rw[h1];rfl)).2⟩,fun j hj=>?_⟩
  subst h1
  have key:∀ i,i < 3→w.cell? ⟨g,j*3+i,none⟩=(enc3 C[j])[i]?:=fun i hi=>by
   rw[World.ownsRow.cellAt h (j*3+i) (by omega),←enc3_get C j hj i hi]
  exact⟨key 0 (by omega),key 1 (by omega),key 2 (by omega)⟩
theorem CeRow.moved {w:World} {base g cap:Nat} {C:List I3} {x:I3} {k:Nat} (hk:k≤C.length) (h:w.ownsRow base 136 3 (.slice (some ⟨g,0,none⟩) (C.length+1) cap) (C.length+1) (C.flatMap enc3 ++ [.int .i64 0,.int .i64 0,.int .i64 0])) :
  ∃ cur,w.heap[g]?=some (.cells cur 136 (0,0))∧(C.length+1)*3≤cur.size∧base≤g∧(∀ j v,((C.drop k).flatMap enc3)[j]?=some v→w.cell? ⟨g,k*3+j,none⟩=some v)∧
   (∀ j,j < 3→∃ u,(w.setRow g (cur.toList.take ((k+1)*3) ++ (C.drop k).flatMap enc3 ++ cur.toList.drop ((k+1)*3+((C.drop k).flatMap enc3).length)).toArray).cell? ⟨g,k*3+j,none⟩=some u)∧(∀ j,(w.setRow g (cur.toList.take ((k+1)*3) ++ (C.drop k).flatMap enc3 ++ cur.toList.drop ((k+1)*3+((C.drop k).flatMap enc3).length)).toArray).frozen? ⟨g,j,none⟩=false)∧
   CeRow ((((w.setRow g (cur.toList.take ((k+1)*3) ++ (C.drop k).flatMap enc3 ++ cur.toList.drop ((k+1)*3+((C.drop k).flatMap enc3).length)).toArray).setCell ⟨g,k*3,none⟩ (.int .i64 x.1)).setCell ⟨g,k*3+1,none⟩ (.int .i64 x.2.1)).setCell ⟨g,k*3+2,none⟩ (.int .i64 x.2.2)) base (.slice (some ⟨g,0,none⟩) (C.length+1) cap) (C.take k ++ x :: C.drop k):=by
 rcases h.2 with ⟨h1,h2⟩|⟨g',cap',cur,h1,hb,hg,hc1,hc2,hc3,ht⟩
 ·cases h1
 ·injection h1 with e1 _ e3
  injection e1 with e1
  injection e1 with e1
  subst e1;subst e3
  have hsz:(C.length+1)*3≤cur.size:=by rw[hc3];exact Nat.mul_le_mul_right _ hc1
  have hd:((C.drop k).flatMap enc3).length=(C.length-k)*3:=by rw[enc3_len,List.length_drop]
  refine⟨cur,hg,hsz,hb,fun j v hj=>?_,fun j hj=>?_,fun j=>?_,?_⟩
  ·have hj2:j < ((C.drop k).flatMap enc3).length:=by
    rw[List.getElem?_eq_some_iff] at hj;exact hj.1
   rw[World.ownsRow.cellAt h (k*3+j) (by rw[hd] at hj2;omega)]
   rw[List.getElem?_append_left (by rw[enc3_len];rw[hd] at hj2;omega),←List.getElem?_drop,enc3_drop]
   exact hj
  ·have g0:=setRow_heap w g cur (cur.toList.take ((k+1)*3) ++ (C.drop k).flatMap enc3 ++ cur.toList.drop ((k+1)*3+((C.drop k).flatMap enc3).length)).toArray 136 (0,0) hg
   simp only[World.cell?,g0]
   refine⟨_,Array.getElem?_eq_getElem ?_⟩
   have hlc:cur.toList.length=cur.size:=Array.length_toList
   simp only[List.size_toArray,List.length_append,List.length_take,List.length_drop,hd]
   omega
  ·have g0:=setRow_heap w g cur (cur.toList.take ((k+1)*3) ++ (C.drop k).flatMap enc3 ++ cur.toList.drop ((k+1)*3+((C.drop k).flatMap enc3).length)).toArray 136 (0,0) hg
   unfold World.frozen?
   simp only[g0]
   simp
  ·obtain⟨c1,hc1e⟩:∃ c,c=(cur.toList.take ((k+1)*3) ++ (C.drop k).flatMap enc3 ++ cur.toList.drop ((k+1)*3+((C.drop k).flatMap enc3).length)).toArray:=⟨_,rfl⟩
   rw[←hc1e]
   have s1:c1.size=cur.size:=by
    rw[hc1e]
    simp only[List.size_toArray,List.length_append,List.length_take,List.length_drop,Array.length_toList,hd]
    omega
   have g1:=setRow_heap w g cur c1 136 (0,0) hg
   rw[setCell_eq_setRow _ g (k*3) c1 136 (0,0) _ g1,setRow_setRow]
   have g2:=setRow_heap w g cur (c1.setIfInBounds (k*3) (.int .i64 x.1)) 136 (0,0) hg
   rw[setCell_eq_setRow _ g (k*3+1) _ 136 (0,0) _ g2,setRow_setRow]
   have g3:=setRow_heap w g cur ((c1.setIfInBounds (k*3) (.int .i64 x.1)).setIfInBounds (k*3+1) (.int .i64 x.2.1)) 136 (0,0) hg
   rw[setCell_eq_setRow _ g (k*3+2) _ 136 (0,0) _ g3,setRow_setRow]
   have e1:(C.take k ++ x :: C.drop k).length=C.length+1:=ins_len
   unfold CeRow
   rw[e1]
   refine⟨by rw[enc3_len,e1],.inr ⟨g,cap,_,rfl,hb,setRow_heap w g cur _ 136 (0,0) hg,hc1,hc2,by simpa[s1] using hc3,?_⟩⟩
   refine List.ext_getElem? fun j=>?_
   have lt:((C.take k).flatMap enc3).length=k*3:=by rw[enc3_len,List.length_take,Nat.min_eq_left hk]
   rw[List.flatMap_append,List.flatMap_cons]
   simp only[Array.toList_setIfInBounds]
   rw[List.getElem?_take]
   have ht':∀ j,j < C.length*3→cur.toList[j]?=(C.flatMap enc3)[j]?:=fun j hj=>by
    have h9:(cur.toList.take ((C.length+1)*3))[j]?=(C.flatMap enc3 ++ [.int .i64 0,.int .i64 0,.int .i64 0])[j]?:=by rw[ht]
    rw[List.getElem?_take,if_pos (by omega),List.getElem?_append_left (by rw[enc3_len];omega)] at h9
    exact h9
   have hc1l:c1.toList=cur.toList.take ((k+1)*3) ++ ((C.drop k).flatMap enc3 ++ cur.toList.drop ((k+1)*3+((C.drop k).flatMap enc3).length)):=by rw[hc1e,List.append_assoc]
   have hlc:cur.toList.length=cur.size:=Array.length_toList
   by_cases hj:j < (C.length+1)*3
   ·rw[if_pos hj,List.getElem?_set,List.getElem?_set,List.getElem?_set]
    simp only[List.length_set]
    have hl1:c1.toList.length=cur.size:=by rw[Array.length_toList,s1]
    by_cases j0:j < k*3
    ·rw[if_neg (by omega),if_neg (by omega),if_neg (by omega),List.getElem?_append_left (by rw[lt];exact j0),←enc3_take,List.getElem?_take,if_pos j0,hc1l,List.getElem?_append_left (by rw[List.length_take];omega),List.getElem?_take,if_pos (by omega)]
     exact ht' j (by omega)
    ·rw[List.getElem?_append_right (by rw[lt];omega),lt]
     by_cases j1:j=k*3
     ·subst j1
      rw[if_neg (by omega),if_neg (by omega),if_pos rfl,if_pos (by omega),Nat.sub_self];rfl
     ·by_cases j2:j=k*3+1
      ·subst j2
       rw[if_neg (by omega),if_pos rfl,if_pos (by omega),show k*3+1-k*3=1 by omega];rfl
      ·by_cases j3:j=k*3+2
       ·subst j3
        rw[if_pos rfl,if_pos (by omega),show k*3+2-k*3=2 by omega];rfl
       ·rw[if_neg (by omega),if_neg (by omega),if_neg (by omega),hc1l,List.getElem?_append_right (by rw[List.length_take];omega),List.length_take,Nat.min_eq_left (by omega),List.getElem?_append_left (by rw[hd];omega),List.getElem?_append_right (by simp[enc3];omega)]
        congr 1
        simp[enc3];omega
   ·rw[if_neg hj,List.getElem?_eq_none]
    rw[List.length_append,List.length_append,lt,hd];simp[enc3];omega
def CInv (w:World) (base:Nat) (v:Value) (R:List (List Int)):Prop:=∃ C,CeRow w base v C∧C.Perm (R.map to3)∧C.Pairwise (fun a b=>¬ lt3 b a)
theorem CInv.nil (w:World) (base:Nat):CInv w base (.slice none 0 0) []:=⟨[],CeRow.nil _ _,List.Perm.refl _,List.Pairwise.nil⟩
theorem CInv.kept {w w':World} {base:Nat} {v:Value} {R:List (List Int)} (h:CInv w base v R) (hb:Below w.heap.size w w'):CInv w' base v R:=by
 obtain⟨C,h1,h2⟩:=h;exact⟨C,h1.kept hb,h2⟩
theorem CInv.fin {w:World} {base:Nat} {v:Value} {n:Nat} (h:CInv w base v (cellsRaw n)):CeRow w base v (cellsS n):=by
 obtain⟨C,h1,h2,h3⟩:=h
 have e:C=cellsS n:=by
  refine List.Perm.eq_of_pairwise (le:=fun a b:I3=>¬ lt3 b a) (fun a b _ _ k1 k2=>?_) h3 ?_ (h2.trans (List.mergeSort_perm _ _).symm)
  ·unfold lt3 at k1 k2
   obtain⟨a0,a1,a2⟩:=a
   obtain⟨b0,b1,b2⟩:=b
   dsimp only at k1 k2
   obtain rfl:a0=b0:=by omega
   obtain rfl:a1=b1:=by omega
   obtain rfl:a2=b2:=by omega
   rfl
  ·unfold cellsS sort3
   have:=List.pairwise_mergeSort (le:=fun x y:I3=>decide (¬ lt3 y x)) (fun a b c h1 h2=>zDt (by have a1:=of_decide_eq_true h1;have a2:=of_decide_eq_true h2;unfold lt3 at *;omega)) (fun a b=>by rcases (show ¬ lt3 b a∨¬ lt3 a b by unfold lt3;omega) with h|h<;>simp[h]) (cells3 n)
   exact this.imp (fun h=>by simpa using h)
 rw[←e];exact h1
def AroAt (w:World) (N M:Nat) (ls:Nat→List Int):Prop:=∃ vs:Nat→Value,w.rowIs N 22 M vs∧∀ i,i < M→w.ownsRow (N+1) 3 1 (vs i) (ls i).length ((ls i).map (Value.int .i64))
theorem AroAt.made (w:World) (M:Nat):AroAt (w.alloc (.cells (madeCells #[.slice none 0 0] M) 22)) w.heap.size M (fun _=>[]):=
 ⟨fun _=>.slice none 0 0,World.rowIs_made w _ M _,fun _ _=>World.ownsRow_nil _ _ _ _⟩
theorem AroAt.lt {w:World} {N M:Nat} {ls:Nat→List Int} (h:AroAt w N M ls):N < w.heap.size:=by
 obtain⟨vs,h1,_⟩:=h;exact h1.lt
theorem AroAt.below {w w':World} {N M:Nat} {ls:Nat→List Int} (h:AroAt w N M ls) (hb:Below w.heap.size w w'):AroAt w' N M ls:=by
 obtain⟨vs,h1,h2⟩:=h
 exact⟨vs,h1.of_block (hb.block N h1.lt),fun i hi=>own_below (h2 i hi) hb⟩
theorem AroAt.put {w w':World} {N M a:Nat} {ls:Nat→List Int} (h:AroAt w N M ls) (hb:Below w.heap.size w w') (ha:a < M) {v':Value} {l':List Int} (hown:w'.ownsRow (N+1) 3 1 v' l'.length (l'.map (Value.int .i64))):AroAt (w'.setCell ⟨N,a,none⟩ v') N M (setTo ls a l'):=by
 obtain⟨vs,h1,h2⟩:=h
 refine⟨fun i=>if i=a then v' else vs i,(h1.of_block (hb.block N h1.lt)).set a v',fun i hi=>?_⟩
 dsimp only
 unfold setTo
 by_cases hia:i=a
 ·rw[if_pos hia,if_pos hia]
  exact ownsRow_setCell_other hown (fun e=>by have h9:=(hown.lt N e).1;omega) _
 ·rw[if_neg hia,if_neg hia]
  exact ownsRow_setCell_other (own_below (h2 i hi) hb) (fun e=>by have h9:=((h2 i hi).lt N e).1;omega) _
theorem AroAt.row {w:World} {N M a:Nat} {ls:Nat→List Int} (h:AroAt w N M ls) (ha:a < M):∃ p cap b,w.cell? ⟨N,a,none⟩=some (.slice p (ls a).length cap)∧w.frozen? ⟨N,a,none⟩=false∧(ls a).length≤cap∧(0 < (ls a).length→p=some ⟨b,0,none⟩∧N < b∧b < w.heap.size)∧
  (∀ j (hj:j < (ls a).length),w.cell? ⟨b,j,none⟩=some (.int .i64 (ls a)[j]))∧(p=none→cap=0)∧w.ownsRow (N+1) 3 1 (.slice p (ls a).length cap) (ls a).length ((ls a).map (Value.int .i64)):=by
 obtain⟨vs,h1,h2⟩:=h
 have hc:=h1.cell ha
 have hf:=h1.frozen a
 have ho:=h2 a ha
 rcases ho.2 with ⟨e1,e2⟩|⟨g,cap,cur,e1,e2,e3,e4,_⟩
 ·have h0:(ls a).length=0:=e2
  rw[e1] at hc ho
  exact⟨none,0,0,by rw[h0];exact hc,hf,by omega,fun hh=>by omega,fun j hj=>by omega,fun _=>rfl,by rw[h0];rw[h0] at ho;exact ho⟩
 ·rw[e1] at hc ho
  refine⟨_,cap,g,hc,hf,e4,fun _=>⟨rfl,e2,(ho.lt g rfl).2⟩,fun j hj=>?_,(by intro e;cases e),ho⟩
  have h9:=World.ownsRow.cellAt ho j (by omega)
  rw[List.getElem?_map,List.getElem?_eq_getElem hj] at h9
  exact h9
abbrev vI (l:List Int):List Value:=l.map (Value.int .i64)
structure Aro (w:World) (N M:Nat) (P:List (Nat × Int)) (T:Nat):Prop where
 ex:∃ ls,AroAt w N M ls∧RowsOk ls P∧∀ i,(ls i).length≤T
theorem Aro.below {w w':World} {N M T:Nat} {P:List (Nat × Int)} (h:Aro w N M P T) (hb:Below w.heap.size w w'):Aro w' N M P T:=by
 obtain⟨ls,h1,h2⟩:=h.ex
 exact⟨ls,h1.below hb,h2⟩
theorem Aro.lt {w:World} {N M T:Nat} {P:List (Nat × Int)} (h:Aro w N M P T):N < w.heap.size:=by
 obtain⟨ls,h1,_⟩:=h.ex;exact h1.lt
def sixL (a0 a1 a2:Nat):List (Nat × Int):=[(a0,(a1:Int)),(a0,(a2:Int)),(a1,(a2:Int)),(a1,(a0:Int)),(a2,(a0:Int)),(a2,(a1:Int))]
end Go.Proofs.YtednaajanciabaaGreatDoor
