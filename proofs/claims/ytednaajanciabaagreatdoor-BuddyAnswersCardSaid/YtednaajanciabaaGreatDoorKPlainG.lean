import Derived.Test.YtednaajanciabaaGreatDoorKLin
import Derived.Test.YtednaajanciabaaGreatDoorKPrec
import Derived.Test.YtednaajanciabaaGreatDoorKLoc
import Derived.Test.YtednaajanciabaaGreatDoorFromL
import Derived.Test.YtednaajanciabaaGreatDoorKFreq
import Derived.Test.YtednaajanciabaaGreatDoorGridL
import Derived.Test.YtednaajanciabaaGreatDoorKRefA
set_option maxRecDepth 100000
set_option maxHeartbeats 8000000
set_option linter.unusedSimpArgs false
set_option linter.unusedVariables false
namespace Go.Proofs.YtednaajanciabaaGreatDoor
open Go.RowKit Go.Grid Go.Maps Go.Sort Go.Shelf
theorem strict_unique {α:Type} {R:α→α→Prop} (hi:∀ a,¬ R a a) (ha:∀ a b,R a b→¬ R b a) {l m:List α} (hl:l.Pairwise R) (hm:m.Pairwise R) (h:∀ x,x∈l↔x∈m):l=m:=by
 have nl:l.Nodup:=hl.imp (fun {a b} hab e=>by subst e;exact hi _ hab)
 have nm:m.Nodup:=hm.imp (fun {a b} hab e=>by subst e;exact hi _ hab)
 exact List.Perm.eq_of_pairwise (fun a b _ _ h1 h2=>absurd h2 (ha a b h1)) hl hm ((List.perm_ext_iff_of_nodup nl nm).2 h)
theorem ints_unique {l m:List Int} (hl:l.Pairwise (· < ·)) (hm:m.Pairwise (· < ·)) (h:∀ x,x∈l↔x∈m):l=m:=
 strict_unique (R:=fun a b:Int=>a < b) (fun a=>by omega) (fun a b _=>by omega) hl hm h
theorem lat_up {n a b:Nat} (hab:a+b < n) (f:Nat):(⟨f,a*hh n+hh n,b*hh n,(n-1-a-b)*hh n⟩:Pl)=lat n f (a+1) b∧(⟨f,a*hh n,b*hh n+hh n,(n-1-a-b)*hh n⟩:Pl)=lat n f a (b+1)∧(⟨f,a*hh n,b*hh n,(n-1-a-b)*hh n+hh n⟩:Pl)=lat n f a b:=by
 refine⟨?_,?_,?_⟩
 ·unfold lat;rw[Nat.succ_mul,show n-(a+1)-b=n-1-a-b by omega]
 ·unfold lat;rw[Nat.succ_mul b,show n-a-(b+1)=n-1-a-b by omega]
 ·unfold lat;rw[←Nat.succ_mul,show (n-1-a-b).succ=n-a-b by omega]
theorem lat_down {n a b:Nat} (hab:a+b+2≤n) (f:Nat):(⟨f,a*hh n+hh n,b*hh n+hh n,(n-1-a-b)*hh n-hh n⟩:Pl)=lat n f (a+1) (b+1):=by
 unfold lat
 rw[Nat.succ_mul,Nat.succ_mul b,show n-(a+1)-(b+1)=n-1-a-b-1 by omega,Nat.sub_mul (n-1-a-b) 1,Nat.one_mul]
theorem down_iff {n a b:Nat} (hh1:1≤hh n) (hab:a+b < n):hh n≤(n-1-a-b)*hh n↔a+b+2≤n:=by
 constructor
 ·intro h
  by_cases e:n-1-a-b=0
  ·rw[e] at h;omega
  ·omega
 ·intro h
  exact Nat.le_mul_of_pos_left _ (by omega)
theorem sorted3 {x y z:Int} (h1:x≠y) (h2:x≠z) (h3:y≠z):∃ a b c,sorted [x,y,z]=[a,b,c]∧a < b∧b < c∧∀ w,w∈[a,b,c]↔w∈[x,y,z]:=by
 have hp:=sorted_perm [x,y,z]
 have hs:=sorted_pair [x,y,z]
 have hl:=hp.length_eq
 generalize sorted [x,y,z]=l at *
 match l,hl with
 |[a,b,c],_=>
  have hn:[a,b,c].Nodup:=hp.nodup_iff.2 (by simp;exact⟨⟨h1,h2⟩,h3⟩)
  simp only[List.pairwise_cons,List.mem_cons,List.not_mem_nil,or_false,List.nodup_cons] at hs hn
  refine⟨a,b,c,rfl,?_,?_,fun w=>hp.mem_iff⟩
  ·have:=hs.1 b (.inl rfl)
   have:a≠b:=fun e=>hn.1 (.inl e)
   omega
  ·have:=hs.2.1 c rfl
   have:b≠c:=fun e=>hn.2.1 e
   omega
theorem raw_corner {n:Nat} (h1:1≤n) (h8:n≤8) {c:List Int} (hc:c∈cellsRaw n):∃ x y z:Int,x≠y∧x≠z∧y≠z∧c=sorted [x,y,z]:=by
 have hn:=hh_mul h1 h8
 have hp:1≤hh n:=hh_pos h1 (by omega)
 simp only[cellsRaw,cF,cA,cB,List.mem_flatMap,List.mem_range] at hc
 obtain⟨f,hf,a,ha,b,hb,hc⟩:=hc
 have hab:a+b < n:=by omega
 obtain⟨u1,u2,u3⟩:=lat_up hab f
 have key:∀ i j k l,i+j≤n→k+l≤n→(i≠k∨j≠l)→atI (nodesL n) (lat n f i j)≠atI (nodesL n) (lat n f k l):=by
  intro i j k l hij hkl hne e
  have e2:=node_inj hn hf hij hkl (by unfold atI at e;unfold atL;omega)
  unfold lat at e2
  injection e2 with e3 e4 e5 e6
  rcases hne with h|h
  ·exact h (Nat.eq_of_mul_eq_mul_right hp e4)
  ·exact h (Nat.eq_of_mul_eq_mul_right hp e5)
 unfold cellsAt at hc
 rcases List.mem_cons.1 hc with rfl|hc
 ·refine⟨_,_,_,?_,?_,?_,rfl⟩
  all_goals simp only[cpos]
  ·rw[u1,u2];exact key _ _ _ _ (by omega) (by omega) (by omega)
  ·rw[u1,u3];exact key _ _ _ _ (by omega) (by omega) (by omega)
  ·rw[u2,u3];exact key _ _ _ _ (by omega) (by omega) (by omega)
 ·split at hc
  ·rename_i hd
   rw[List.mem_singleton] at hc
   have hd2:=(down_iff hp hab).1 hd
   have u4:=lat_down hd2 f
   subst hc
   refine⟨_,_,_,?_,?_,?_,rfl⟩
   all_goals simp only[cpos]
   ·rw[u2,u1];exact key _ _ _ _ (by omega) (by omega) (by omega)
   ·rw[u2,u4];exact key _ _ _ _ (by omega) (by omega) (by omega)
   ·rw[u1,u4];exact key _ _ _ _ (by omega) (by omega) (by omega)
  ·cases hc
theorem cell_asc {n:Nat} (h1:1≤n) (h8:n≤8) {c:I3} (hc:c∈cells3 n):c.1 < c.2.1∧c.2.1 < c.2.2:=by
 obtain⟨l,hl,rfl⟩:=List.mem_map.1 hc
 obtain⟨x,y,z,a,b,d,rfl⟩:=raw_corner h1 h8 hl
 obtain⟨u,v,w,e,h1,h2,_⟩:=sorted3 a b d
 rw[e]
 exact⟨h1,h2⟩
theorem mem_edges {n:Nat} {e:I2}:e∈edgesL n↔∃ c∈cells3 n,e∈eds c:=by
 constructor
 ·intro he
  have he:=(List.mergeSort_perm _ _).mem_iff.1 (mem_comp (Nat.le_refl _) he)
  unfold edRaw edTo at he
  rw[List.take_length] at he
  obtain⟨c,hc,he⟩:=List.mem_flatMap.1 he
  exact⟨c,List.mem_mergeSort.1 hc,he⟩
 ·rintro⟨c,hc,he⟩
  exact eds_in hc he
theorem edge_asc {n:Nat} (h1:1≤n) (h8:n≤8) {e:I2} (he:e∈edgesL n):e.1 < e.2:=by
 obtain⟨c,hc,he⟩:=mem_edges.1 he
 have:=cell_asc h1 h8 hc
 simp only[eds,List.mem_cons,List.not_mem_nil,or_false] at he
 rcases he with rfl|rfl|rfl<;>dsimp only<;>omega
theorem comp_strict {d:List I2} (hs:d.Pairwise (fun a b=>¬ lt2 b a)):(comp d d.length).Pairwise lt2:=by
 unfold comp
 rw[List.pairwise_map]
 refine ((List.pairwise_lt_range (n:=d.length)).filter _).imp_of_mem (fun {j k} hj hk hjk=>?_)
 have hk1:=List.mem_range.1 (List.mem_filter.1 hk).1
 have hk2:=(List.mem_filter.1 hk).2
 have e1:d.getD j (0,0)=d[j]:=by simp[List.getD,List.getElem?_eq_getElem (show j < d.length by omega)]
 have e2:d.getD k (0,0)=d[k]:=by simp[List.getD,List.getElem?_eq_getElem hk1]
 rw[e1,e2]
 have hne:d[k]≠d[k-1]:=by
  simp only[newAt,decide_eq_true_eq] at hk2
  rcases hk2 with h|h
  ·omega
  ·rw[List.getElem?_eq_getElem hk1,List.getElem?_eq_getElem (show k-1 < d.length by omega)] at h
   exact fun e=>h (by rw[e])
 have p1:=List.pairwise_iff_getElem.1 hs (k-1) k (by omega) hk1 (by omega)
 have p2:d[j]=d[k-1]∨¬ lt2 d[k-1] d[j]:=by
  by_cases e:j=k-1
  ·left;subst e;rfl
  ·right;exact List.pairwise_iff_getElem.1 hs j (k-1) (by omega) (by omega) (by omega)
 generalize d[j]=x at *
 generalize d[k]=y at *
 generalize d[k-1]=z at *
 have hne':¬ (y.1=z.1∧y.2=z.2):=fun h=>hne (Prod.ext h.1 h.2)
 unfold lt2 at *
 rcases p2 with rfl|p2<;>omega
theorem edges_strict (n:Nat):(edgesL n).Pairwise lt2:=by
 refine comp_strict ?_
 unfold sort2
 have:=List.pairwise_mergeSort (le:=fun x y:I2=>decide (¬ lt2 y x)) (fun a b c h1 h2=>zDt (by have a1:=of_decide_eq_true h1;have a2:=of_decide_eq_true h2;unfold lt2 at *;omega)) (fun a b=>by rcases (show ¬ lt2 b a∨¬ lt2 a b by unfold lt2;omega) with h|h<;>simp[h]) (edRaw n)
 exact this.imp (fun h=>by simpa using h)
def nbs (D:List I2) (i:Nat):List Int:=D.flatMap (fun e=>(if i=e.1.toNat then [e.2] else []) ++ (if i=e.2.toNat then [e.1] else []))
theorem adjTo_nbs (D:List I2) (i:Nat):∀ k,k≤D.length→adjTo D k i=nbs (D.take k) i
 |0,_=>by simp[adjTo,nbs]
 |k+1,h=>by
  rw[adjTo_succ (by omega)]
  have ih:=adjTo_nbs D i k (by omega)
  rw[List.take_succ_eq_append_getElem (by omega)]
  unfold nbs at ih ⊢
  rw[List.flatMap_append,←ih]
  simp only[List.flatMap_cons,List.flatMap_nil,List.append_nil]
  by_cases e1:i=D[k].1.toNat
  ·by_cases e2:i=D[k].2.toNat
   ·simp only[addTo,if_pos e1,if_pos e2,List.append_assoc]
   ·simp only[addTo,if_pos e1,if_neg e2,List.append_nil]
  ·by_cases e2:i=D[k].2.toNat
   ·simp only[addTo,if_neg e1,if_pos e2,List.nil_append]
   ·simp only[addTo,if_neg e1,if_neg e2,List.append_nil]
theorem mem_next {n i:Nat} {x:Int}:x∈nextL n i↔∃ e∈edgesL n,(i=e.1.toNat∧x=e.2)∨(i=e.2.toNat∧x=e.1):=by
 unfold nextL
 rw[(sorted_perm _).mem_iff,adjTo_nbs _ _ _ (Nat.le_refl _),List.take_length]
 unfold nbs
 rw[List.mem_flatMap]
 constructor
 ·rintro⟨e,he,h⟩
  refine⟨e,he,?_⟩
  rcases List.mem_append.1 h with h|h<;>(split at h<;>simp at h)
  ·left;exact⟨by assumption,h⟩
  ·right;exact⟨by assumption,h⟩
 ·rintro⟨e,he,⟨h1,h2⟩|⟨h1,h2⟩⟩
  ·exact⟨e,he,List.mem_append.2 (.inl (by rw[if_pos h1,h2];simp))⟩
  ·exact⟨e,he,List.mem_append.2 (.inr (by rw[if_pos h1,h2];simp))⟩
theorem next_strict {n:Nat} (h1:1≤n) (h8:n≤8) (i:Nat):(nextL n i).Pairwise (· < ·):=by
 have hnd:(nextL n i).Nodup:=by
  unfold nextL
  rw[(sorted_perm _).nodup_iff,adjTo_nbs _ _ _ (Nat.le_refl _),List.take_length]
  unfold nbs List.Nodup
  rw[List.pairwise_flatMap]
  refine⟨fun e he=>?_,(edges_strict n).imp_of_mem (fun {e g} he hg h x hx y hy exy=>?_)⟩
  ·have h2:=edge_asc h1 h8 he
   have h3:=edges_in h1 h8 e he
   have:¬ (i=e.1.toNat∧i=e.2.toNat):=by omega
   split<;>split<;>simp_all
  ·subst exy
   have h2:=edge_asc h1 h8 he
   have h3:=edges_in h1 h8 e he
   have h4:=edge_asc h1 h8 hg
   have h5:=edges_in h1 h8 g hg
   unfold lt2 at h
   have a1:(i=e.1.toNat∧x=e.2)∨(i=e.2.toNat∧x=e.1):=by
    rcases List.mem_append.1 hx with h|h<;>(split at h<;>simp at h)
    ·left;exact⟨by assumption,h⟩
    ·right;exact⟨by assumption,h⟩
   have a2:(i=g.1.toNat∧x=g.2)∨(i=g.2.toNat∧x=g.1):=by
    rcases List.mem_append.1 hy with h|h<;>(split at h<;>simp at h)
    ·left;exact⟨by assumption,h⟩
    ·right;exact⟨by assumption,h⟩
   omega
 refine (List.pairwise_and_iff.2 ⟨sorted_pair _,hnd⟩).imp (fun {a b} h=>?_)
 have:=h.1
 have:=h.2
 omega
theorem ins_strict {l:List Int} (hl:l.Pairwise (· < ·)) {k:Nat} {x:Int} (h1:∀ j (h:j < l.length),j < k→l[j] < x) (h2:∀ h:k < l.length,x < l[k]):(l.take k ++ x :: l.drop k).Pairwise (· < ·):=by
 have key:∀ y∈l.take k,y < x:=by
  intro y hy
  obtain⟨j,hj,rfl⟩:=List.mem_iff_getElem.1 hy
  rw[List.length_take] at hj
  rw[List.getElem_take]
  exact h1 j (by omega) (by omega)
 have key2:∀ y∈l.drop k,x < y:=by
  intro y hy
  obtain⟨j,hj,rfl⟩:=List.mem_iff_getElem.1 hy
  rw[List.length_drop] at hj
  rw[List.getElem_drop]
  have h3:=h2 (by omega)
  by_cases e:j=0
  ·subst e;simp only[Nat.add_zero];omega
  ·have:=List.pairwise_iff_getElem.1 hl k (k+j) (by omega) (by omega) (by omega)
   omega
 rw[List.pairwise_append]
 refine⟨hl.sublist (List.take_sublist _ _),?_,?_⟩
 ·rw[List.pairwise_cons]
  exact⟨key2,hl.sublist (List.drop_sublist _ _)⟩
 ·intro y hy z hz
  rcases List.mem_cons.1 hz with rfl|hz
  ·exact key y hy
  ·have:=key y hy;have:=key2 z hz;omega
theorem ins_mem {α:Type} {l:List α} {k:Nat} {x y:α}:y∈l.take k ++ x :: l.drop k↔y∈l∨y=x:=by
 have h:(l.take k ++ x :: l.drop k).Perm (x :: l):=by
  refine List.perm_middle.trans ?_
  rw[List.take_append_drop]
 rw[h.mem_iff,List.mem_cons]
 exact⟨fun h=>h.elim .inr .inl,fun h=>h.elim .inr .inl⟩
theorem ins_len {α:Type} {l:List α} {k:Nat} {x:α}:(l.take k ++ x :: l.drop k).length=l.length+1:=by
 have h:(l.take k ++ x :: l.drop k).Perm (x :: l):=by
  refine List.perm_middle.trans ?_
  rw[List.take_append_drop]
 rw[h.length_eq];rfl
def RowsOk (ls:Nat→List Int) (P:List (Nat × Int)):Prop:=(∀ i,(ls i).Pairwise (· < ·))∧∀ i x,x∈ls i↔(i,x)∈P
theorem RowsOk.start:RowsOk (fun _=>[]) []:=⟨fun i=>List.Pairwise.nil,fun i x=>by simp⟩
theorem RowsOk.same {ls:Nat→List Int} {P:List (Nat × Int)} (h:RowsOk ls P) {a:Nat} {x:Int} (hx:x∈ls a):RowsOk ls (P ++ [(a,x)]):=
 ⟨h.1,fun i y=>by
  rw[List.mem_append,List.mem_singleton,h.2 i y]
  refine⟨.inl,fun hh=>hh.elim id (fun e=>?_)⟩
  injection e with e1 e2
  subst e1;subst e2
  exact (h.2 _ _).1 hx⟩
theorem RowsOk.more {ls:Nat→List Int} {P:List (Nat × Int)} (h:RowsOk ls P) {a k:Nat} {x:Int} (h1:∀ j (h:j < (ls a).length),j < k→(ls a)[j] < x) (h2:∀ h:k < (ls a).length,x < (ls a)[k]) :
  RowsOk (setTo ls a ((ls a).take k ++ x :: (ls a).drop k)) (P ++ [(a,x)]):=by
 refine⟨fun i=>?_,fun i y=>?_⟩
 ·unfold setTo
  split
  ·exact ins_strict (h.1 a) h1 h2
  ·exact h.1 i
 ·rw[List.mem_append,List.mem_singleton]
  unfold setTo
  split
  ·rename_i e
   subst e
   rw[ins_mem,h.2 i y]
   simp
  ·rename_i e
   rw[h.2 i y]
   refine⟨.inl,fun hh=>hh.elim id (fun e2=>?_)⟩
   injection e2 with e3 _
   exact absurd e3 e
def six (c:I3):List (Nat × Int):=[(c.1.toNat,c.2.1),(c.1.toNat,c.2.2),(c.2.1.toNat,c.2.2),(c.2.1.toNat,c.1),(c.2.2.toNat,c.1),(c.2.2.toNat,c.2.1)]
theorem rows_next {n:Nat} (h1:1≤n) (h8:n≤8) {ls:Nat→List Int} (h:RowsOk ls ((cellsS n).flatMap six)) (i:Nat):ls i=nextL n i:=by
 refine ints_unique (h.1 i) (next_strict h1 h8 i) (fun x=>?_)
 rw[h.2 i x,mem_next,List.mem_flatMap]
 constructor
 ·rintro⟨c,hc,hx⟩
  have hc:c∈cells3 n:=List.mem_mergeSort.1 hc
  simp only[six,List.mem_cons,List.not_mem_nil,or_false,Prod.mk.injEq] at hx
  have e1:(c.1,c.2.1)∈edgesL n:=eds_in hc (by simp[eds])
  have e2:(c.1,c.2.2)∈edgesL n:=eds_in hc (by simp[eds])
  have e3:(c.2.1,c.2.2)∈edgesL n:=eds_in hc (by simp[eds])
  rcases hx with ⟨h3,h4⟩|⟨h3,h4⟩|⟨h3,h4⟩|⟨h3,h4⟩|⟨h3,h4⟩|⟨h3,h4⟩
  ·exact⟨_,e1,.inl ⟨h3,h4⟩⟩
  ·exact⟨_,e2,.inl ⟨h3,h4⟩⟩
  ·exact⟨_,e3,.inl ⟨h3,h4⟩⟩
  ·exact⟨_,e1,.inr ⟨h3,h4⟩⟩
  ·exact⟨_,e2,.inr ⟨h3,h4⟩⟩
  ·exact⟨_,e3,.inr ⟨h3,h4⟩⟩
 ·rintro⟨e,he,hx⟩
  obtain⟨c,hc,he⟩:=mem_edges.1 he
  refine⟨c,List.mem_mergeSort.2 hc,?_⟩
  simp only[eds,List.mem_cons,List.not_mem_nil,or_false] at he
  simp only[six,List.mem_cons,List.not_mem_nil,or_false,Prod.mk.injEq]
  rcases he with rfl|rfl|rfl<;>dsimp only at hx<;>rcases hx with ⟨h3,h4⟩|⟨h3,h4⟩<;>simp[h3,h4]
def eRow (ls:Nat→List Int) (a:Nat):List I2:=((ls a).filter (fun b=>decide ((a:Int) < b))).map (fun b=>((a:Int),b))
def eTo (ls:Nat→List Int) (k:Nat):List I2:=(List.range k).flatMap (eRow ls)
theorem ins3_sorted {l:List I3} (hl:l.Pairwise (fun a b=>¬ lt3 b a)) {k:Nat} {x:I3} (hk:k≤l.length) (h1:∀ j (h:j < l.length),k≤j→lt3 x l[j]) (h2:∀ h:0 < k,¬ lt3 x (l[k-1]'(by omega))):(l.take k ++ x :: l.drop k).Pairwise (fun a b=>¬ lt3 b a):=by
 have key:∀ y∈l.take k,¬ lt3 x y:=by
  intro y hy
  obtain⟨j,hj,rfl⟩:=List.mem_iff_getElem.1 hy
  rw[List.length_take] at hj
  rw[List.getElem_take]
  have h3:=h2 (by omega)
  by_cases e:j=k-1
  ·subst e;exact h3
  ·have:=List.pairwise_iff_getElem.1 hl j (k-1) (by omega) (by omega) (by omega)
   unfold lt3 at *;omega
 have key2:∀ y∈l.drop k,lt3 x y:=by
  intro y hy
  obtain⟨j,hj,rfl⟩:=List.mem_iff_getElem.1 hy
  rw[List.length_drop] at hj
  rw[List.getElem_drop]
  exact h1 _ (by omega) (by omega)
 rw[List.pairwise_append]
 refine⟨hl.sublist (List.take_sublist _ _),?_,?_⟩
 ·rw[List.pairwise_cons]
  exact⟨fun y hy=>by have:=key2 y hy;unfold lt3 at *;omega,hl.sublist (List.drop_sublist _ _)⟩
 ·intro y hy z hz
  rcases List.mem_cons.1 hz with rfl|hz
  ·exact key y hy
  ·have:=key y hy;have:=key2 z hz;unfold lt3 at *;omega
theorem ins_perm' {α:Type} {l m:List α} {k:Nat} {x:α} (h:l.Perm m):(l.take k ++ x :: l.drop k).Perm (m ++ [x]):=by
 refine List.perm_middle.trans ?_
 rw[List.take_append_drop]
 exact (h.cons x).trans (List.perm_append_singleton x m).symm
open Go.RowKit Go.Grid
def nbG (n:Nat):Nat→List Nat:=nbN (nextL n)
open Classical in
noncomputable def hopEnd (n a:Nat):Nat:=if h:∃ i,(Bfs.st (nbG n) a i).2.length=i then h.choose else 0
noncomputable def hop (n a b:Nat):Int:=(Bfs.st (nbG n) a (hopEnd n a)).1 b
def AllEnd (n:Nat):Prop:=∀ a,a < (nodesL n).length→∃ i,(Bfs.st (nbG n) a i).2.length=i
end Go.Proofs.YtednaajanciabaaGreatDoor
namespace Go.Grid
def upAt (h:Nat) (p:Pl) (f u:Nat):Pl:=
 ⟨f,wt p (tab f).1-wt p (tab f).1 % h+(if u=(tab f).1 then h else 0),wt p (tab f).2.1-wt p (tab f).2.1 % h+(if u=(tab f).2.1 then h else 0),wt p (tab f).2.2-wt p (tab f).2.2 % h+(if u=(tab f).2.2 then h else 0)⟩
def OnF (p:Pl) (f:Nat):Prop:=∀ v,v < 12→v≠(tab f).1→v≠(tab f).2.1→v≠(tab f).2.2→wt p v=0
def entry (n:Nat) (p:Pl) (f u:Nat):Option (Nat × Nat):=if 0 < wt p u % hh n*n then some (atL n (upAt (hh n) p f u),wt p u % hh n*n) else none
def corners (f:Nat):List Nat:=[(tab f).1,(tab f).2.1,(tab f).2.2]
def wdot (n:Nat) (v:Nat) (S:List (Nat × Nat)):Nat:=(S.map (fun c=>c.2*wt ((nodesL n).getD c.1 ⟨0,0,0,0⟩) v)).sum
end Go.Grid
namespace Go.Proofs.YtednaajanciabaaGreatDoor
open Go.RowKit Go.Grid Go.Maps Go.Sort Go.Shelf
def Step1 (i j k l:Nat):Prop:=(k=i+1∧l=j)∨(k=i∧l=j+1)∨(k=i+1∧j=l+1)
def Adj6 (i j k l:Nat):Prop:=Step1 i j k l∨Step1 k l i j
theorem Adj6.symm {i j k l:Nat} (h:Adj6 i j k l):Adj6 k l i j:=Or.symm h
def fine (n k:Nat):Nat:=atL (2*n) ((nodesL n).getD k ⟨0,0,0,0⟩)
end Go.Proofs.YtednaajanciabaaGreatDoor
