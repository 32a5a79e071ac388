import Derived.Test.YtbomggfklfbnkaaGreatDoorKLin
import Derived.Test.YtbomggfklfbnkaaGreatDoorKPrec
import Derived.Test.YtbomggfklfbnkaaGreatDoorKLoc
import Derived.Test.YtbomggfklfbnkaaGreatDoorFromL
import Derived.Test.YtbomggfklfbnkaaGreatDoorKFreq
import Derived.Test.YtbomggfklfbnkaaGreatDoorGridL
import Derived.Test.YtbomggfklfbnkaaGreatDoorKRefA
set_option maxRecDepth 100000
set_option maxHeartbeats 8000000
set_option linter.unusedSimpArgs false
set_option linter.unusedVariables false
namespace Go.Proofs.YtbomggfklfbnkaaGreatDoor
open Go.RowKit Go.Grid Go.Maps Go.Sort Go.Shelf
theorem strict_unique {α:Type} {R:α→α→Prop} (hi:∀ a,¬ R a a) (ha:∀ a b,R a b→¬ R b a) {l m:List α} (hl:l.Pairwise R) (hm:m.Pairwise R) (h:∀ x,x∈l↔x∈m):l=m:=by
 have nl:l.Nodup:=hl.imp (fun {a b} hab e=>by subst e;exact hi _ hab)
 have nm:m.Nodup:=hm.imp (fun {a b} hab e=>by subst e;exact hi _ hab)
 exact List.Perm.eq_of_pairwise (fun a b _ _ h1 h2=>absurd h2 (ha a b h1)) hl hm ((List.perm_ext_iff_of_nodup nl nm).2 h)
theorem ints_unique {l m:List Int} (hl:l.Pairwise (· < ·)) (hm:m.Pairwise (· < ·)) (h:∀ x,x∈l↔x∈m):l=m:=
 strict_unique (R:=fun a b:Int=>a < b) (fun a=>by omega) (fun a b _=>by omega) hl hm h
theorem lat_up {n a b:Nat} (hab:a+b < n) (f:Nat):(⟨f,a*hh n+hh n,b*hh n,(n-1-a-b)*hh n⟩:Pl)=lat n f (a+1) b∧(⟨f,a*hh n,b*hh n+hh n,(n-1-a-b)*hh n⟩:Pl)=lat n f a (b+1)∧(⟨f,a*hh n,b*hh n,(n-1-a-b)*hh n+hh n⟩:Pl)=lat n f a b:=by
 refine⟨?_,?_,?_⟩
 ·unfold lat;rw[Nat.succ_mul,show n-(a+1)-b=n-1-a-b by omega]
 ·unfold lat;rw[Nat.succ_mul b,show n-a-(b+1)=n-1-a-b by omega]
 ·unfold lat;rw[←Nat.succ_mul,show (n-1-a-b).succ=n-a-b by omega]
theorem lat_down {n a b:Nat} (hab:a+b+2≤n) (f:Nat):(⟨f,a*hh n+hh n,b*hh n+hh n,(n-1-a-b)*hh n-hh n⟩:Pl)=lat n f (a+1) (b+1):=by
 unfold lat
 rw[Nat.succ_mul,Nat.succ_mul b,show n-(a+1)-(b+1)=n-1-a-b-1 by omega,Nat.sub_mul (n-1-a-b) 1,Nat.one_mul]
theorem down_iff {n a b:Nat} (hh1:1≤hh n) (hab:a+b < n):hh n≤(n-1-a-b)*hh n↔a+b+2≤n:=by
 constructor
 ·intro h
  by_cases e:n-1-a-b=0
  ·rw[e] at h;omega
  ·omega
 ·intro h
  exact Nat.le_mul_of_pos_left _ (by omega)
theorem sorted3 {x y z:Int} (h1:x≠y) (h2:x≠z) (h3:y≠z):∃ a b c,sorted [x,y,z]=[a,b,c]∧a < b∧b < c∧∀ w,w∈[a,b,c]↔w∈[x,y,z]:=by
 have hp:=sorted_perm [x,y,z]
 have hs:=sorted_pair [x,y,z]
 have hl:=hp.length_eq
 generalize sorted [x,y,z]=l at *
 match l,hl with
 |[a,b,c],_=>
  have hn:[a,b,c].Nodup:=hp.nodup_iff.2 (by simp;exact⟨⟨h1,h2⟩,h3⟩)
  simp only[List.pairwise_cons,List.mem_cons,List.not_mem_nil,or_false,List.nodup_cons] at hs hn
  refine⟨a,b,c,rfl,?_,?_,fun w=>hp.mem_iff⟩
  ·have:=hs.1 b (.inl rfl)
   have:a≠b:=fun e=>hn.1 (.inl e)
   omega
  ·have:=hs.2.1 c rfl
   have:b≠c:=fun e=>hn.2.1 e
   omega
theorem raw_corner {n:Nat} (h1:1≤n) (h8:n≤8) {c:List Int} (hc:c∈cellsRaw n):∃ x y z:Int,x≠y∧x≠z∧y≠z∧c=sorted [x,y,z]:=by
 have hn:=hh_mul h1 h8
 have hp:1≤hh n:=hh_pos h1 (by omega)
 simp only[cellsRaw,cF,cA,cB,List.mem_flatMap,List.mem_range] at hc
 obtain⟨f,hf,a,ha,b,hb,hc⟩:=hc
 have hab:a+b < n:=by omega
 obtain⟨u1,u2,u3⟩:=lat_up hab f
 have key:∀ i j k l,i+j≤n→k+l≤n→(i≠k∨j≠l)→atI (nodesL n) (lat n f i j)≠atI (nodesL n) (lat n f k l):=by
  intro i j k l hij hkl hne e
  have e2:=node_inj hn hf hij hkl (by unfold atI at e;unfold atL;omega)
  unfold lat at e2
  injection e2 with e3 e4 e5 e6
  rcases hne with h|h
  ·exact h (Nat.eq_of_mul_eq_mul_right hp e4)
  ·exact h (Nat.eq_of_mul_eq_mul_right hp e5)
 unfold cellsAt at hc
 rcases List.mem_cons.1 hc with rfl|hc
 ·refine⟨_,_,_,?_,?_,?_,rfl⟩
  all_goals simp only[cpos]
  ·rw[u1,u2];exact key _ _ _ _ (by omega) (by omega) (by omega)
  ·rw[u1,u3];exact key _ _ _ _ (by omega) (by omega) (by omega)
  ·rw[u2,u3];exact key _ _ _ _ (by omega) (by omega) (by omega)
 ·split at hc
  ·rename_i hd
   rw[List.mem_singleton] at hc
   have hd2:=(down_iff hp hab).1 hd
   have u4:=lat_down hd2 f
   subst hc
   refine⟨_,_,_,?_,?_,?_,rfl⟩
   all_goals simp only[cpos]
   ·rw[u2,u1];exact key _ _ _ _ (by omega) (by omega) (by omega)
   ·rw[u2,u4];exact key _ _ _ _ (by omega) (by omega) (by omega)
   ·rw[u1,u4];exact key _ _ _ _ (by omega) (by omega) (by omega)
  ·cases hc
theorem cell_asc {n:Nat} (h1:1≤n) (h8:n≤8) {c:I3} (hc:c∈cells3 n):c.1 < c.2.1∧c.2.1 < c.2.2:=by
 obtain⟨l,hl,rfl⟩:=List.mem_map.1 hc
 obtain⟨x,y,z,a,b,d,rfl⟩:=raw_corner h1 h8 hl
 obtain⟨u,v,w,e,h1,h2,_⟩:=sorted3 a b d
 rw[e]
 exact⟨h1,h2⟩
theorem mem_edges {n:Nat} {e:I2}:e∈edgesL n↔∃ c∈cells3 n,e∈eds c:=by
 constructor
 ·intro he
  have he:=(List.mergeSort_perm _ _).mem_iff.1 (mem_comp (Nat.le_refl _) he)
  unfold edRaw edTo at he
  rw[List.take_length] at he
  obtain⟨c,hc,he⟩:=List.mem_flatMap.1 he
  exact⟨c,List.mem_mergeSort.1 hc,he⟩
 ·rintro⟨c,hc,he⟩
  exact eds_in hc he
theorem edge_asc {n:Nat} (h1:1≤n) (h8:n≤8) {e:I2} (he:e∈edgesL n):e.1 < e.2:=by
 obtain⟨c,hc,he⟩:=mem_edges.1 he
 have:=cell_asc h1 h8 hc
 simp only[eds,List.mem_cons,List.not_mem_nil,or_false] at he
 rcases he with rfl|rfl|rfl<;>dsimp only<;>omega
theorem comp_strict {d:List I2} (hs:d.Pairwise (fun a b=>¬ lt2 b a)):(comp d d.length).Pairwise lt2:=by
 unfold comp
 rw[List.pairwise_map]
 refine ((List.pairwise_lt_range (n:=d.length)).filter _).imp_of_mem (fun {j k} hj hk hjk=>?_)
 have hk1:=List.mem_range.1 (List.mem_filter.1 hk).1
 have hk2:=(List.mem_filter.1 hk).2
 have e1:d.getD j (0,0)=d[j]:=by simp[List.getD,List.getElem?_eq_getElem (show j < d.length by omega)]
 have e2:d.getD k (0,0)=d[k]:=by simp[List.getD,List.getElem?_eq_getElem hk1]
 rw[e1,e2]
 have hne:d[k]≠d[k-1]:=by
  simp only[newAt,decide_eq_true_eq] at hk2
  rcases hk2 with h|h
  ·omega
  ·rw[List.getElem?_eq_getElem hk1,List.getElem?_eq_getElem (show k-1 < d.length by omega)] at h
   exact fun e=>h (by rw[e])
 have p1:=List.pairwise_iff_getElem.1 hs (k-1) k (by omega) hk1 (by omega)
 have p2:d[j]=d[k-1]∨¬ lt2 d[k-1] d[j]:=by
  by_cases e:j=k-1
  ·left;subst e;rfl
  ·right;exact List.pairwise_iff_getElem.1 hs j (k-1) (by omega) (by omega) (by omega)
 generalize d[j]=x at *
 generalize d[k]=y at *
 generalize d[k-1]=z at *
 have hne':¬ (y.1=z.1∧y.2=z.2):=fun h=>hne (Prod.ext h.1 h.2)
 unfold lt2 at *
 rcases p2 with rfl|p2<;>omega
theorem edges_strict (n:Nat):(edgesL n).Pairwise lt2:=by
 refine comp_strict ?_
 unfold sort2
 have:=List.pairwise_mergeSort (le:=fun x y:I2=>decide (¬ lt2 y x)) (fun a b c h1 h2=>zDt (by have a1:=of_decide_eq_true h1;have a2:=of_decide_eq_true h2;unfold lt2 at *;omega)) (fun a b=>by rcases (show ¬ lt2 b a∨¬ lt2 a b by unfold lt2;omega) with h|h<;>simp[h]) (edRaw n)
 exact this.imp (fun h=>by simpa using h)
def nbs (D:List I2) (i:Nat):List Int:=D.flatMap (fun e=>(if i=e.1.toNat then [e.2] else []) ++ (if i=e.2.toNat then [e.1] else []))
theorem adjTo_nbs (D:List I2) (i:Nat):∀ k,k≤D.length→adjTo D k i=nbs (D.take k) i
 |0,_=>by simp[adjTo,nbs]
 |k+1,h=>by
  rw[adjTo_succ (by omega)]
  have ih:=adjTo_nbs D i k (by omega)
  rw[List.take_succ_eq_append_getElem (by omega)]
  unfold nbs at ih ⊢
  rw[List.flatMap_append,←ih]
  simp only[List.flatMap_cons,List.flatMap_nil,List.append_nil]
  by_cases e1:i=D[k].1.toNat
  ·by_cases e2:i=D[k].2.toNat
   ·simp only[addTo,if_pos e1,if_pos e2,List.append_assoc]
   ·simp only[addTo,if_pos e1,if_neg e2,List.append_nil]
  ·by_cases e2:i=D[k].2.toNat
   ·simp only[addTo,if_neg e1,if_pos e2,List.nil_append]
   ·simp only[addTo,if_neg e1,if_neg e2,List.append_nil]
theorem mem_next {n i:Nat} {x:Int}:x∈nextL n i↔∃ e∈edgesL n,(i=e.1.toNat∧x=e.2)∨(i=e.2.toNat∧x=e.1):=by
 unfold nextL
 rw[(sorted_perm _).mem_iff,adjTo_nbs _ _ _ (Nat.le_refl _),List.take_length]
 unfold nbs
 rw[List.mem_flatMap]
 constructor
 ·rintro⟨e,he,h⟩
  refine⟨e,he,?_⟩
  rcases List.mem_append.1 h with h|h<;>(split at h<;>simp at h)
  ·left;exact⟨by assumption,h⟩
  ·right;exact⟨by assumption,h⟩
 ·rintro⟨e,he,⟨h1,h2⟩|⟨h1,h2⟩⟩
  ·exact⟨e,he,List.mem_append.2 (.inl (by rw[if_pos h1,h2];simp))⟩
  ·exact⟨e,he,List.mem_append.2 (.inr (by rw[if_pos h1,h2];simp))⟩
theorem next_strict {n:Nat} (h1:1≤n) (h8:n≤8) (i:Nat):(nextL n i).Pairwise (· < ·):=by
 have hnd:(nextL n i).Nodup:=by
  unfold nextL
  rw[(sorted_perm _).nodup_iff,adjTo_nbs _ _ _ (Nat.le_refl _),List.take_length]
  unfold nbs List.Nodup
  rw[List.pairwise_flatMap]
  refine⟨fun e he=>?_,(edges_strict n).imp_of_mem (fun {e g} he hg h x hx y hy exy=>?_)⟩
  ·have h2:=edge_asc h1 h8 he
   have h3:=edges_in h1 h8 e he
   have:¬ (i=e.1.toNat∧i=e.2.toNat):=by omega
   split<;>split<;>simp_all
  ·subst exy
   have h2:=edge_asc h1 h8 he
   have h3:=edges_in h1 h8 e he
   have h4:=edge_asc h1 h8 hg
   have h5:=edges_in h1 h8 g hg
   unfold lt2 at h
   have a1:(i=e.1.toNat∧x=e.2)∨(i=e.2.toNat∧x=e.1):=by
    rcases List.mem_append.1 hx with h|h<;>(split at h<;>simp at h)
    ·left;exact⟨by assumption,h⟩
    ·right;exact⟨by assumption,h⟩
   have a2:(i=g.1.toNat∧x=g.2)∨(i=g.2.toNat∧x=g.1):=by
    rcases List.mem_append.1 hy with h|h<;>(split at h<;>simp at h)
    ·left;exact⟨by assumption,h⟩
    ·right;exact⟨by assumption,h⟩
   omega
 refine (List.pairwise_and_iff.2 ⟨sorted_pair _,hnd⟩).imp (fun {a b} h=>?_)
 have:=h.1
 have:=h.2
 omega
theorem ins_strict {l:List Int} (hl:l.Pairwise (· < ·)) {k:Nat} {x:Int} (h1:∀ j (h:j < l.length),j < k→l[j] < x) (h2:∀ h:k < l.length,x < l[k]):(l.take k ++ x :: l.drop k).Pairwise (· < ·):=by
 have key:∀ y∈l.take k,y < x:=by
  intro y hy
  obtain⟨j,hj,rfl⟩:=List.mem_iff_getElem.1 hy
  rw[List.length_take] at hj
  rw[List.getElem_take]
  exact h1 j (by omega) (by omega)
 have key2:∀ y∈l.drop k,x < y:=by
  intro y hy
  obtain⟨j,hj,rfl⟩:=List.mem_iff_getElem.1 hy
  rw[List.length_drop] at hj
  rw[List.getElem_drop]
  have h3:=h2 (by omega)
  by_cases e:j=0
  ·subst e;simp only[Nat.add_zero];omega
  ·have:=List.pairwise_iff_getElem.1 hl k (k+j) (by omega) (by omega) (by omega)
   omega
 rw[List.pairwise_append]
 refine⟨hl.sublist (List.take_sublist _ _),?_,?_⟩
 ·rw[List.pairwise_cons]
  exact⟨key2,hl.sublist (List.drop_sublist _ _)⟩
 ·intro y hy z hz
  rcases List.mem_cons.1 hz with rfl|hz
  ·exact key y hy
  ·have:=key y hy;have:=key2 z hz;omega
theorem ins_mem {α:Type} {l:List α} {k:Nat} {x y:α}:y∈l.take k ++ x :: l.drop k↔y∈l∨y=x:=by
 have h:(l.take k ++ x :: l.drop k).Perm (x :: l):=by
  refine List.perm_middle.trans ?_
  rw[List.take_append_drop]
 rw[h.mem_iff,List.mem_cons]
 exact⟨fun h=>h.elim .inr .inl,fun h=>h.elim .inr .inl⟩
theorem ins_len {α:Type} {l:List α} {k:Nat} {x:α}:(l.take k ++ x :: l.drop k).length=l.length+1:=by
 have h:(l.take k ++ x :: l.drop k).Perm (x :: l):=by
  refine List.perm_middle.trans ?_
  rw[List.take_append_drop]
 rw[h.length_eq];rfl
def RowsOk (ls:Nat→List Int) (P:List (Nat × Int)):Prop:=(∀ i,(ls i).Pairwise (· < ·))∧∀ i x,x∈ls i↔(i,x)∈P
theorem RowsOk.start:RowsOk (fun _=>[]) []:=⟨fun i=>List.Pairwise.nil,fun i x=>by simp⟩
theorem RowsOk.same {ls:Nat→List Int} {P:List (Nat × Int)} (h:RowsOk ls P) {a:Nat} {x:Int} (hx:x∈ls a):RowsOk ls (P ++ [(a,x)]):=
 ⟨h.1,fun i y=>by
  rw[List.mem_append,List.mem_singleton,h.2 i y]
  refine⟨.inl,fun hh=>hh.elim id (fun e=>?_)⟩
  injection e with e1 e2
  subst e1;subst e2
  exact (h.2 _ _).1 hx⟩
theorem RowsOk.more {ls:Nat→List Int} {P:List (Nat × Int)} (h:RowsOk ls P) {a k:Nat} {x:Int} (h1:∀ j (h:j < (ls a).length),j < k→(ls a)[j] < x) (h2:∀ h:k < (ls a).length,x < (ls a)[k]) :
  RowsOk (setTo ls a ((ls a).take k ++ x :: (ls a).drop k)) (P ++ [(a,x)]):=by
 refine⟨fun i=>?_,fun i y=>?_⟩
 ·unfold setTo
  split
  ·exact ins_strict (h.1 a) h1 h2
  ·exact h.1 i
 ·rw[List.mem_append,List.mem_singleton]
  unfold setTo
  split
  ·rename_i e
   subst e
   rw[ins_mem,h.2 i y]
   simp
  ·rename_i e
   rw[h.2 i y]
   refine⟨.inl,fun hh=>hh.elim id (fun e2=>?_)⟩
   injection e2 with e3 _
   exact absurd e3 e
def six (c:I3):List (Nat × Int):=[(c.1.toNat,c.2.1),(c.1.toNat,c.2.2),(c.2.1.toNat,c.2.2),(c.2.1.toNat,c.1),(c.2.2.toNat,c.1),(c.2.2.toNat,c.2.1)]
theorem rows_next {n:Nat} (h1:1≤n) (h8:n≤8) {ls:Nat→List Int} (h:RowsOk ls ((cellsS n).flatMap six)) (i:Nat):ls i=nextL n i:=by
 refine ints_unique (h.1 i) (next_strict h1 h8 i) (fun x=>?_)
 rw[h.2 i x,mem_next,List.mem_flatMap]
 constructor
 ·rintro⟨c,hc,hx⟩
  have hc:c∈cells3 n:=List.mem_mergeSort.1 hc
  simp only[six,List.mem_cons,List.not_mem_nil,or_false,Prod.mk.injEq] at hx
  have e1:(c.1,c.2.1)∈edgesL n:=eds_in hc (by simp[eds])
  have e2:(c.1,c.2.2)∈edgesL n:=eds_in hc (by simp[eds])
  have e3:(c.2.1,c.2.2)∈edgesL n:=eds_in hc (by simp[eds])
  rcases hx with ⟨h3,h4⟩|⟨h3,h4⟩|⟨h3,h4⟩|⟨h3,h4⟩|⟨h3,h4⟩|⟨h3,h4⟩
  ·exact⟨_,e1,.inl ⟨h3,h4⟩⟩
  ·exact⟨_,e2,.inl ⟨h3,h4⟩⟩
  ·exact⟨_,e3,.inl ⟨h3,h4⟩⟩
  ·exact⟨_,e1,.inr ⟨h3,h4⟩⟩
  ·exact⟨_,e2,.inr ⟨h3,h4⟩⟩
  ·exact⟨_,e3,.inr ⟨h3,h4⟩⟩
 ·rintro⟨e,he,hx⟩
  obtain⟨c,hc,he⟩:=mem_edges.1 he
  refine⟨c,List.mem_mergeSort.2 hc,?_⟩
  simp only[eds,List.mem_cons,List.not_mem_nil,or_false] at he
  simp only[six,List.mem_cons,List.not_mem_nil,or_false,Prod.mk.injEq]
  rcases he with rfl|rfl|rfl<;>dsimp only at hx<;>rcases hx with ⟨h3,h4⟩|⟨h3,h4⟩<;>simp[h3,h4]
def eRow (ls:Nat→List Int) (a:Nat):List I2:=((ls a).filter (fun b=>decide ((a:Int) < b))).map (fun b=>((a:Int),b))
def eTo (ls:Nat→List Int) (k:Nat):List I2:=(List.range k).flatMap (eRow ls)
theorem ins3_sorted {l:List I3} (hl:l.Pairwise (fun a b=>¬ lt3 b a)) {k:Nat} {x:I3} (hk:k≤l.length) (h1:∀ j (h:j < l.length),k≤j→lt3 x l[j]) (h2:∀ h:0 < k,¬ lt3 x (l[k-1]'(by omega))):(l.take k ++ x :: l.drop k).Pairwise (fun a b=>¬ lt3 b a):=by
 have key:∀ y∈l.take k,¬ lt3 x y:=by
  intro y hy
  obtain⟨j,hj,rfl⟩:=List.mem_iff_getElem.1 hy
  rw[List.length_take] at hj
  rw[List.getElem_take]
  have h3:=h2 (by omega)
  by_cases e:j=k-1
  ·subst e;exact h3
  ·have:=List.pairwise_iff_getElem.1 hl j (k-1) (by omega) (by omega) (by omega)
   unfold lt3 at *;omega
 have key2:∀ y∈l.drop k,lt3 x y:=by
  intro y hy
  obtain⟨j,hj,rfl⟩:=List.mem_iff_getElem.1 hy
  rw[List.length_drop] at hj
  rw[List.getElem_drop]
  exact h1 _ (by omega) (by omega)
 rw[List.pairwise_append]
 refine⟨hl.sublist (List.take_sublist _ _),?_,?_⟩
 ·rw[List.pairwise_cons]
  exact⟨fun y hy=>by have:=key2 y hy;unfold lt3 at *;omega,hl.sublist (List.drop_sublist _ _)⟩
 ·intro y hy z hz
  rcases List.mem_cons.1 hz with rfl|hz
  ·exact key y hy
  ·have:=key y hy;have:=key2 z hz;unfold lt3 at *;omega
theorem ins_perm' {α:Type} {l m:List α} {k:Nat} {x:α} (h:l.Perm m):(l.take k ++ x :: l.drop k).Perm (m ++ [x]):=by
 refine List.perm_middle.trans ?_
 rw[List.take_append_drop]
 exact (h.cons x).trans (List.perm_append_singleton x m).symm
open Go.RowKit Go.Grid
def nbG (n:Nat):Nat→List Nat:=nbN (nextL n)
open Classical in
noncomputable def hopEnd (n a:Nat):Nat:=if h:∃ i,(Bfs.st (nbG n) a i).2.length=i then h.choose else 0
noncomputable def hop (n a b:Nat):Int:=(Bfs.st (nbG n) a (hopEnd n a)).1 b
theorem next_bd {n:Nat} (h1:1≤n) (h8:n≤8) {i:Nat} {x:Int} (h:x∈nextL n i):0≤x∧x < (nodesL n).length:=by
 obtain⟨e,he,h⟩:=mem_next.1 h
 have h5:=edges_in h1 h8 e he
 rcases h with ⟨_,rfl⟩|⟨_,rfl⟩<;>omega
theorem nbG_lt {n:Nat} (h1:1≤n) (h8:n≤8):∀ u,u < (nodesL n).length→∀ v∈nbG n u,v < (nodesL n).length:=
 nbN_lt (fun i _ x hx=>next_bd h1 h8 hx)
theorem hop_eq {n a i:Nat} (h1:1≤n) (h8:n≤8) (ha:a < (nodesL n).length) (h:(Bfs.st (nbG n) a i).2.length=i) (b:Nat):(Bfs.st (nbG n) a i).1 b=hop n a b:=by
 have hex:∃ i,(Bfs.st (nbG n) a i).2.length=i:=⟨i,h⟩
 have he:(Bfs.st (nbG n) a (hopEnd n a)).2.length=hopEnd n a:=by
  unfold hopEnd;rw[dif_pos hex];exact hex.choose_spec
 exact Bfs.ended_unique ha (nbG_lt h1 h8) h he b
theorem hop_facts {n a:Nat} (h1:1≤n) (h8:n≤8) (ha:a < (nodesL n).length) (hex:∃ i,(Bfs.st (nbG n) a i).2.length=i) :
  (∀ k v,Bfs.Walk (nbG n) a k v→0≤hop n a v∧hop n a v≤k)∧∀ v,0≤hop n a v→Bfs.Walk (nbG n) a (hop n a v).toNat v:=by
 obtain⟨i,hi⟩:=hex
 have h:=Bfs.ended ha (nbG_lt h1 h8) hi
 have he:=hop_eq h1 h8 ha hi
 exact⟨fun k v hw=>by rw[←he];exact h.1 k v hw,fun v hv=>by rw[←he] at hv ⊢;exact h.2 v hv⟩
theorem mem_nbG {n u v:Nat} (h1:1≤n) (h8:n≤8):v∈nbG n u↔(v:Int)∈nextL n u:=by
 unfold nbG nbN
 rw[List.mem_map]
 refine⟨fun ⟨x,hx,e⟩=>?_,fun h=>⟨_,h,by simp⟩⟩
 have h0:=(next_bd h1 h8 hx).1
 rwa[←show x=(v:Int) by omega]
theorem nbG_symm {n:Nat} (h1:1≤n) (h8:n≤8):∀ u v,v∈nbG n u→u∈nbG n v:=fun u v h=>by
 rw[mem_nbG h1 h8,mem_next] at h ⊢
 obtain⟨e,he,h⟩:=h
 have h5:=edges_in h1 h8 e he
 refine⟨e,he,?_⟩
 rcases h with ⟨h3,h4⟩|⟨h3,h4⟩
 ·exact .inr ⟨by omega,by omega⟩
 ·exact .inl ⟨by omega,by omega⟩
theorem reach {n a b:Nat} (h1:1≤n) (h8:n≤8) (ha:a < (nodesL n).length) (hb:b < (nodesL n).length):∃ k,Bfs.Walk (nbG n) a k b:=by
 classical
 let x:List Int:=(List.range (nodesL n).length).map (fun i=>if ∃ k,Bfs.Walk (nbG n) a k i then (1:Int) else 0)
 have hxl:x.length=(nodesL n).length:=by simp[x]
 have hx:∀ i,i < (nodesL n).length→x.getD i 0=if ∃ k,Bfs.Walk (nbG n) a k i then (1:Int) else 0:=fun i hi=>by
  simp[x,List.getD_eq_getElem?_getD,hi]
 have hflat:FlatE n x:=fun e he=>by
  have h5:=edges_in h1 h8 e he
  have hn1:e.2.toNat∈nbG n e.1.toNat:=(mem_nbG h1 h8).2 (mem_next.2 ⟨e,he,.inl ⟨rfl,by omega⟩⟩)
  rw[hx _ (by omega),hx _ (by omega)]
  have hiff:(∃ k,Bfs.Walk (nbG n) a k e.1.toNat)↔∃ k,Bfs.Walk (nbG n) a k e.2.toNat:=
   ⟨fun ⟨k,h⟩=>⟨k+1,.succ h hn1⟩,fun ⟨k,h⟩=>⟨k+1,.succ h (nbG_symm h1 h8 _ _ hn1)⟩⟩
  by_cases h:∃ k,Bfs.Walk (nbG n) a k e.1.toNat
  ·rw[if_pos h,if_pos (hiff.1 h)]
  ·rw[if_neg h,if_neg (fun h2=>h (hiff.2 h2))]
 have hall:=fun (i:Nat) (hi:i < (nodesL n).length)=>flat_all h1 (by omega) (hh_mul h1 h8) hflat hi
 have ea:=hall a ha
 have eb:=hall b hb
 rw[hx a ha,if_pos ⟨0,.zero⟩] at ea
 rw[hx b hb,←ea] at eb
 by_cases h:∃ k,Bfs.Walk (nbG n) a k b
 ·exact h
 ·rw[if_neg h] at eb;omega
def AllEnd (n:Nat):Prop:=∀ a,a < (nodesL n).length→∃ i,(Bfs.st (nbG n) a i).2.length=i
theorem hop_nonneg {n a b:Nat} (h1:1≤n) (h8:n≤8) (ha:a < (nodesL n).length) (hb:b < (nodesL n).length) (hex:∃ i,(Bfs.st (nbG n) a i).2.length=i):0≤hop n a b:=by
 obtain⟨k,hk⟩:=reach h1 h8 ha hb
 exact ((hop_facts h1 h8 ha hex).1 k b hk).1
theorem hop_walk {n a b:Nat} (h1:1≤n) (h8:n≤8) (ha:a < (nodesL n).length) (hb:b < (nodesL n).length) (hex:∃ i,(Bfs.st (nbG n) a i).2.length=i):Bfs.Walk (nbG n) a (hop n a b).toNat b:=
 (hop_facts h1 h8 ha hex).2 b (hop_nonneg h1 h8 ha hb hex)
theorem hop_symm {n a b:Nat} (h1:1≤n) (h8:n≤8) (ha:a < (nodesL n).length) (hb:b < (nodesL n).length) (hea:∃ i,(Bfs.st (nbG n) a i).2.length=i) (heb:∃ i,(Bfs.st (nbG n) b i).2.length=i):hop n a b=hop n b a:=by
 have w1:=(hop_walk h1 h8 ha hb hea).symm (nbG_symm h1 h8)
 have w2:=(hop_walk h1 h8 hb ha heb).symm (nbG_symm h1 h8)
 have f1:=(hop_facts h1 h8 ha hea).1 _ _ w2
 have f2:=(hop_facts h1 h8 hb heb).1 _ _ w1
 omega
theorem hop_zero {n a b:Nat} (h1:1≤n) (h8:n≤8) (ha:a < (nodesL n).length) (hb:b < (nodesL n).length) (hea:∃ i,(Bfs.st (nbG n) a i).2.length=i):hop n a b=0↔a=b:=by
 constructor
 ·intro h
  have w:=hop_walk h1 h8 ha hb hea
  rw[h] at w
  exact w.nil
 ·rintro rfl
  have f:=(hop_facts h1 h8 ha hea).1 0 a .zero
  omega
end Go.Proofs.YtbomggfklfbnkaaGreatDoor
namespace Go.Grid
def upAt (h:Nat) (p:Pl) (f u:Nat):Pl:=
 ⟨f,wt p (tab f).1-wt p (tab f).1 % h+(if u=(tab f).1 then h else 0),wt p (tab f).2.1-wt p (tab f).2.1 % h+(if u=(tab f).2.1 then h else 0),wt p (tab f).2.2-wt p (tab f).2.2 % h+(if u=(tab f).2.2 then h else 0)⟩
def OnF (p:Pl) (f:Nat):Prop:=∀ v,v < 12→v≠(tab f).1→v≠(tab f).2.1→v≠(tab f).2.2→wt p v=0
def entry (n:Nat) (p:Pl) (f u:Nat):Option (Nat × Nat):=if 0 < wt p u % hh n*n then some (atL n (upAt (hh n) p f u),wt p u % hh n*n) else none
def corners (f:Nat):List Nat:=[(tab f).1,(tab f).2.1,(tab f).2.2]
theorem locRaw_at {n:Nat} {p:Pl} (hx:p.a % hh n*n+p.b % hh n*n+p.c % hh n*n=0):locRaw n p=[(atL n p,840)]:=by
 unfold locRaw locAll;dsimp only;rw[if_pos hx];simp
def wdot (n:Nat) (v:Nat) (S:List (Nat × Nat)):Nat:=(S.map (fun c=>c.2*wt ((nodesL n).getD c.1 ⟨0,0,0,0⟩) v)).sum
end Go.Grid
namespace Go.Proofs.YtbomggfklfbnkaaGreatDoor
open Go.RowKit Go.Grid Go.Maps Go.Sort Go.Shelf
theorem cell_adj {n:Nat} (h1:1≤n) (h8:n≤8) {u v z:Nat} (hc:sorted [(u:Int),(v:Int),(z:Int)]∈cellsRaw n) {x y:Nat} (hx:x=u∨x=v∨x=z) (hy:y=u∨y=v∨y=z) (hne:x≠y):(y:Int)∈nextL n x:=by
 have hp:=sorted_perm [(u:Int),(v:Int),(z:Int)]
 have hl:=hp.length_eq
 generalize hs:sorted [(u:Int),(v:Int),(z:Int)]=c at *
 match c,hl with
 |[c0,c1,c2],_=>
  have hm:(c0,c1,c2)∈cells3 n:=List.mem_map.2 ⟨_,hc,rfl⟩
  have e1:=eds_in hm (e:=(c0,c1)) (by simp[eds])
  have e2:=eds_in hm (e:=(c0,c2)) (by simp[eds])
  have e3:=eds_in hm (e:=(c1,c2)) (by simp[eds])
  have hxm:(x:Int)∈[c0,c1,c2]:=hp.mem_iff.2 (by simp;omega)
  have hym:(y:Int)∈[c0,c1,c2]:=hp.mem_iff.2 (by simp;omega)
  simp only[List.mem_cons,List.not_mem_nil,or_false] at hxm hym
  rw[mem_next]
  rcases hxm with hxm|hxm|hxm<;>rcases hym with hym|hym|hym
  ·exact absurd (hxm.trans hym.symm) (by omega)
  ·exact⟨_,e1,.inl ⟨by dsimp only;omega,hym⟩⟩
  ·exact⟨_,e2,.inl ⟨by dsimp only;omega,hym⟩⟩
  ·exact⟨_,e1,.inr ⟨by dsimp only;omega,hym⟩⟩
  ·exact absurd (hxm.trans hym.symm) (by omega)
  ·exact⟨_,e3,.inl ⟨by dsimp only;omega,hym⟩⟩
  ·exact⟨_,e2,.inr ⟨by dsimp only;omega,hym⟩⟩
  ·exact⟨_,e3,.inr ⟨by dsimp only;omega,hym⟩⟩
  ·exact absurd (hxm.trans hym.symm) (by omega)
theorem cell_in {n f a b:Nat} (hf:f < 20) (hab:a+b < n) {c:List Int} (hc:c∈cellsAt (nodesL n) (hh n) (cpos n f a b)):c∈cellsRaw n:=by
 simp only[cellsRaw,cF,cA,cB,List.mem_flatMap,List.mem_range]
 exact⟨f,hf,a,by omega,b,by omega,hc⟩
def Step1 (i j k l:Nat):Prop:=(k=i+1∧l=j)∨(k=i∧l=j+1)∨(k=i+1∧j=l+1)
def Adj6 (i j k l:Nat):Prop:=Step1 i j k l∨Step1 k l i j
theorem Adj6.symm {i j k l:Nat} (h:Adj6 i j k l):Adj6 k l i j:=Or.symm h
theorem edge_lat {n:Nat} (h1:1≤n) (h8:n≤8) {e:I2} (he:e∈edgesL n):∃ f i j k l:Nat,f < 20∧i+j≤n∧k+l≤n∧Adj6 i j k l∧e.1=(atL n (lat n f i j):Int)∧e.2=(atL n (lat n f k l):Int):=by
 have hpos:1≤hh n:=hh_pos h1 (by omega)
 obtain⟨c,hc,hec⟩:=mem_edges.1 he
 obtain⟨raw,hraw,rfl⟩:=List.mem_map.1 hc
 have key:∀ (f:Nat) (P:Fin 3→Nat × Nat),f < 20→(∀ x,(P x).1+(P x).2≤n)→(∀ x y,x≠y→Adj6 (P x).1 (P x).2 (P y).1 (P y).2)→
   raw=sorted [(atL n (lat n f (P 0).1 (P 0).2):Int),(atL n (lat n f (P 1).1 (P 1).2):Int),(atL n (lat n f (P 2).1 (P 2).2):Int)]→
   ∃ f i j k l:Nat,f < 20∧i+j≤n∧k+l≤n∧Adj6 i j k l∧e.1=(atL n (lat n f i j):Int)∧e.2=(atL n (lat n f k l):Int):=by
  intro f P hf hP hA hr
  obtain⟨u,v,z,a1,a2,a3,e4⟩:=raw_corner h1 h8 hraw
  have hp:=sorted_perm [(atL n (lat n f (P 0).1 (P 0).2):Int),(atL n (lat n f (P 1).1 (P 1).2):Int),(atL n (lat n f (P 2).1 (P 2).2):Int)]
  have hlen:=hp.length_eq
  rw[←hr] at hp hlen
  have hasc:=cell_asc h1 h8 hc
  match raw,hlen with
  |[c0,c1,c2],_=>
   have hasc2:c0 < c1∧c1 < c2:=hasc
   have hec2:e∈[(c0,c1),(c0,c2),(c1,c2)]:=hec
   have hm:∀ x,x∈[c0,c1,c2]→∃ y:Fin 3,x=(atL n (lat n f (P y).1 (P y).2):Int):=fun x hx=>by
    have:=hp.mem_iff.1 hx
    simp only[List.mem_cons,List.not_mem_nil,or_false] at this
    rcases this with h|h|h
    ·exact⟨0,h⟩
    ·exact⟨1,h⟩
    ·exact⟨2,h⟩
   have fin:∀ x y,x∈[c0,c1,c2]→y∈[c0,c1,c2]→x < y→e=(x,y)→∃ f i j k l:Nat,f < 20∧i+j≤n∧k+l≤n∧Adj6 i j k l∧e.1=(atL n (lat n f i j):Int)∧e.2=(atL n (lat n f k l):Int):=by
    intro x y hx hy hxy hexy
    obtain⟨s,hs⟩:=hm x hx
    obtain⟨t,ht⟩:=hm y hy
    have hst:s≠t:=by rintro rfl;omega
    exact⟨f,(P s).1,(P s).2,(P t).1,(P t).2,hf,hP s,hP t,hA s t hst,by rw[hexy];exact hs,by rw[hexy];exact ht⟩
   simp only[List.mem_cons,List.not_mem_nil,or_false] at hec2
   rcases hec2 with h|h|h
   ·exact fin c0 c1 (by simp) (by simp) hasc2.1 h
   ·exact fin c0 c2 (by simp) (by simp) (by omega) h
   ·exact fin c1 c2 (by simp) (by simp) hasc2.2 h
 have hraw2:=hraw
 simp only[cellsRaw,cF,cA,cB,List.mem_flatMap,List.mem_range] at hraw2
 obtain⟨f,hf,a,ha,b,hb,hcell⟩:=hraw2
 have hab:a+b < n:=by omega
 obtain⟨u1,u2,u3⟩:=lat_up hab f
 unfold cellsAt at hcell
 rcases List.mem_cons.1 hcell with hcell|hcell
 ·refine key f (fun x=>match x with|0=>(a+1,b)|1=>(a,b+1)|2=>(a,b)) hf ?_ ?_ ?_
  ·intro x;match x with|0=>show a+1+b≤n;omega|1=>show a+(b+1)≤n;omega|2=>show a+b≤n;omega
  ·intro x y hxy
   match x,y with
   |0,0=>exact absurd rfl hxy
   |1,1=>exact absurd rfl hxy
   |2,2=>exact absurd rfl hxy
   |0,1=>unfold Adj6 Step1;dsimp only;omega
   |0,2=>unfold Adj6 Step1;dsimp only;omega
   |1,0=>unfold Adj6 Step1;dsimp only;omega
   |1,2=>unfold Adj6 Step1;dsimp only;omega
   |2,0=>unfold Adj6 Step1;dsimp only;omega
   |2,1=>unfold Adj6 Step1;dsimp only;omega
  ·rw[hcell]
   simp only[cpos]
   rw[u1,u2,u3];rfl
 ·split at hcell
  ·rename_i hd
   rw[List.mem_singleton] at hcell
   have hd2:=(down_iff hpos hab).1 hd
   have u4:=lat_down hd2 f
   refine key f (fun x=>match x with|0=>(a,b+1)|1=>(a+1,b)|2=>(a+1,b+1)) hf ?_ ?_ ?_
   ·intro x;match x with|0=>show a+(b+1)≤n;omega|1=>show a+1+b≤n;omega|2=>show a+1+(b+1)≤n;omega
   ·intro x y hxy
    match x,y with
    |0,0=>exact absurd rfl hxy
    |1,1=>exact absurd rfl hxy
    |2,2=>exact absurd rfl hxy
    |0,1=>unfold Adj6 Step1;dsimp only;omega
    |0,2=>unfold Adj6 Step1;dsimp only;omega
    |1,0=>unfold Adj6 Step1;dsimp only;omega
    |1,2=>unfold Adj6 Step1;dsimp only;omega
    |2,0=>unfold Adj6 Step1;dsimp only;omega
    |2,1=>unfold Adj6 Step1;dsimp only;omega
   ·rw[hcell]
    simp only[cpos]
    rw[u1,u2,u4];rfl
  ·cases hcell
theorem lat_step {n f i j k l:Nat} (h1:1≤n) (h8:n≤8) (hf:f < 20) (hij:i+j≤n) (hkl:k+l≤n) (h:Step1 i j k l):atL n (lat n f k l)∈nbG n (atL n (lat n f i j)):=by
 have hn:=hh_mul h1 h8
 have hpos:1≤hh n:=hh_pos h1 (by omega)
 have key:∀ a b,a+b < n→(((i=a+1∧j=b)∨(i=a∧j=b+1)∨(i=a∧j=b))∧((k=a+1∧l=b)∨(k=a∧l=b+1)∨(k=a∧l=b)))→atL n (lat n f k l)∈nbG n (atL n (lat n f i j)):=by
  intro a b hab hh2
  obtain⟨u1,u2,u3⟩:=lat_up hab f
  have hcell:sorted [(atL n (lat n f (a+1) b):Int),(atL n (lat n f a (b+1)):Int),(atL n (lat n f a b):Int)]∈cellsRaw n:=by
   refine cell_in (f:=f) (a:=a) (b:=b) hf hab ?_
   unfold cellsAt cpos
   dsimp only
   rw[u1,u2,u3]
   exact List.mem_cons_self
  rw[mem_nbG h1 h8]
  refine cell_adj h1 h8 hcell ?_ ?_ ?_
  ·rcases hh2.1 with ⟨rfl,rfl⟩|⟨rfl,rfl⟩|⟨rfl,rfl⟩
   ·exact .inl rfl
   ·exact .inr (.inl rfl)
   ·exact .inr (.inr rfl)
  ·rcases hh2.2 with ⟨rfl,rfl⟩|⟨rfl,rfl⟩|⟨rfl,rfl⟩
   ·exact .inl rfl
   ·exact .inr (.inl rfl)
   ·exact .inr (.inr rfl)
  ·intro e
   have e2:=node_inj hn hf hij hkl e
   unfold lat at e2
   injection e2 with e3 e4 e5 e6
   have b1:=Nat.eq_of_mul_eq_mul_right hpos e4
   have b2:=Nat.eq_of_mul_eq_mul_right hpos e5
   unfold Step1 at h
   omega
 unfold Step1 at h
 rcases h with ⟨rfl,rfl⟩|⟨rfl,rfl⟩|⟨rfl,rfl⟩
 ·exact key i l (by omega) ⟨by omega,by omega⟩
 ·exact key k j (by omega) ⟨by omega,by omega⟩
 ·exact key i l (by omega) ⟨by omega,by omega⟩
theorem lat_adj {n f i j k l:Nat} (h1:1≤n) (h8:n≤8) (hf:f < 20) (hij:i+j≤n) (hkl:k+l≤n) (h:Adj6 i j k l):atL n (lat n f k l)∈nbG n (atL n (lat n f i j)):=by
 rcases h with h|h
 ·exact lat_step h1 h8 hf hij hkl h
 ·exact nbG_symm h1 h8 _ _ (lat_step h1 h8 hf hkl hij h)
theorem wt_step {n f i j k l:Nat} (hij:i+j≤n) (hkl:k+l≤n) (h:Adj6 i j k l) (v:Nat):wt (lat n f i j) v≤wt (lat n f k l) v+hh n:=by
 have a:i*hh n≤k*hh n+hh n:=by rw[←Nat.succ_mul];exact Nat.mul_le_mul_right _ (by unfold Adj6 Step1 at h;omega)
 have b:j*hh n≤l*hh n+hh n:=by rw[←Nat.succ_mul];exact Nat.mul_le_mul_right _ (by unfold Adj6 Step1 at h;omega)
 have c:(n-i-j)*hh n≤(n-k-l)*hh n+hh n:=by rw[←Nat.succ_mul];exact Nat.mul_le_mul_right _ (by unfold Adj6 Step1 at h;omega)
 show (if v=(tab f).1 then i*hh n else if v=(tab f).2.1 then j*hh n else if v=(tab f).2.2 then (n-i-j)*hh n else 0)≤(if v=(tab f).1 then k*hh n else if v=(tab f).2.1 then l*hh n else if v=(tab f).2.2 then (n-k-l)*hh n else 0)+hh n
 split
 ·exact a
 ·split
  ·exact b
  ·split
   ·exact c
   ·omega
def fine (n k:Nat):Nat:=atL (2*n) ((nodesL n).getD k ⟨0,0,0,0⟩)
end Go.Proofs.YtbomggfklfbnkaaGreatDoor
