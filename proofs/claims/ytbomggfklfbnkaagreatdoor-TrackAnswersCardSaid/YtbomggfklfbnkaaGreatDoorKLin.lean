import Derived.Test.YtbomggfklfbnkaaGreatDoorApply
set_option maxRecDepth 100000
set_option maxHeartbeats 8000000
set_option linter.unusedSimpArgs false
set_option linter.unusedVariables false
namespace Go.Proofs.YtbomggfklfbnkaaGreatDoor
open Go.RowKit Go.Grid Go.Maps Go.Sort Go.Shelf
def dotL:List Int→List Int→Int
 |a :: x,b :: y=>a*b+dotL x y
 |_,_=>0
def qf (x u:List Int):List I2→Int
 |[]=>0
 |e :: D=>(x.getD e.1.toNat 0-x.getD e.2.toNat 0)*(u.getD e.1.toNat 0-u.getD e.2.toNat 0)+qf x u D
def InR (n:Nat) (D:List I2):Prop:=∀ e∈D,e.1.toNat < n∧e.2.toNat < n
def sumL:List Int→Int
 |[]=>0
 |a :: x=>a+sumL x
def addL (x y:List Int):List Int:=List.zipWith (·+·) x y
def Tied (n:Nat) (D:List I2):Prop:=∀ i,0 < i→i < n→∃ e∈D,e.2.toNat=i∧e.1.toNat < i
theorem mem_comp_of {d:List I2}:∀ {j:Nat} (hj:j < d.length),d[j]∈comp d d.length:=by
 intro j
 induction j with
 |zero=>exact fun hj=>List.mem_map.2 ⟨0,List.mem_filter.2 ⟨List.mem_range.2 hj,by simp[newAt]⟩,by simp[List.getD,List.getElem?_eq_getElem hj]⟩
 |succ j ih=>
  intro hj
  by_cases hn:newAt d (j+1)=true
  ·exact List.mem_map.2 ⟨j+1,List.mem_filter.2 ⟨List.mem_range.2 hj,hn⟩,by simp[List.getD,List.getElem?_eq_getElem hj]⟩
  ·have h1:d[j+1]?=d[j]?:=by simpa[newAt] using hn
   rw[List.getElem?_eq_getElem hj,List.getElem?_eq_getElem (show j < d.length by omega)] at h1
   rw[Option.some.inj h1];exact ih (by omega)
theorem eds_in {n:Nat} {c:I3} (hc:c∈cells3 n) {e:I2} (he:e∈eds c):e∈edgesL n:=by
 have h1:c∈cellsS n:=List.mem_mergeSort.2 hc
 have h2:e∈edRaw n:=by unfold edRaw edTo;rw[List.take_length];exact List.mem_flatMap.2 ⟨c,h1,he⟩
 have h3:e∈sort2 (edRaw n):=List.mem_mergeSort.2 h2
 obtain⟨j,hj,rfl⟩:=List.getElem_of_mem h3
 exact mem_comp_of hj
def FlatE (n:Nat) (x:List Int):Prop:=∀ e∈edgesL n,x.getD e.1.toNat 0=x.getD e.2.toNat 0
theorem cell_flat {n:Nat} {x:List Int} (h:FlatE n x) {u v z:Int} (hc:sorted [u,v,z]∈cellsRaw n):x.getD u.toNat 0=x.getD z.toNat 0∧x.getD v.toNat 0=x.getD z.toNat 0:=by
 have hp:=sorted_perm [u,v,z]
 have hl:=hp.length_eq
 generalize sorted [u,v,z]=c at *
 match c,hl with
 |[c0,c1,c2],_=>
  have hm:(c0,c1,c2)∈cells3 n:=List.mem_map.2 ⟨_,hc,rfl⟩
  have h1:=h _ (eds_in hm (e:=(c0,c1)) (by simp[eds]))
  have h2:=h _ (eds_in hm (e:=(c0,c2)) (by simp[eds]))
  dsimp only at h1 h2
  have key:∀ i∈[c0,c1,c2],x.getD i.toNat 0=x.getD c0.toNat 0:=by
   intro i hi
   simp only[List.mem_cons,List.not_mem_nil,or_false] at hi
   rcases hi with rfl|rfl|rfl
   ·rfl
   ·exact h1.symm
   ·exact h2.symm
  have ku:=key u (hp.mem_iff.2 (by simp))
  have kv:=key v (hp.mem_iff.2 (by simp))
  have kz:=key z (hp.mem_iff.2 (by simp))
  exact⟨ku.trans kz.symm,kv.trans kz.symm⟩
def xAt (n:Nat) (x:List Int) (p:Pl):Int:=x.getD (atL n p) 0
theorem up_flat {n f a b:Nat} {x:List Int} (h:FlatE n x) (hf:f < 20) (hab:a+b < n) :
  xAt n x (lat n f (a+1) b)=xAt n x (lat n f a b)∧xAt n x (lat n f a (b+1))=xAt n x (lat n f a b):=by
 have hc:tri (nodesL n) ⟨f,a*hh n+hh n,b*hh n,(n-1-a-b)*hh n⟩ ⟨f,a*hh n,b*hh n+hh n,(n-1-a-b)*hh n⟩ ⟨f,a*hh n,b*hh n,(n-1-a-b)*hh n+hh n⟩∈cellsRaw n:=by
  simp only[cellsRaw,cF,cA,cB,List.mem_flatMap,List.mem_range]
  exact⟨f,hf,a,by omega,b,by omega,by simp[cellsAt,cpos]⟩
 have e1:(⟨f,a*hh n+hh n,b*hh n,(n-1-a-b)*hh n⟩:Pl)=lat n f (a+1) b:=by
  unfold lat;rw[Nat.succ_mul,show n-(a+1)-b=n-1-a-b by omega]
 have e2:(⟨f,a*hh n,b*hh n+hh n,(n-1-a-b)*hh n⟩:Pl)=lat n f a (b+1):=by
  unfold lat;rw[Nat.succ_mul b,show n-a-(b+1)=n-1-a-b by omega]
 have e3:(⟨f,a*hh n,b*hh n,(n-1-a-b)*hh n+hh n⟩:Pl)=lat n f a b:=by
  unfold lat;rw[←Nat.succ_mul,show (n-1-a-b).succ=n-a-b by omega]
 rw[e1,e2,e3] at hc
 have:=cell_flat h hc
 simpa[atI,xAt,atL] using this
theorem face_flat {n f:Nat} {x:List Int} (h:FlatE n x) (hf:f < 20):∀ a b,a+b≤n→xAt n x (lat n f a b)=xAt n x (lat n f 0 0)
 |0,0,_=>rfl
 |0,b+1,hab=>by rw[(up_flat h hf (show 0+b < n by omega)).2];exact face_flat h hf 0 b (by omega)
 |a+1,b,hab=>by rw[(up_flat h hf (show a+b < n by omega)).1];exact face_flat h hf a b (by omega)
def cor (f:Nat):Nat→Pl
 |0=>⟨f,840,0,0⟩
 |1=>⟨f,0,840,0⟩
 |_=>⟨f,0,0,840⟩
theorem cor_flat {n f:Nat} {x:List Int} (hn:n*hh n=840) (h:FlatE n x) (hf:f < 20) (u:Nat):xAt n x (cor f u)=xAt n x (cor f 2):=by
 have e0:lat n f 0 0=⟨f,0,0,840⟩:=by unfold lat;simp[hn]
 have e1:lat n f n 0=⟨f,840,0,0⟩:=by unfold lat;simp[hn]
 have e2:lat n f 0 n=⟨f,0,840,0⟩:=by unfold lat;simp[hn]
 have h1:=face_flat h hf n 0 (by omega)
 have h2:=face_flat h hf 0 n (by omega)
 rw[e0,e1] at h1
 rw[e0,e2] at h2
 match u with
 |0=>exact h1
 |1=>exact h2
 |_+2=>rfl
theorem cor_meet:∀ f,f < 20→0 < f→∃ g,g < f∧∃ u,u < 3∧∃ v,v < 3∧normal (cor f u)=normal (cor g v):=by decide +kernel
theorem face_one {n:Nat} {x:List Int} (hn:n*hh n=840) (h:FlatE n x):∀ f,f < 20→xAt n x (cor f 2)=xAt n x (cor 0 2):=by
 intro f
 induction f using Nat.strongRecOn with
 |ind f ih=>
  intro hf
  by_cases h0:f=0
  ·rw[h0]
  ·obtain⟨g,hg,u,_,v,_,e⟩:=cor_meet f hf (by omega)
   have e':xAt n x (cor f u)=xAt n x (cor g v):=by unfold xAt atL;rw[e]
   rw[←cor_flat hn h hf u,e',cor_flat hn h (by omega) v,ih g hg (by omega)]
theorem flat_all {n:Nat} {x:List Int} (h1:1≤n) (h2:n≤840) (hn:n*hh n=840) (h:FlatE n x) {i:Nat} (hi:i < (nodesL n).length):x.getD i 0=xAt n x (cor 0 2):=by
 have hm:=List.getElem_mem hi
 have hg:=ix_get (sorted_nodes h1 h2) hi
 generalize (nodesL n)[i]=p at *
 obtain⟨hm1,hm2⟩:=List.mem_filter.1 hm
 obtain⟨f,a,b,hf,hab,rfl⟩:=mem_faces hm1
 have hnp:normal (lat n f a b)=lat n f a b:=by simpa[isN] using hm2
 have e:atL n (lat n f a b)=i:=by unfold atL;rw[hnp,hg];rfl
 have e0:lat n f 0 0=cor f 2:=by unfold lat cor;simp[hn]
 have:=face_flat h hf a b hab
 rw[e0,face_one hn h f hf] at this
 rw[←this,←e];rfl
def energyL (s a:Int) (x:List Int) (D:List I2):Int:=a*dotL x x+s*qf x x D
end Go.Proofs.YtbomggfklfbnkaaGreatDoor
