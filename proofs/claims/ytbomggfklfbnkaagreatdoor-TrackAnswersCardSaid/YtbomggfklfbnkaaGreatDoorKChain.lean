import Derived.Test.YtbomggfklfbnkaaGreatDoorGrid
set_option maxRecDepth 100000
set_option maxHeartbeats 8000000
set_option linter.unusedSimpArgs false
set_option linter.unusedVariables false
namespace Go.Chain
def bestOf (P:Nat→Nat→Bool) (i:Nat):Nat→List Nat→Nat
 |_,[]=>0
 |k,l :: t=>max (if P i k then l else 0) (bestOf P i (k+1) t)
def lensT (P:Nat→Nat→Bool):Nat→Nat→List Nat
 |_,0=>[]
 |i,m+1=>(1+bestOf P i (i+1) (lensT P (i+1) m)) :: lensT P (i+1) m
def scanD (P:Nat→Nat→Bool) (i:Nat):Nat→List Nat→Nat × Option Nat
 |_,[]=>(1,none)
 |k,l :: t=>if (scanD P i (k+1) t).1≤l+1∧P i k=true then (l+1,some k) else scanD P i (k+1) t
theorem lensT_len (P:Nat→Nat→Bool):∀ m i,(lensT P i m).length=m
 |0,_=>rfl
 |m+1,i=>by simp[lensT,lensT_len P m (i+1)]
theorem lensT_pos (P:Nat→Nat→Bool):∀ m i,∀ l∈lensT P i m,1≤l
 |0,_,l,h=>by simp[lensT] at h
 |m+1,i,l,h=>by
  simp only[lensT,List.mem_cons] at h
  rcases h with rfl|h
  ·omega
  ·exact lensT_pos P m (i+1) l h
theorem scanD_len (P:Nat→Nat→Bool) (i:Nat):∀ t k,(∀ l∈t,1≤l)→(scanD P i k t).1=1+bestOf P i k t
 |[],_,_=>rfl
 |l :: t,k,h=>by
  have ih:=scanD_len P i t (k+1) (fun x hx=>h x (by simp[hx]))
  have hl:=h l (by simp)
  unfold scanD bestOf
  by_cases hp:P i k=true
  ·rw[if_pos hp]
   by_cases hc:(scanD P i (k+1) t).1≤l+1
   ·rw[if_pos ⟨hc,hp⟩];omega
   ·rw[if_neg (fun e=>hc e.1),ih];omega
  ·rw[if_neg hp,if_neg (fun e=>hp e.2),ih];omega
def firstAt (Q:Nat→Bool) (L:Nat):Nat→List Nat→Option Nat
 |_,[]=>none
 |k,l :: t=>if l=L∧Q k=true then some k else firstAt Q L (k+1) t
theorem firstAt_none {Q:Nat→Bool} {L:Nat}:∀ t k,(∀ j (h:j < t.length),¬ (t[j]=L∧Q (k+j)=true))→firstAt Q L k t=none
 |[],_,_=>rfl
 |l :: t,k,h=>by
  unfold firstAt
  rw[if_neg (show ¬ (l=L∧Q k=true) from h 0 (by simp))]
  exact firstAt_none t (k+1) (fun j hj=>by
   have:=h (j+1) (by simp;omega)
   rw[List.getElem_cons_succ] at this
   rwa[show k+1+j=k+(j+1) by omega])
theorem scanD_next (P:Nat→Nat→Bool) (i:Nat):∀ t k,(∀ l∈t,1≤l)→(scanD P i k t).2=if bestOf P i k t=0 then none else firstAt (P i) (bestOf P i k t) k t
 |[],_,_=>rfl
 |l :: t,k,h=>by
  have hl:=h l (by simp)
  have h':∀ x∈t,1≤x:=fun x hx=>h x (by simp[hx])
  have ih:=scanD_next P i t (k+1) h'
  have hs:=scanD_len P i t (k+1) h'
  by_cases hp:P i k=true
  ·by_cases hc:bestOf P i (k+1) t≤l
   ·have e:bestOf P i k (l :: t)=l:=by show max (if P i k=true then l else 0) (bestOf P i (k+1) t)=_;rw[if_pos hp];omega
    rw[e,if_neg (by omega)]
    unfold scanD firstAt
    rw[if_pos ⟨by omega,hp⟩,if_pos ⟨rfl,hp⟩]
   ·have e:bestOf P i k (l :: t)=bestOf P i (k+1) t:=by show max (if P i k=true then l else 0) (bestOf P i (k+1) t)=_;rw[if_pos hp];omega
    rw[e,if_neg (by omega)]
    unfold scanD firstAt
    rw[if_neg (fun x=>by have:=x.1;omega),if_neg (fun x=>by have:=x.1;omega),ih,if_neg (by omega)]
  ·have e:bestOf P i k (l :: t)=bestOf P i (k+1) t:=by show max (if P i k=true then l else 0) (bestOf P i (k+1) t)=_;rw[if_neg hp];omega
   have e1:scanD P i k (l :: t)=scanD P i (k+1) t:=if_neg (fun x=>hp x.2)
   have e2:firstAt (P i) (bestOf P i (k+1) t) k (l :: t)=firstAt (P i) (bestOf P i (k+1) t) (k+1) t:=if_neg (fun x=>hp x.2)
   rw[e,e1,e2,ih]
def mostOf:List Nat→Nat
 |[]=>0
 |l :: t=>max l (mostOf t)
def greedy (P:Nat→Nat→Bool):Option Nat→Nat→Nat→List Nat→List Nat
 |_,_,_,[]=>[]
 |last,most,k,l :: t=>if l=most∧(last.elim true (fun i=>P i k))=true then k :: greedy P (some k) (most-1) (k+1) t else greedy P last most (k+1) t
theorem greedy_cons (P:Nat→Nat→Bool) (last:Option Nat) (most k l:Nat) (t:List Nat):greedy P last most k (l :: t)=if l=most∧(last.elim true (fun i=>P i k))=true then k :: greedy P (some k) (most-1) (k+1) t else greedy P last most (k+1) t:=rfl
theorem firstAt_cons (Q:Nat→Bool) (L k l:Nat) (t:List Nat):firstAt Q L k (l :: t)=if l=L∧Q k=true then some k else firstAt Q L (k+1) t:=rfl
def follow (P:Nat→Nat→Bool):Nat→Nat→List Nat→List Nat
 |0,_,_=>[]
 |f+1,i,s=>i :: (match (scanD P i (i+1) s).2 with
  |none=>[]
  |some k=>follow P f k (s.drop (k-i)))
theorem greedy_first (P:Nat→Nat→Bool) (last:Option Nat) (most:Nat):∀ t k,greedy P last most k t=match firstAt (fun j=>last.elim true (fun i=>P i j)) most k t with
  |none=>[]
  |some j=>j :: greedy P (some j) (most-1) (j+1) (t.drop (j+1-k))
 |[],_=>rfl
 |l :: t,k=>by
  have ih:=greedy_first P last most t (k+1)
  rw[greedy_cons,firstAt_cons]
  by_cases hc:l=most∧(last.elim true (fun i=>P i k))=true
  ·rw[if_pos hc,if_pos hc]
   show _=k :: greedy P (some k) (most-1) (k+1) ((l :: t).drop (k+1-k))
   rw[show k+1-k=1 by omega,List.drop_succ_cons,List.drop_zero]
  ·rw[if_neg hc,if_neg hc,ih]
   cases hf:firstAt (fun j=>last.elim true (fun i=>P i j)) most (k+1) t with
   |none=>rfl
   |some j=>
    have hj:k+1≤j:=by
     have gen:∀ (u:List Nat) (m:Nat),firstAt (fun j=>last.elim true (fun i=>P i j)) most m u=some j→m≤j:=by
      intro u
      induction u with
      |nil=>intro m h;simp[firstAt] at h
      |cons a u ihu=>
       intro m h
       unfold firstAt at h
       split at h
       ·injection h with h;omega
       ·have:=ihu (m+1) h;omega
     exact gen t (k+1) hf
    show j :: greedy P (some j) (most-1) (j+1) (t.drop (j+1-(k+1)))=j :: greedy P (some j) (most-1) (j+1) ((l :: t).drop (j+1-k))
    rw[show j+1-k=(j+1-(k+1))+1 by omega,List.drop_succ_cons]
theorem lensT_drop (P:Nat→Nat→Bool):∀ j m i,j≤m→(lensT P i m).drop j=lensT P (i+j) (m-j)
 |0,m,i,_=>by simp
 |j+1,0,i,h=>by omega
 |j+1,m+1,i,h=>by
  show (lensT P (i+1) m).drop j=_
  rw[lensT_drop P j m (i+1) (by omega),show i+1+j=i+(j+1) by omega,show m+1-(j+1)=m-j by omega]
theorem lensT_get (P:Nat→Nat→Bool) {m i j:Nat} (h:j < m):(lensT P i m)[j]'(by rw[lensT_len];exact h)=1+bestOf P (i+j) (i+j+1) (lensT P (i+j+1) (m-j-1)):=by
 have e:=lensT_drop P j m i (by omega)
 obtain⟨k,hk⟩:∃ k,m-j=k+1:=⟨m-j-1,by omega⟩
 rw[hk] at e
 have e2:((lensT P i m).drop j)[0]'(by rw[List.length_drop,lensT_len];omega)=(lensT P i m)[j]'(by rw[lensT_len];exact h):=by rw[List.getElem_drop];rfl
 rw[←e2]
 simp only[e,lensT,List.getElem_cons_zero]
 rw[show m-j-1=k by omega]
theorem firstAt_some {Q:Nat→Bool} {L:Nat}:∀ t k j,firstAt Q L k t=some j→∃ i,∃ h:i < t.length,j=k+i∧t[i]=L∧Q j=true
 |[],k,j,h=>by simp[firstAt] at h
 |l :: t,k,j,h=>by
  rw[firstAt_cons] at h
  split at h
  ·rename_i hc
   injection h with h
   exact⟨0,by simp,by omega,hc.1,by rw[←h];exact hc.2⟩
  ·obtain⟨i,hi,h1,h2,h3⟩:=firstAt_some t (k+1) j h
   exact⟨i+1,by simp;omega,by omega,by simpa using h2,h3⟩
theorem same_from (P:Nat→Nat→Bool):∀ m i f,m < f→greedy P (some i) (bestOf P i (i+1) (lensT P (i+1) m)) (i+1) (lensT P (i+1) m) =
  match (scanD P i (i+1) (lensT P (i+1) m)).2 with
  |none=>[]
  |some k=>follow P f k ((lensT P (i+1) m).drop (k-i)):=by
 intro m
 induction m using Nat.strongRecOn with
 |_ m ih=>
  intro i f hf
  have hpos:=lensT_pos P m (i+1)
  rw[scanD_next P i _ _ hpos,greedy_first]
  by_cases h0:bestOf P i (i+1) (lensT P (i+1) m)=0
  ·rw[if_pos h0,h0,firstAt_none]
   intro j hj e
   have:=hpos _ (List.getElem_mem hj)
   omega
  ·rw[if_neg h0]
   show (match firstAt (P i) _ _ _ with|none=>[]|some j=>_)=_
   cases hfa:firstAt (P i) (bestOf P i (i+1) (lensT P (i+1) m)) (i+1) (lensT P (i+1) m) with
   |none=>rfl
   |some k=>
    obtain⟨j,hj,h1,h2,h3⟩:=firstAt_some _ _ _ hfa
    rw[lensT_len] at hj
    have hd:(lensT P (i+1) m).drop (k-i)=lensT P (k+1) (m-j-1):=by
     rw[lensT_drop P (k-i) m (i+1) (by omega),show i+1+(k-i)=k+1 by omega,show m-(k-i)=m-j-1 by omega]
    rw[lensT_get P hj,show i+1+j=k by omega] at h2
    obtain⟨f',rfl⟩:∃ f',f=f'+1:=⟨f-1,by omega⟩
    show k :: greedy P (some k) (bestOf P i (i+1) (lensT P (i+1) m)-1) (k+1) ((lensT P (i+1) m).drop (k+1-(i+1)))=follow P (f'+1) k ((lensT P (i+1) m).drop (k-i))
    rw[show k+1-(i+1)=k-i by omega,hd,←h2,show 1+bestOf P k (k+1) (lensT P (k+1) (m-j-1))-1=bestOf P k (k+1) (lensT P (k+1) (m-j-1)) by omega]
    rw[ih (m-j-1) (by omega) k f' (by omega)]
    rfl
def chainP (P:Nat→Nat→Bool) (n:Nat):List Nat:=match firstAt (fun _=>true) (mostOf (lensT P 0 n)) 0 (lensT P 0 n) with
 |none=>[]
 |some i=>follow P (n+1) i ((lensT P 0 n).drop (i+1))
def chainR (P:Nat→Nat→Bool) (n:Nat):List Nat:=greedy P none (mostOf (lensT P 0 n)) 0 (lensT P 0 n)
theorem chain_same (P:Nat→Nat→Bool) (n:Nat):chainP P n=chainR P n:=by
 unfold chainP chainR
 rw[greedy_first]
 show _=(match firstAt (fun _=>true) _ _ _ with|none=>[]|some j=>_)
 cases hfa:firstAt (fun _=>true) (mostOf (lensT P 0 n)) 0 (lensT P 0 n) with
 |none=>rfl
 |some k=>
  obtain⟨j,hj,h1,h2,_⟩:=firstAt_some _ _ _ hfa
  rw[lensT_len] at hj
  have hd:(lensT P 0 n).drop (k+1)=lensT P (k+1) (n-j-1):=by
   rw[lensT_drop P (k+1) n 0 (by omega),show 0+(k+1)=k+1 by omega,show n-(k+1)=n-j-1 by omega]
  rw[lensT_get P hj,show 0+j=k by omega] at h2
  show follow P (n+1) k ((lensT P 0 n).drop (k+1))=k :: greedy P (some k) (mostOf (lensT P 0 n)-1) (k+1) ((lensT P 0 n).drop (k+1-0))
  rw[show k+1-0=k+1 by omega,hd,←h2,show 1+bestOf P k (k+1) (lensT P (k+1) (n-j-1))-1=bestOf P k (k+1) (lensT P (k+1) (n-j-1)) by omega]
  rw[same_from P (n-j-1) k n (by omega)]
  rfl
end Go.Chain
namespace Go.Chain
theorem bestOf_ge (P:Nat→Nat→Bool) (i:Nat):∀ t k j (h:j < t.length),P i (k+j)=true→t[j]≤bestOf P i k t
 |[],k,j,h,_=>by simp at h
 |l :: t,k,0,h,hp=>by
  show l≤max (if P i k=true then l else 0) (bestOf P i (k+1) t)
  rw[if_pos (by simpa using hp)];omega
 |l :: t,k,j+1,h,hp=>by
  have:=bestOf_ge P i t (k+1) j (by simpa using h) (by rw[show k+1+j=k+(j+1) by omega];exact hp)
  show t[j]'(by simpa using h)≤max (if P i k=true then l else 0) (bestOf P i (k+1) t)
  omega
def lf (P:Nat→Nat→Bool) (n i:Nat):Nat:=1+bestOf P i (i+1) (lensT P (i+1) (n-i-1))
theorem lf_get (P:Nat→Nat→Bool) {n i:Nat} (h:i < n):(lensT P 0 n)[i]'(by rw[lensT_len];exact h)=lf P n i:=by
 rw[lensT_get P h,Nat.zero_add];rfl
theorem lf_step (P:Nat→Nat→Bool) {n i k:Nat} (hi:i < k) (hk:k < n) (hp:P i k=true):1+lf P n k≤lf P n i:=by
 have h:=bestOf_ge P i (lensT P (i+1) (n-i-1)) (i+1) (k-i-1) (by rw[lensT_len];omega) (by rw[show i+1+(k-i-1)=k by omega];exact hp)
 rw[lensT_get P (by omega),show i+1+(k-i-1)=k by omega,show n-i-1-(k-i-1)-1=n-k-1 by omega] at h
 unfold lf at *
 omega
def Valid (P:Nat→Nat→Bool) (n:Nat):List Nat→Prop
 |[]=>True
 |i :: s=>i < n∧(match s with|[]=>True|k :: _=>i < k∧P i k=true)∧Valid P n s
theorem valid_len (P:Nat→Nat→Bool) {n:Nat}:∀ s i,Valid P n (i :: s)→(i :: s).length≤lf P n i
 |[],i,_=>by unfold lf;simp
 |k :: s,i,h=>by
  obtain⟨h1,⟨h2,h3⟩,h4⟩:=h
  have ih:=valid_len P s k h4
  have:=lf_step P h2 h4.1 h3
  simp only[List.length_cons] at *
  omega
theorem mostOf_ge:∀ (t:List Nat) (j:Nat) (h:j < t.length),t[j]≤mostOf t
 |[],j,h=>by simp at h
 |l :: t,0,_=>by show l≤max l (mostOf t);omega
 |l :: t,j+1,h=>by
  have:=mostOf_ge t j (by simpa using h)
  show t[j]'(by simpa using h)≤max l (mostOf t);omega
theorem mostOf_mem:∀ (t:List Nat),t≠[]→∃ j,∃ h:j < t.length,t[j]=mostOf t
 |[],h=>absurd rfl h
 |[l],_=>⟨0,by simp,by show l=max l 0;omega⟩
 |l :: m :: t,_=>by
  obtain⟨j,h,e⟩:=mostOf_mem (m :: t) (by simp)
  by_cases hc:mostOf (m :: t)≤l
  ·exact⟨0,by simp,by show l=max l (mostOf (m :: t));omega⟩
  ·exact⟨j+1,by simpa using h,by show (m :: t)[j]=max l (mostOf (m :: t));omega⟩
theorem bestOf_mem (P:Nat→Nat→Bool) (i:Nat):∀ t k,bestOf P i k t≠0→∃ j,∃ h:j < t.length,P i (k+j)=true∧t[j]=bestOf P i k t
 |[],k,h=>absurd rfl h
 |l :: t,k,h=>by
  have e:bestOf P i k (l :: t)=max (if P i k=true then l else 0) (bestOf P i (k+1) t):=rfl
  by_cases hc:bestOf P i (k+1) t≤(if P i k=true then l else 0)
  ·rw[e] at h ⊢
   by_cases hp:P i k=true
   ·rw[if_pos hp] at h hc ⊢
    exact⟨0,by simp,by simpa using hp,by show l=max l _;omega⟩
   ·rw[if_neg hp] at h hc ⊢;omega
  ·obtain⟨j,hj,h1,h2⟩:=bestOf_mem P i t (k+1) (by omega)
   exact⟨j+1,by simpa using hj,by rw[show k+(j+1)=k+1+j by omega];exact h1,by rw[e];show t[j]=_;omega⟩
def lexLe:List Nat→List Nat→Prop
 |[],_=>True
 |_ :: _,[]=>False
 |a :: s,b :: t=>a < b∨(a=b∧lexLe s t)
theorem firstAt_least {Q:Nat→Bool} {L:Nat}:∀ t k i (h:i < t.length),t[i]=L→Q (k+i)=true→∃ j,firstAt Q L k t=some j∧j≤k+i
 |[],k,i,h,_,_=>by simp at h
 |l :: t,k,0,h,e,hq=>by
  rw[firstAt_cons,if_pos ⟨e,by simpa using hq⟩]
  exact⟨k,rfl,by omega⟩
 |l :: t,k,i+1,h,e,hq=>by
  rw[firstAt_cons]
  split
  ·exact⟨k,rfl,by omega⟩
  ·obtain⟨j,h1,h2⟩:=firstAt_least t (k+1) i (by simpa using h) (by simpa using e) (by rw[show k+1+i=k+(i+1) by omega];exact hq)
   exact⟨j,h1,by omega⟩
theorem follow_facts (P:Nat→Nat→Bool) (n:Nat):∀ f i,n-i≤f→i < n→
  (follow P f i (lensT P (i+1) (n-i-1))).length=lf P n i∧Valid P n (follow P f i (lensT P (i+1) (n-i-1)))∧
  (∃ r,follow P f i (lensT P (i+1) (n-i-1))=i :: r)∧
  ∀ s,Valid P n (i :: s)→(i :: s).length=lf P n i→lexLe (follow P f i (lensT P (i+1) (n-i-1))) (i :: s):=by
 intro f
 induction f with
 |zero=>intro i h hi;omega
 |succ f ih=>
  intro i hf hi
  have hpos:=lensT_pos P (n-i-1) (i+1)
  show (i :: (match (scanD P i (i+1) (lensT P (i+1) (n-i-1))).2 with|none=>[]|some k=>follow P f k ((lensT P (i+1) (n-i-1)).drop (k-i)))).length=_∧Valid P n (i :: (match (scanD P i (i+1) (lensT P (i+1) (n-i-1))).2 with|none=>[]|some k=>follow P f k ((lensT P (i+1) (n-i-1)).drop (k-i))))∧(∃ r,i :: _=i :: r)∧∀ s,_→_→lexLe (i :: (match (scanD P i (i+1) (lensT P (i+1) (n-i-1))).2 with|none=>[]|some k=>follow P f k ((lensT P (i+1) (n-i-1)).drop (k-i)))) (i :: s)
  rw[scanD_next P i _ _ hpos]
  by_cases h0:bestOf P i (i+1) (lensT P (i+1) (n-i-1))=0
  ·rw[if_pos h0]
   refine⟨by unfold lf;rw[h0];rfl,⟨hi,trivial,trivial⟩,⟨_,rfl⟩,fun s _ _=>.inr ⟨rfl,trivial⟩⟩
  ·rw[if_neg h0]
   obtain⟨j,hj,hp,he⟩:=bestOf_mem P i _ _ h0
   obtain⟨k,hfa,hkj⟩:=firstAt_least _ _ j hj he hp
   rw[hfa]
   obtain⟨j',hj',h1,h2,h3⟩:=firstAt_some _ _ _ hfa
   rw[lensT_len] at hj'
   have hd:(lensT P (i+1) (n-i-1)).drop (k-i)=lensT P (k+1) (n-k-1):=by
    rw[lensT_drop P (k-i) (n-i-1) (i+1) (by omega),show i+1+(k-i)=k+1 by omega,show n-i-1-(k-i)=n-k-1 by omega]
   rw[lensT_get P hj',show i+1+j'=k by omega,show n-i-1-j'-1=n-k-1 by omega] at h2
   have hlk:lf P n k=bestOf P i (i+1) (lensT P (i+1) (n-i-1)):=h2
   have hli:lf P n i=1+lf P n k:=by rw[hlk];rfl
   obtain⟨a1,a2,⟨r,a3⟩,a4⟩:=ih k (by omega) (by omega)
   show (i :: follow P f k ((lensT P (i+1) (n-i-1)).drop (k-i))).length=_∧Valid P n (i :: follow P f k ((lensT P (i+1) (n-i-1)).drop (k-i)))∧_∧∀ s,_→_→lexLe (i :: follow P f k ((lensT P (i+1) (n-i-1)).drop (k-i))) (i :: s)
   rw[hd]
   refine⟨by rw[List.length_cons,a1,hli];omega,?_,⟨_,rfl⟩,fun s hs hl=>.inr ⟨rfl,?_⟩⟩
   ·rw[a3] at a2 ⊢
    exact⟨hi,⟨by omega,h3⟩,a2⟩
   ·cases s with
    |nil=>rw[hli] at hl;have:=hlk ▸ h0;simp at hl;omega
    |cons b s=>
     obtain⟨_,⟨hib,hpb⟩,hvb⟩:=hs
     have hbn:b < n:=hvb.1
     have hlb:=valid_len P s b hvb
     have hst:=lf_step P hib hbn hpb
     have heb:lf P n b=lf P n k:=by rw[List.length_cons] at hl;omega
     have hget:(lensT P (i+1) (n-i-1))[b-i-1]'(by rw[lensT_len];omega)=bestOf P i (i+1) (lensT P (i+1) (n-i-1)):=by
      rw[lensT_get P (by omega),show i+1+(b-i-1)=b by omega,show n-i-1-(b-i-1)-1=n-b-1 by omega]
      show lf P n b=_
      rw[heb,hlk]
     obtain⟨k',hk',hle⟩:=firstAt_least (Q:=P i) _ (i+1) (b-i-1) (by rw[lensT_len];omega) hget (by rw[show i+1+(b-i-1)=b by omega];exact hpb)
     rw[hfa] at hk'
     injection hk' with hk'
     subst hk'
     by_cases hkb:k=b
     ·subst hkb
      exact a4 s hvb (by simp only[List.length_cons] at hl ⊢;rw[hli] at hl;omega)
     ·rw[a3]
      exact .inl (by omega)
theorem chain_facts (P:Nat→Nat→Bool) (n:Nat):Valid P n (chainP P n)∧(∀ s,Valid P n s→s.length≤(chainP P n).length)∧∀ s,Valid P n s→s.length=(chainP P n).length→lexLe (chainP P n) s:=by
 by_cases hn:n=0
 ·subst hn
  have e:chainP P 0=[]:=rfl
  rw[e]
  refine⟨trivial,fun s hs=>?_,fun s _ _=>trivial⟩
  cases s with
  |nil=>simp
  |cons a s=>exact absurd hs.1 (by omega)
 ·have hne:lensT P 0 n≠[]:=fun h=>by
   have:=lensT_len P n 0
   rw[h] at this;simp at this;omega
  obtain⟨j,hj,he⟩:=mostOf_mem _ hne
  obtain⟨k,hfa,hkj⟩:=firstAt_least (Q:=fun _=>true) _ 0 j hj he rfl
  obtain⟨j',hj',h1,h2,_⟩:=firstAt_some _ _ _ hfa
  rw[lensT_len] at hj'
  obtain rfl:j'=k:=by omega
  rw[lf_get P hj'] at h2
  have hd:(lensT P 0 n).drop (j'+1)=lensT P (j'+1) (n-j'-1):=by
   rw[lensT_drop P (j'+1) n 0 (by omega),show 0+(j'+1)=j'+1 by omega,show n-(j'+1)=n-j'-1 by omega]
  have hc:chainP P n=follow P (n+1) j' (lensT P (j'+1) (n-j'-1)):=by
   unfold chainP
   rw[hfa]
   show follow P (n+1) j' ((lensT P 0 n).drop (j'+1))=_
   rw[hd]
  obtain⟨a1,a2,⟨r,a3⟩,a4⟩:=follow_facts P n (n+1) j' (by omega) hj'
  rw[hc]
  have hall:∀ s,Valid P n s→s.length≤lf P n j':=fun s hs=>by
   cases s with
   |nil=>simp
   |cons b s=>
    have h3:=valid_len P s b hs
    have h4:=mostOf_ge (lensT P 0 n) b (by rw[lensT_len];exact hs.1)
    rw[lf_get P hs.1] at h4
    omega
  refine⟨a2,fun s hs=>by rw[a1];exact hall s hs,fun s hs hl=>?_⟩
  rw[a1] at hl
  cases s with
  |nil=>exfalso;unfold lf at hl;rw[List.length_nil] at hl;omega
  |cons b s=>
   have h3:=valid_len P s b hs
   have h4:=mostOf_ge (lensT P 0 n) b (by rw[lensT_len];exact hs.1)
   rw[lf_get P hs.1] at h4
   obtain⟨k',hk',hle⟩:=firstAt_least (Q:=fun _=>true) (L:=mostOf (lensT P 0 n)) (lensT P 0 n) 0 b (by rw[lensT_len];exact hs.1) (by rw[lf_get P hs.1];omega) rfl
   rw[hfa] at hk'
   injection hk' with hk'
   subst hk'
   by_cases hkb:j'=b
   ·subst hkb
    exact a4 s hs hl
   ·rw[a3]
    exact .inl (by omega)
theorem Valid.mono {P Q:Nat→Nat→Bool} (h:∀ i k,P i k=true→Q i k=true) {n:Nat}:∀ s,Valid P n s→Valid Q n s
 |[],_=>trivial
 |[i],hs=>⟨hs.1,trivial,trivial⟩
 |i :: k :: s,hs=>⟨hs.1,⟨hs.2.1.1,h _ _ hs.2.1.2⟩,Valid.mono h (k :: s) hs.2.2⟩
end Go.Chain
namespace Go.Chain
def scanL (P:Nat→Nat→Bool) (L i k:Nat):Nat × Option Nat:=scanD P i k (lensT P k (L-k))
def nx (P:Nat→Nat→Bool) (L i:Nat):Option Nat:=(scanL P L i (i+1)).2
theorem lens_cons (P:Nat→Nat→Bool) {L k:Nat} (h:k < L):lensT P k (L-k)=lf P L k :: lensT P (k+1) (L-(k+1)):=by
 obtain⟨m,hm⟩:∃ m,L-k=m+1:=⟨L-k-1,by omega⟩
 rw[hm]
 show (1+bestOf P k (k+1) (lensT P (k+1) m)) :: lensT P (k+1) m=_
 rw[show L-(k+1)=m by omega]
 unfold lf
 rw[show L-k-1=m by omega]
theorem scan_end (P:Nat→Nat→Bool) (L i:Nat):scanL P L i L=(1,none):=by
 unfold scanL;rw[Nat.sub_self];rfl
theorem scan_step (P:Nat→Nat→Bool) {L i k:Nat} (h:k < L):scanL P L i k=if (scanL P L i (k+1)).1≤lf P L k+1∧P i k=true then (lf P L k+1,some k) else scanL P L i (k+1):=by
 unfold scanL
 rw[lens_cons P h]
 rfl
theorem scan_len (P:Nat→Nat→Bool) {L i:Nat} (h:i < L):(scanL P L i (i+1)).1=lf P L i:=by
 unfold scanL
 rw[scanD_len P i _ _ (lensT_pos P _ _)]
 unfold lf
 rw[show L-i-1=L-(i+1) by omega]
theorem scan_le (P:Nat→Nat→Bool) {L i:Nat}:∀ d k,L-k=d→k≤L→(scanL P L i k).1≤1+(L-k)∧1≤(scanL P L i k).1∧∀ j,(scanL P L i k).2=some j→k≤j∧j < L
 |0,k,h,hk=>by
  obtain rfl:k=L:=by omega
  rw[scan_end]
  exact⟨by simp,by simp,fun j hj=>by cases hj⟩
 |d+1,k,h,hk=>by
  have hkL:k < L:=by omega
  obtain⟨h1,h2,h3⟩:=scan_le P (L:=L) (i:=i) d (k+1) (by omega) (by omega)
  obtain⟨h4,_,_⟩:=scan_le P (L:=L) (i:=k) d (k+1) (by omega) (by omega)
  rw[scan_len P hkL] at h4
  rw[scan_step P hkL]
  split
  ·exact⟨by show lf P L k+1≤_;omega,by show 1≤lf P L k+1;omega,fun j hj=>by injection hj with hj;omega⟩
  ·exact⟨by omega,h2,fun j hj=>by have:=h3 j hj;omega⟩
theorem lf_le (P:Nat→Nat→Bool) {L i:Nat} (h:i < L):1≤lf P L i∧lf P L i≤L:=by
 obtain⟨h1,h2,_⟩:=scan_le P (L:=L) (i:=i) (L-(i+1)) (i+1) rfl (by omega)
 rw[scan_len P h] at h1 h2
 omega
theorem nx_lt (P:Nat→Nat→Bool) {L i k:Nat} (h:i < L) (hk:nx P L i=some k):i < k∧k < L:=by
 have:=(scan_le P (L:=L) (i:=i) (L-(i+1)) (i+1) rfl (by omega)).2.2 k hk
 omega
def fst (P:Nat→Nat→Bool) (L i:Nat):Option Nat:=firstAt (fun _=>true) (mostOf (lensT P i (L-i))) i (lensT P i (L-i))
theorem fst_end (P:Nat→Nat→Bool) (L:Nat):fst P L L=none:=by
 unfold fst;rw[Nat.sub_self];rfl
theorem fst_some (P:Nat→Nat→Bool) {L i j:Nat} (hi:i≤L) (h:fst P L i=some j):i≤j∧j < L∧lf P L j=mostOf (lensT P i (L-i)):=by
 unfold fst at h
 obtain⟨m,hm,h1,h2,_⟩:=firstAt_some _ _ _ h
 rw[lensT_len] at hm
 refine⟨by omega,by omega,?_⟩
 rw[lensT_get P hm] at h2
 rw[←h2]
 unfold lf
 rw[show i+m=j by omega,show L-j-1=L-i-m-1 by omega]
theorem fst_none (P:Nat→Nat→Bool) {L i:Nat} (hi:i < L):fst P L i≠none:=by
 intro h
 have hne:lensT P i (L-i)≠[]:=fun e=>by
  have:=lensT_len P (L-i) i
  rw[e] at this;simp at this;omega
 obtain⟨j,hj,he⟩:=mostOf_mem _ hne
 obtain⟨k,hk,_⟩:=firstAt_least (Q:=fun _=>true) _ i j hj he rfl
 unfold fst at h
 rw[hk] at h
 cases h
theorem fst_step (P:Nat→Nat→Bool) {L i:Nat} (h:i < L):fst P L i=match fst P L (i+1) with
  |none=>some i
  |some j=>if lf P L j≤lf P L i then some i else some j:=by
 have hc:=lens_cons P h
 by_cases hi:i+1=L
 ·subst hi
  rw[fst_end]
  unfold fst
  rw[hc,Nat.sub_self]
  show firstAt (fun _=>true) (max (lf P (i+1) i) 0) i [lf P (i+1) i]=some i
  rw[firstAt_cons,if_pos ⟨by omega,rfl⟩]
 ·cases hf:fst P L (i+1) with
  |none=>exact absurd hf (fst_none P (by omega))
  |some j=>
   obtain⟨_,_,h3⟩:=fst_some P (by omega) hf
   show fst P L i=if lf P L j≤lf P L i then some i else some j
   rw[h3]
   unfold fst
   rw[hc]
   show firstAt (fun _=>true) (max (lf P L i) (mostOf (lensT P (i+1) (L-(i+1))))) i (lf P L i :: lensT P (i+1) (L-(i+1)))=_
   rw[firstAt_cons]
   by_cases hx:mostOf (lensT P (i+1) (L-(i+1)))≤lf P L i
   ·rw[if_pos ⟨by omega,rfl⟩,if_pos hx]
   ·rw[if_neg (fun e=>by have:=e.1;omega),if_neg hx,show max (lf P L i) (mostOf (lensT P (i+1) (L-(i+1))))=mostOf (lensT P (i+1) (L-(i+1))) by omega]
    exact hf
def fol (P:Nat→Nat→Bool) (L:Nat):Nat→Option Nat→List Nat
 |0,_=>[]
 |_+1,none=>[]
 |f+1,some i=>i :: fol P L f (nx P L i)
theorem follow_fol (P:Nat→Nat→Bool) {L:Nat}:∀ f i,i < L→follow P f i (lensT P (i+1) (L-(i+1)))=fol P L f (some i)
 |0,i,_=>rfl
 |f+1,i,h=>by
  show i :: (match (scanD P i (i+1) (lensT P (i+1) (L-(i+1)))).2 with|none=>[]|some k=>follow P f k ((lensT P (i+1) (L-(i+1))).drop (k-i)))=i :: fol P L f (nx P L i)
  congr 1
  have he:nx P L i=(scanD P i (i+1) (lensT P (i+1) (L-(i+1)))).2:=rfl
  rw[←he]
  cases hn:nx P L i with
  |none=>cases f<;>rfl
  |some k=>
   obtain⟨h1,h2⟩:=nx_lt P h hn
   show follow P f k ((lensT P (i+1) (L-(i+1))).drop (k-i))=_
   rw[lensT_drop P (k-i) _ _ (by omega),show i+1+(k-i)=k+1 by omega,show L-(i+1)-(k-i)=L-(k+1) by omega]
   exact follow_fol P f k h2
theorem chain_fol (P:Nat→Nat→Bool) (L:Nat):chainP P L=fol P L (L+1) (fst P L 0):=by
 unfold chainP
 have he:fst P L 0=firstAt (fun _=>true) (mostOf (lensT P 0 L)) 0 (lensT P 0 L):=rfl
 rw[←he]
 cases hf:fst P L 0 with
 |none=>rfl
 |some i=>
  obtain⟨_,h2,_⟩:=fst_some P (Nat.zero_le _) hf
  show follow P (L+1) i ((lensT P 0 L).drop (i+1))=_
  rw[lensT_drop P (i+1) _ _ (by omega),show 0+(i+1)=i+1 by omega]
  exact follow_fol P (L+1) i h2
def optI:Option Nat→Int
 |none=>-1
 |some k=>(k:Int)
theorem chain_len (P:Nat→Nat→Bool) (L:Nat):(chainP P L).length≤L:=by
 have h:=(chain_facts P L).1
 cases hc:chainP P L with
 |nil=>simp
 |cons i s=>
  rw[hc] at h
  have h1:=valid_len P s i h
  have:=lf_le P h.1
  omega
theorem chain_lt (P:Nat→Nat→Bool) (L:Nat):∀ i∈chainP P L,i < L:=by
 have h:=(chain_facts P L).1
 have gen:∀ s,Valid P L s→∀ i∈s,i < L:=by
  intro s
  induction s with
  |nil=>intro _ i hi;cases hi
  |cons a s ih=>
   intro hs i hi
   rcases List.mem_cons.1 hi with rfl|h1
   ·exact hs.1
   ·exact ih hs.2.2 i h1
 exact gen _ h
end Go.Chain
namespace Go.Chain
section
variable {α:Type} [DecidableEq α]
structure Rs (α:Type) where
 n:Nat
 mv:Nat→Bool
 nm:Nat→α
 tm:Nat→Int
def Rs.grp (R:Rs α) (s:α):List Nat:=(List.range R.n).filter (fun i=>R.mv i && decide (R.nm i=s))
structure Rs.IsG (R:Rs α) (s:α) (T:List Nat):Prop where
 perm:T.Perm (R.grp s)
 asc:T.Pairwise (fun i k=>R.tm i≤R.tm k)
def Rs.gs (R:Rs α) (s:α):List Nat:=(R.grp s).mergeSort (fun i k=>decide (R.tm i≤R.tm k))
def Rs.Dup (R:Rs α):Prop:=∃ i k,k < i∧i < R.n∧R.mv i=true∧R.mv k=true∧R.nm i=R.nm k∧R.tm i=R.tm k
theorem Rs.mem_grp {R:Rs α} {s:α} {i:Nat}:i∈R.grp s↔i < R.n∧R.mv i=true∧R.nm i=s:=by
 unfold Rs.grp
 rw[List.mem_filter,List.mem_range,Bool.and_eq_true,decide_eq_true_eq]
theorem Rs.grp_nodup (R:Rs α) (s:α):(R.grp s).Nodup:=List.Nodup.sublist List.filter_sublist List.nodup_range
theorem Rs.grp_len (R:Rs α) (s:α):(R.grp s).length≤R.n:=by
 have:=List.length_filter_le (fun i=>R.mv i && decide (R.nm i=s)) (List.range R.n)
 rw[List.length_range] at this
 exact this
theorem Rs.gs_is (R:Rs α) (s:α):R.IsG s (R.gs s):=by
 refine⟨List.mergeSort_perm _ _,?_⟩
 have:=List.pairwise_mergeSort (le:=fun i k:Nat=>decide (R.tm i≤R.tm k)) (fun a b c h1 h2=>by simp at *;omega) (fun a b=>by simp;omega) (R.grp s)
 exact this.imp (fun h=>by simpa using h)
theorem Rs.IsG.mem {R:Rs α} {s:α} {T:List Nat} (h:R.IsG s T) {i:Nat}:i∈T↔i < R.n∧R.mv i=true∧R.nm i=s:=h.perm.mem_iff.trans Rs.mem_grp
theorem Rs.IsG.nodup {R:Rs α} {s:α} {T:List Nat} (h:R.IsG s T):T.Nodup:=h.perm.nodup_iff.2 (R.grp_nodup s)
theorem Rs.IsG.len {R:Rs α} {s:α} {T:List Nat} (h:R.IsG s T):T.length≤R.n:=by
 rw[h.perm.length_eq];exact R.grp_len s
theorem Rs.IsG.strict {R:Rs α} {s:α} {T:List Nat} (h:R.IsG s T) (hd:¬ R.Dup):T.Pairwise (fun i k=>R.tm i < R.tm k):=by
 have h1:=h.asc.and h.nodup
 refine List.Pairwise.imp_of_mem ?_ h1
 rintro a b ha hb ⟨h2,h3⟩
 obtain⟨a1,a2,a3⟩:=h.mem.1 ha
 obtain⟨b1,b2,b3⟩:=h.mem.1 hb
 by_cases e:R.tm a=R.tm b
 ·exfalso
  rcases Nat.lt_or_gt_of_ne h3 with h4|h4
  ·exact hd ⟨b,a,h4,b1,b2,a2,b3.trans a3.symm,e.symm⟩
  ·exact hd ⟨a,b,h4,a1,a2,b2,a3.trans b3.symm,e⟩
 ·omega
theorem Rs.IsG.unique {R:Rs α} {s:α} {T:List Nat} (h:R.IsG s T) (hd:¬ R.Dup):T=R.gs s:=by
 have h2:=(R.gs_is s)
 have s1:=h.strict hd
 have s2:=h2.strict hd
 have hp:T.Perm (R.gs s):=h.perm.trans h2.perm.symm
 exact hp.eq_of_pairwise (fun a b ha hb h1 h2=>by omega) s1 s2
theorem Rs.IsG.adj {R:Rs α} {s:α} {T:List Nat} (h:R.IsG s T) (ha:∀ j (hj:j+1 < T.length),R.tm T[j]≠R.tm T[j+1]):∀ i∈T,∀ k∈T,i≠k→R.tm i≠R.tm k:=by
 have hs:T.Pairwise (fun i k=>R.tm i < R.tm k):=by
  rw[List.pairwise_iff_getElem]
  intro i j hi hj hij
  have h1:=List.pairwise_iff_getElem.1 h.asc i (i+1) hi (by omega) (by omega)
  have h2:=ha i (by omega)
  by_cases e:i+1=j
  ·subst e;omega
  ·have:=List.pairwise_iff_getElem.1 h.asc (i+1) j (by omega) hj (by omega)
   omega
 intro i hi k hk hne e
 obtain⟨a,ha,rfl⟩:=List.getElem_of_mem hi
 obtain⟨b,hb,rfl⟩:=List.getElem_of_mem hk
 rcases Nat.lt_trichotomy a b with h1|h1|h1
 ·have:=List.pairwise_iff_getElem.1 hs a b ha hb h1;omega
 ·subst h1;exact hne rfl
 ·have:=List.pairwise_iff_getElem.1 hs b a hb ha h1;omega
def badL (P:Nat→Nat→Bool) (T:List Nat):List Nat:=((List.range T.length).filter (fun j=>!(chainP (fun a b=>P (T.getD a 0) (T.getD b 0)) T.length).contains j)).map (fun j=>T.getD j 0)
def Rs.susp (R:Rs α) (P:Nat→Nat→Bool):List Nat:=(List.range R.n).filter (fun i=>R.mv i && (badL P (R.gs (R.nm i))).contains i)
theorem mem_badL {P:Nat→Nat→Bool} {T:List Nat} {i:Nat}:i∈badL P T↔∃ j,∃ h:j < T.length,j ∉ chainP (fun a b=>P (T.getD a 0) (T.getD b 0)) T.length∧T[j]=i:=by
 unfold badL
 rw[List.mem_map]
 constructor
 ·rintro⟨j,hj,rfl⟩
  rw[List.mem_filter,List.mem_range] at hj
  refine⟨j,hj.1,by simpa using hj.2,?_⟩
  rw[List.getD_eq_getElem?_getD,List.getElem?_eq_getElem hj.1];rfl
 ·rintro⟨j,hj,hc,rfl⟩
  refine⟨j,?_,?_⟩
  ·rw[List.mem_filter,List.mem_range]
   exact⟨hj,by simpa using hc⟩
  ·rw[List.getD_eq_getElem?_getD,List.getElem?_eq_getElem hj];rfl
theorem badL_sub {P:Nat→Nat→Bool} {T:List Nat} {i:Nat} (h:i∈badL P T):i∈T:=by
 obtain⟨j,hj,_,rfl⟩:=mem_badL.1 h
 exact List.getElem_mem hj
theorem badL_nodup {P:Nat→Nat→Bool} {T:List Nat} (h:T.Nodup):(badL P T).Nodup:=by
 unfold badL
 unfold List.Nodup
 rw[List.pairwise_map]
 refine List.Pairwise.imp_of_mem ?_ (List.Nodup.sublist List.filter_sublist (List.nodup_range (n:=T.length)))
 intro a b ha hb hne e
 rw[List.mem_filter,List.mem_range] at ha hb
 simp only[List.getD_eq_getElem?_getD,List.getElem?_eq_getElem ha.1,List.getElem?_eq_getElem hb.1,Option.getD_some] at e
 refine hne ?_
 rcases Nat.lt_trichotomy a b with h1|h1|h1
 ·exact absurd e (List.pairwise_iff_getElem.1 h a b ha.1 hb.1 h1)
 ·exact h1
 ·exact absurd e.symm (List.pairwise_iff_getElem.1 h b a hb.1 ha.1 h1)
theorem Rs.mem_susp {R:Rs α} {P:Nat→Nat→Bool} {i:Nat}:i∈R.susp P↔i < R.n∧R.mv i=true∧i∈badL P (R.gs (R.nm i)):=by
 unfold Rs.susp
 rw[List.mem_filter,List.mem_range,Bool.and_eq_true,List.contains_iff_mem]
theorem Rs.susp_asc (R:Rs α) (P:Nat→Nat→Bool):(R.susp P).Pairwise (· < ·):=List.Pairwise.sublist List.filter_sublist List.pairwise_lt_range
theorem Rs.susp_len (R:Rs α) (P:Nat→Nat→Bool):(R.susp P).length≤R.n:=by
 have:=List.length_filter_le (fun i=>R.mv i && (badL P (R.gs (R.nm i))).contains i) (List.range R.n)
 rw[List.length_range] at this
 exact this
theorem Rs.susp_perm {R:Rs α} {P:Nat→Nat→Bool} {l:List Nat} (hn:l.Nodup) (h:∀ i,i∈l↔i∈R.susp P):l.Perm (R.susp P):=
 (List.perm_ext_iff_of_nodup hn ((R.susp_asc P).imp (fun h=>by omega))).2 h
end
end Go.Chain
