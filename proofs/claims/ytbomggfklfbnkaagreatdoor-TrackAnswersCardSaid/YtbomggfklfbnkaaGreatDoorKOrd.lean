import Derived.Test.YtbomggfklfbnkaaGreatDoorKTrkM
import Derived.Test.YtbomggfklfbnkaaGreatDoorKChain
import Derived.Test.YtbomggfklfbnkaaGreatDoorKTrkN
import Derived.Test.YtbomggfklfbnkaaGreatDoorKTrkU
import Derived.Test.YtbomggfklfbnkaaGreatDoorKCopy
set_option maxRecDepth 100000
set_option maxHeartbeats 8000000
set_option linter.unusedSimpArgs false
set_option linter.unusedVariables false
namespace Go.Proofs.YtbomggfklfbnkaaGreatDoor
open Go.RowKit Go.Grid Go.Maps Go.Sort Go.Shelf Go.Chain
theorem qV_one (D:List Nat):∀ u∈qV D,u.oneCell'=true:=by
 intro u hu
 unfold qV at hu
 rw[List.mem_map] at hu
 obtain⟨x,_,rfl⟩:=hu
 rfl
theorem qV_len (D:List Nat):(qV D).length=D.length:=by simp[qV]
theorem qV_drop (D:List Nat) (k:Nat):(qV D).drop k=qV (D.drop k):=by simp[qV]
theorem qV_take (D:List Nat) (k:Nat):(qV D).take k=qV (D.take k):=by simp[qV]
theorem ins_perm {D:List Nat} {i k:Nat} (h:D.Perm (List.range i)):(D.take k ++ ([i] ++ D.drop k)).Perm (List.range (i+1)):=by
 rw[List.range_succ]
 have h1:(D.take k ++ ([i] ++ D.drop k)).Perm (i :: (D.take k ++ D.drop k)):=List.perm_middle
 rw[List.take_append_drop] at h1
 exact h1.trans ((List.Perm.cons i h).trans (List.perm_append_singleton i (List.range i)).symm)
theorem QRow.ins {w:World} {base base' k i:Nat} {v:Value} {D:List Nat} (hk:k≤D.length) (h:w.ownsRow base' 3 1 v (k+(1+(D.length-k))) (qV (D.take k) ++ (#[Value.int .i64 (i:Int)].toList ++ qV (D.drop k)))) (hb:base≤base'):QRow w base v (D.take k ++ ([i] ++ D.drop k)):=by
 unfold QRow
 have e:(D.take k ++ ([i] ++ D.drop k)).length=k+(1+(D.length-k)):=by simp;omega
 rw[e]
 have e2:qV (D.take k ++ ([i] ++ D.drop k))=qV (D.take k) ++ (#[Value.int .i64 (i:Int)].toList ++ qV (D.drop k)):=by simp[qV]
 rw[e2]
 exact own_mono h hb
end Go.Proofs.YtbomggfklfbnkaaGreatDoor
namespace Go.Chain
section
variable {α:Type} [DecidableEq α]
end
end Go.Chain
namespace Go.Proofs.YtbomggfklfbnkaaGreatDoor
open Go.RowKit Go.Grid Go.Maps Go.Sort Go.Shelf Go.Chain
theorem own_set {w:World} {base b n cap size:Nat} {e:TypeId} {xs:List Value} (h:w.ownsRow base e size (.slice (some ⟨b,0,none⟩) n cap) n xs) (k:Nat) (u:Value) (hk:k < n*size):(w.setCell ⟨b,k,none⟩ u).ownsRow base e size (.slice (some ⟨b,0,none⟩) n cap) n (xs.set k u):=by
 refine⟨by rw[List.length_set];exact h.1,?_⟩
 rcases h.2 with ⟨h1,_⟩|⟨g,cap',cur,h1,h2,h3,h4,h5,h6,h7⟩
 ·cases h1
 ·injection h1 with e1 _ e2
  injection e1 with e1
  injection e1 with e1
  subst e1 e2
  refine .inr ⟨b,cap,cur.setIfInBounds k u,rfl,h2,?_,h4,h5,by simpa using h6,?_⟩
  ·simp[World.setCell,Array.getElem?_modify,h3]
  ·rw[←h7,Array.toList_setIfInBounds,List.take_set]
theorem rps_set {u:Value} {c:Nat} {r':Rep} (hc:c < 8):∀ (L:List Rep) (i:Nat) (hi:i < L.length),rpc r'=(rpc L[i]).set c u→(L.flatMap rpc).set (i*8+c) u=(L.set i r').flatMap rpc
 |[],i,hi,_=>absurd hi (by simp)
 |p :: L,0,_,h=>by
  have h':rpc r'=(rpc p).set c u:=h
  rw[List.set_cons_zero,List.flatMap_cons,List.flatMap_cons,h',List.set_append_left _ _ (by simp[rpc];omega),Nat.zero_mul,Nat.zero_add]
 |p :: L,i+1,hi,h=>by
  rw[List.set_cons_succ,List.flatMap_cons,List.flatMap_cons,←rps_set hc L i (by simpa using hi) h,List.set_append_right _ _ (by simp[rpc];omega)]
  congr 2
  simp[rpc];omega
theorem RepRow.put {w:World} {base b n cap:Nat} {L:List Rep} (h:RepRow w base (.slice (some ⟨b,0,none⟩) n cap) L) (hn:L.length=n) {i c:Nat} {u:Value} {r':Rep} (hi:i < L.length) (hc:c < 8) (hr:rpc r'=(rpc L[i]).set c u):RepRow (w.setCell ⟨b,i*8+c,none⟩ u) base (.slice (some ⟨b,0,none⟩) n cap) (L.set i r'):=by
 unfold RepRow at h ⊢
 subst hn
 rw[List.length_set,←rps_set hc L i hi hr]
 exact own_set h _ u (by omega)
theorem RepRow.cell8 {w:World} {base b n cap:Nat} {L:List Rep} (h:RepRow w base (.slice (some ⟨b,0,none⟩) n cap) L) {i c:Nat} (hi:i < L.length) (hc:c < 8) {u:Value} (hu:(rpc L[i])[c]?=some u):w.cell? ⟨b,i*8+c,none⟩=some u:=by
 have:=World.ownsRow.cells h (g:=b) rfl (i*8+c) u (by rw[rps_get L i hi c hc];exact hu)
 rwa[Addr.add_lit,Nat.zero_add] at this
theorem RepRow.soft8 {w:World} {base b n cap:Nat} {L:List Rep} (h:RepRow w base (.slice (some ⟨b,0,none⟩) n cap) L) (j:Nat):w.frozen? ⟨b,j,none⟩=false:=by
 rcases h.2 with ⟨h1,_⟩|⟨g,cap',cur,h1,_,h3,_⟩
 ·cases h1
 ·injection h1 with e
  injection e with e
  injection e with e
  subst e
  simp[World.frozen?,h3]
theorem asc_all {c:List Nat} {n:Nat} (h:c.Pairwise (· < ·)) (hl:c.length=n) (hb:∀ i∈c,i < n):∀ j,j < n→j∈c:=by
 have ge:∀ j (hj:j < c.length),j≤c[j]:=by
  intro j
  induction j with
  |zero=>intro _;omega
  |succ j ih=>
   intro hj
   have h1:=ih (by omega)
   have h2:=List.pairwise_iff_getElem.1 h j (j+1) (by omega) hj (by omega)
   omega
 have le:∀ d j (hj:j < c.length),j+d+1=c.length→c[j]≤j:=by
  intro d
  induction d with
  |zero=>intro j hj e;have:=hb _ (List.getElem_mem hj);omega
  |succ d ih=>
   intro j hj e
   have h1:=ih (j+1) (by omega) (by omega)
   have h2:=List.pairwise_iff_getElem.1 h j (j+1) hj (by omega) (by omega)
   omega
 intro j hj
 have hj':j < c.length:=by omega
 have e:c[j]=j:=by
  have h1:=ge j hj'
  have h2:=le (c.length-j-1) j hj' (by omega)
  omega
 rw[←e]
 exact List.getElem_mem hj'
theorem badL_full {P:Nat→Nat→Bool} {T:List Nat} (h:∀ j (hj:j+1 < T.length),P T[j] T[j+1]=true):badL P T=[]:=by
 have hg:∀ a (ha:a < T.length),T.getD a 0=T[a]:=fun a ha=>getD_nat ha
 have h1:=chain_full (P:=fun a b=>P (T.getD a 0) (T.getD b 0)) (n:=T.length) (fun i hi=>by rw[hg i (by omega),hg (i+1) hi];exact h i hi)
 have h2:=(ok_of _ (chain_facts (fun a b=>P (T.getD a 0) (T.getD b 0)) T.length).1).2
 have h3:=asc_all h2 h1 (chain_lt _ _)
 rw[List.eq_nil_iff_forall_not_mem]
 intro i hi
 obtain⟨j,hj,h4,_⟩:=mem_badL.1 hi
 exact h4 (h3 j hj)
theorem asc_dup {l:List Rep} (hm:∀ i k (hi:i < l.length) (hk:k < i),movB l[i]=true→movB (l[k]'(by omega))=true→(l[k]'(by omega)).time < l[i].time):¬ (rsOf l).Dup:=by
 rintro⟨i,k,hki,hi,h1,h2,_,h4⟩
 have hi':i < l.length:=hi
 have e1:movB (l.getD i rep0)=true:=h1
 have e2:movB (l.getD k rep0)=true:=h2
 have e3:(l.getD i rep0).time=(l.getD k rep0).time:=h4
 rw[getD_rep hi'] at e1 e3
 rw[getD_rep (by omega)] at e2 e3
 have:=hm i k hi' hki e1 e2
 omega
theorem hopN_self (p:Pl):hopN p p=0:=by
 unfold hopN
 rw[if_pos rfl]
theorem same_none {n:Int} {l:List Rep} {p:Pl} (h0:0≤n) (ha:l.Pairwise (fun r s=>r.time < s.time)) (hp:∀ r∈l,plOf r=p):(rsOf l).susp (relP n l)=[]:=by
 have hd:¬ (rsOf l).Dup:=asc_dup fun i k hi hk _ _=>List.pairwise_iff_getElem.1 ha k i (by omega) hi hk
 rw[List.eq_nil_iff_forall_not_mem]
 intro i hi
 obtain⟨_,_,h3⟩:=Rs.mem_susp.1 hi
 have g:=(rsOf l).gs_is ((rsOf l).nm i)
 have hs:=g.strict hd
 rw[badL_full (fun j hj=>?_)] at h3
 ·cases h3
 ·have h4:=List.pairwise_iff_getElem.1 hs j (j+1) (by omega) hj (by omega)
  have m1:((rsOf l).gs ((rsOf l).nm i))[j] < l.length:=(g.mem.1 (List.getElem_mem (by omega))).1
  have m2:((rsOf l).gs ((rsOf l).nm i))[j+1] < l.length:=(g.mem.1 (List.getElem_mem hj)).1
  generalize ((rsOf l).gs ((rsOf l).nm i))[j]=a at *
  generalize ((rsOf l).gs ((rsOf l).nm i))[j+1]=b at *
  have h5:(l.getD a rep0).time < (l.getD b rep0).time:=h4
  rw[getD_rep m1,getD_rep m2] at h5
  rw[relP_eq m1 m2]
  unfold plB
  rw[decide_eq_true_eq,hp _ (List.getElem_mem m1),hp _ (List.getElem_mem m2),hopN_self]
  have h6:0≤n*(l[b].time-l[a].time):=Int.mul_nonneg h0 (by omega)
  exact⟨h5,by omega⟩
structure KN (l x:List Rep) (k:Nat):Prop where
 len:x.length=l.length
 same:∀ j (h:j < l.length) (h2:j < x.length),x[j].time=l[j].time∧x[j].f=l[j].f∧x[j].a=l[j].a∧x[j].b=l[j].b∧x[j].c=l[j].c∧x[j].rd=l[j].rd
 new:∀ j (h:j < x.length),j < k→(x[j].kind=2∨x[j].kind=3)∧(x[j].name=dStr∨x[j].name=eStr)
def landR:Rep:=⟨1,dStr,5,0,0,0,0,.slice none 0 0⟩
theorem KN.start (l:List Rep):KN l l 0:=⟨rfl,fun _ _ _=>⟨rfl,rfl,rfl,rfl,rfl,rfl⟩,fun _ _ h=>by omega⟩
theorem KN.step {l x:List Rep} {k:Nat} (h:KN l x k) (hk:k < x.length) {kd:Int} {nm:ByteArray} (h1:kd=2∨kd=3) (h2:nm=dStr∨nm=eStr):KN l (x.set k { x[k] with kind:=kd,name:=nm }) (k+1):=by
 refine⟨by rw[List.length_set];exact h.len,fun j hj hj2=>?_,fun j hj hjk=>?_⟩
 ·rw[List.length_set] at hj2
  have hs:=h.same j hj hj2
  by_cases e:k=j
  ·subst e
   rw[List.getElem_set_self]
   exact hs
  ·rw[List.getElem_set_ne e]
   exact hs
 ·rw[List.length_set] at hj
  by_cases e:k=j
  ·subst e
   rw[List.getElem_set_self]
   exact⟨h1,h2⟩
  ·rw[List.getElem_set_ne e]
   exact h.new j hj (by omega)
theorem KN.asc {l x:List Rep} {k:Nat} (h:KN l x k) (ha:l.Pairwise (fun r s=>r.time < s.time)):x.Pairwise (fun r s=>r.time < s.time):=by
 rw[List.pairwise_iff_getElem]
 intro i j hi hj hij
 have e1:=(h.same i (by rw[←h.len];exact hi) hi).1
 have e2:=(h.same j (by rw[←h.len];exact hj) hj).1
 rw[e1,e2]
 exact List.pairwise_iff_getElem.1 ha i j (by rw[←h.len];exact hi) (by rw[←h.len];exact hj) hij
structure OrdX (x X:List Rep):Prop where
 eq:X=x ++ [landR]
 rd:∀ r∈X,RdOk r
 mv:MovV X
 nm:∀ r∈X,r.name.size≤maxLen
 dup:¬ (rsOf X).Dup
 asc:x.Pairwise (fun r s=>r.time < s.time)
 val:∀ r∈x,ValR r
structure OrdY (n:Int) (X Y:List Rep) (O:List Nat):Prop where
 len:Y.length=X.length
 rd:∀ r∈Y,RdOk r
 nm:∀ r∈Y,r.name.size≤maxLen
 sE:suE n Y=0
 same:(suL n Y).length=(suL n X).length
 mem:∀ i,i∈suL n Y→i < X.length∧O.getD i 0 < X.length∧O.getD i 0∈suL n X∧(Y.getD i rep0).kind≠1
structure PLs (X Y:List Rep) (k:Nat):Prop where
 len:Y.length=X.length
 same:∀ j (h:j < X.length) (h2:j < Y.length),Y[j].kind=X[j].kind∧Y[j].name=X[j].name∧Y[j].time=X[j].time∧Y[j].rd=X[j].rd
 new:∀ j (h:j < Y.length),(j < k∨j=0)→Y[j].f=(X.getD 0 rep0).f∧Y[j].a=(X.getD 0 rep0).a∧Y[j].b=(X.getD 0 rep0).b∧Y[j].c=(X.getD 0 rep0).c
theorem PLs.start (X:List Rep):PLs X X 0:=⟨rfl,fun _ _ _=>⟨rfl,rfl,rfl,rfl⟩,fun j h hj=>by
 obtain rfl:j=0:=by omega
 rw[getD_rep h]
 exact⟨rfl,rfl,rfl,rfl⟩⟩
theorem PLs.step {X Y:List Rep} {k:Nat} (h:PLs X Y k) (hk:k < Y.length):PLs X (Y.set k { Y[k] with f:=(X.getD 0 rep0).f,a:=(X.getD 0 rep0).a,b:=(X.getD 0 rep0).b,c:=(X.getD 0 rep0).c }) (k+1):=by
 refine⟨by rw[List.length_set];exact h.len,fun j hj hj2=>?_,fun j hj hjk=>?_⟩
 ·rw[List.length_set] at hj2
  have hs:=h.same j hj hj2
  by_cases e:k=j
  ·subst e
   rw[List.getElem_set_self]
   exact hs
  ·rw[List.getElem_set_ne e]
   exact hs
 ·rw[List.length_set] at hj
  by_cases e:k=j
  ·subst e
   rw[List.getElem_set_self]
   exact⟨rfl,rfl,rfl,rfl⟩
  ·rw[List.getElem_set_ne e]
   exact h.new j hj (by omega)
theorem PLs.none {x X Y:List Rep} {k:Nat} (h:PLs X Y k) (hX:OrdX x X) (hk:x.length≤k) {n:Int} (h0:0≤n) (h1:n≤1000) :
  suE n (Y.take x.length)=0∧suL n (Y.take x.length)=[]∧(∀ r∈Y.take x.length,r.name.size≤maxLen)∧(Y.take x.length).length=x.length:=by
 have hXl:X.length=x.length+1:=by rw[hX.eq,List.length_append];rfl
 have hl:(Y.take x.length).length=x.length:=by rw[List.length_take,h.len,hXl];omega
 have hg:∀ j (hj:j < x.length) (h2:j < (Y.take x.length).length),∃ r∈X,(Y.take x.length)[j].kind=r.kind∧(Y.take x.length)[j].name=r.name∧(Y.take x.length)[j].time=(x[j]'hj).time∧(Y.take x.length)[j].f=(X.getD 0 rep0).f∧(Y.take x.length)[j].a=(X.getD 0 rep0).a∧(Y.take x.length)[j].b=(X.getD 0 rep0).b∧(Y.take x.length)[j].c=(X.getD 0 rep0).c:=fun j hj h2=>by
  rw[List.getElem_take]
  obtain⟨a1,a2,a3,_⟩:=h.same j (by omega) (by rw[h.len];omega)
  obtain⟨b1,b2,b3,b4⟩:=h.new j (by rw[h.len];omega) (.inl (by omega))
  refine⟨X[j]'(by omega),List.getElem_mem _,a1,a2,?_,b1,b2,b3,b4⟩
  rw[a3]
  have hXe:=hX.eq
  subst hXe
  rw[List.getElem_append_left hj]
 have hasc:(Y.take x.length).Pairwise (fun r s=>r.time < s.time):=by
  rw[List.pairwise_iff_getElem]
  intro i j hi hj hij
  obtain⟨_,_,_,_,e1,_⟩:=hg i (by omega) hi
  obtain⟨_,_,_,_,e2,_⟩:=hg j (by omega) hj
  rw[e1,e2]
  exact List.pairwise_iff_getElem.1 hX.asc i j (by omega) (by omega) hij
 have hd:¬ (rsOf (Y.take x.length)).Dup:=asc_dup fun i k hi hk _ _=>List.pairwise_iff_getElem.1 hasc k i (by omega) hi hk
 have hp:∀ r∈Y.take x.length,plOf r=plOf (X.getD 0 rep0):=fun r hr=>by
  obtain⟨j,hj,rfl⟩:=List.getElem_of_mem hr
  obtain⟨_,_,_,_,_,e1,e2,e3,e4⟩:=hg j (by omega) hj
  unfold plOf
  rw[e1,e2,e3,e4]
 have hv:MovV (Y.take x.length):=fun r hr _=>by
  obtain⟨j,hj,rfl⟩:=List.getElem_of_mem hr
  obtain⟨_,_,_,_,e0,e1,e2,e3,e4⟩:=hg j (by omega) hj
  have h00:0 < x.length:=by omega
  have ht:=(hX.val _ (List.getElem_mem (by omega:j < x.length))).2
  have hv0:=(hX.val _ (List.getElem_mem h00)).1
  have e5:X.getD 0 rep0=x[0]:=by
   rw[getD_rep (by omega)]
   have hXe:=hX.eq
   subst hXe
   rw[List.getElem_append_left h00]
  rw[←e5] at hv0
  unfold ValR
  rw[e0,e1,e2,e3,e4]
  exact⟨hv0,ht⟩
 obtain⟨f1,f2⟩:=suE_ok (n:=n) (l:=Y.take x.length) ⟨zDt ⟨h0,h1⟩,hv⟩ hd
 refine⟨f1,by rw[f2,same_none h0 hasc hp],fun r hr=>?_,hl⟩
 obtain⟨j,hj,rfl⟩:=List.getElem_of_mem hr
 obtain⟨s,hs,_,e,_⟩:=hg j (by omega) hj
 rw[e]
 exact hX.nm s hs
end Go.Proofs.YtbomggfklfbnkaaGreatDoor
