import Derived.Test.YtednaajanciabaaGreatDoorBOrdP
set_option maxRecDepth 100000
set_option maxHeartbeats 8000000
set_option linter.unusedSimpArgs false
set_option linter.unusedVariables false
namespace Go.Proofs.YtednaajanciabaaGreatDoor
open Go.RowKit Go.Grid Go.Buddy
theorem kin_anyW (v:Value) (zs:List Int) (x:Int) (w:World) (h:RdI w v zs) (hl:zs.length≤1000000):Calls Tryz.prog 29 #[v,.int .i64 x] w fun e w'=>e=.returned (.bool (decide (x∈zs)))∧w=w':=by
 obtain⟨p,cap,rfl,hcap,hV⟩:=h
 go_enter Tryz.func29,Tryz.ntmps29
 go_wp2
 go_loopw [5] (fun i wr=>∃ k:Nat,k≤zs.length∧i=.int .i64 k∧Hid (∀ j (h:j < zs.length),j < k→zs[j]≠x)∧wr=w) (fun i _=>zs.length-(intOf i).toNat)
 case atStart=>exact⟨0,by omega,rfl,zN fun j _ hj=>by omega,rfl⟩
 case round=>
  obtain⟨k,hk,rfl,HK,rfl⟩:=hrel
  by_cases hlt:k < zs.length
  ·have hdk:decide ((k:Int) < (zs.length:Int))=true:=zDt (by omega)
   obtain⟨b,o,rfl,hbl,hcell⟩:=hV.cell (by omega)
   have ck:=hcell k hlt
   obtain⟨y,hy⟩:∃ y,y=zs[k]:=⟨_,rfl⟩
   rw[←hy] at ck
   have HY:=zN hy
   clear hy hcell
   by_cases hr:y=x
   ·have HN:Hid (decide (x∈zs)=true):=zN (zDt (by rw[←hr,HY.out];exact List.getElem_mem _))
    subst hr
    go_wp2
    go_ret
    rw[HN.out];exact⟨rfl,rfl⟩
   ·have hb:(y == x)=false:=by rw[beq_eq_false_iff_ne];exact hr
    go_wp2
    go_roundw
    case rel=>exact⟨k+1,by omega,by go_num,zN fun j hj hjk=>by
     by_cases h:j=k
     ·subst h;rw[←HY.out];exact hr
     ·exact HK.out j hj (by omega),(by first|rfl|trivial)⟩
    case measure=>simp[intOf];omega
  ·have hdk:decide ((k:Int) < (zs.length:Int))=false:=zDf (by omega)
   have hkl:k=zs.length:=by omega
   have HN:Hid (decide (x∈zs)=false):=zN (zDf fun hx=>by
    obtain⟨j,hj,e⟩:=List.getElem_of_mem hx
    exact HK.out j hj (by omega) e)
   clear hkl
   go_wp2
   go_ret
   rw[HN.out];exact⟨rfl,rfl⟩
theorem cloB_memW (n a b:Nat):cloB n a b=(decide (a=b) || decide ((b:Int)∈nextL n a)):=by
 unfold cloB
 rw[List.contains_eq_mem]
 rfl
theorem left_equalW {P:Pan} (hl:0≤P.lim) (hv:∀ i,i < P.n→P.pr i=true→∀ k∈P.nx i,P.val k=P.val i∧P.pr k=true) {i:Nat} (hp:P.pr i=true):left P i=true:=by
 refine left_iff.2 ⟨P.pr,fun k hk hk2=>⟨hk2,?_⟩,hp⟩
 unfold stands
 rw[Bool.or_eq_true,decide_eq_true_eq,decide_eq_true_eq]
 by_cases h3:(P.nx k).length < 3
 ·exact .inl h3
 ·right
  have e:(P.nx k).filter (fun j=>P.pr j && agree P k j)=P.nx k:=by
   rw[List.filter_eq_self]
   intro j hj
   obtain⟨h1,h2⟩:=hv k hk hk2 j hj
   rw[Bool.and_eq_true]
   refine⟨h2,?_⟩
   unfold agree
   rw[decide_eq_true_eq,h1]
   omega
  rw[e];omega
theorem next_symm {n a b:Nat} (h1:1≤n) (h8:n≤8) (h:(b:Int)∈nextL n a):(a:Int)∈nextL n b:=by
 obtain⟨e,he,⟨ha,hb⟩|⟨ha,hb⟩⟩:=mem_next.1 h
 ·have h2:e.1∈nextL n e.2.toNat:=mem_next.2 ⟨e,he,.inr ⟨rfl,rfl⟩⟩
  have h3:=(next_in h1 h8 h2).1
  have e1:e.2.toNat=b:=by rw[←hb];rfl
  rw[e1] at h2
  rw[show (a:Int)=e.1 by rw[ha];omega]
  exact h2
 ·have h2:e.2∈nextL n e.1.toNat:=mem_next.2 ⟨e,he,.inl ⟨rfl,rfl⟩⟩
  have h3:=(next_in h1 h8 h2).1
  have e1:e.1.toNat=b:=by rw[←hb];rfl
  rw[e1] at h2
  rw[show (a:Int)=e.2 by rw[ha];omega]
  exact h2
theorem cloN_symm {n:Nat} (h1:1≤n) (h8:n≤8) {L:List BR} {i k:Nat} (h:cloN n L i k=true):cloN n L k i=true∧(bat L i).1.name≠(bat L k).1.name:=by
 unfold cloN at h ⊢
 rw[Bool.and_eq_true,decide_eq_true_eq] at h
 obtain⟨hn,hc⟩:=h
 refine⟨?_,hn⟩
 rw[Bool.and_eq_true,decide_eq_true_eq]
 refine⟨Ne.symm hn,?_⟩
 rw[cloB_memW,Bool.or_eq_true,decide_eq_true_eq,decide_eq_true_eq] at hc ⊢
 rcases hc with h|h
 ·exact .inl h.symm
 ·exact .inr (next_symm h1 h8 h)
theorem aroL_symm {n:Nat} (h1:1≤n) (h8:n≤8) {L:List BR} {c:Int} {i j:Nat} (hi:i < L.length) (h:j∈aroL n L c i):i∈aroL n L c j∧(bat L i).1.name≠(bat L j).1.name∧j < L.length:=by
 have hj:=aroL_lt h
 unfold aroL at h
 split at h
 ·rename_i hfi
  have h2:=(List.mem_filter.1 h).2
  unfold aroP at h2
  rw[Bool.and_eq_true] at h2
  obtain⟨hs,hn⟩:=cloN_symm h1 h8 h2.2
  refine⟨?_,hn,hj⟩
  unfold aroL
  rw[if_pos h2.1]
  refine List.mem_filter.2 ⟨List.mem_range.2 hi,?_⟩
  unfold aroP
  rw[hfi,hs];rfl
 ·cases h
structure Wid (k k2:Ctl):Prop where
 fr:k2.fr=k.fr
 le:∀ j,j < 12→k.bd j≤k2.bd j∧k2.bd j≤k.bd j+99
 z:∀ j,j < 12→k.bd j=0→k2.bd j=0
theorem Wid.chk {k k2:Ctl} {L:List BR} (h:Wid k k2) (hk:CtlOk k) (hL:∀ x∈L,vaB x.1=true∧valE x.2=0):chkE k2 L=0:=by
 have hb:∀ j,j < 12→decide (k2.bd j < 0∨10000 < k2.bd j)=false:=fun j hj=>zDf (by
  have h1:=h.le j hj
  rcases hk.bd j hj with h2|h2|h2|h2<;>omega)
 unfold chkE
 rw[if_pos ⟨by rw[h.fr];exact⟨hk.fr.1,by have:=hk.fr.2;omega⟩,by
  unfold limB bdL
  simp only[List.any_cons,List.any_nil,hb 0 (by decide),hb 1 (by decide),hb 2 (by decide),hb 3 (by decide),hb 4 (by decide),hb 5 (by decide),hb 6 (by decide),hb 7 (by decide),hb 8 (by decide),hb 9 (by decide),hb 10 (by decide),hb 11 (by decide),Bool.or_false]⟩]
 exact exE_all hL
theorem Wid.sub {k k2:Ctl} {L:List BR} (h:Wid k k2) (h1:chkE k L=0) (h2:chkE k2 L=0):∀ v∈chkL k2 L,v∈chkL k L:=fun v hv=>by
 obtain⟨i,e,hi,he,hb,rfl⟩:=(mem_chkL h2).1 hv
 refine (mem_chkL h1).2 ⟨i,e,hi,he,?_,rfl⟩
 unfold badF at hb ⊢
 rw[Bool.and_eq_true] at hb ⊢
 obtain⟨h3,h4⟩:=hb
 have hz2:k2.bd e≠0:=by simpa using h3
 have hz:k.bd e≠0:=fun h5=>hz2 (h.z e he h5)
 refine⟨by simpa using hz,?_⟩
 unfold rej at h4 ⊢
 rw[Bool.and_eq_true] at h4 ⊢
 rw[h.fr] at h4
 refine⟨h4.1,?_⟩
 have h6:left (panB k.fr.toNat L (k2.bd e) e) i=false:=by simpa using h4.2
 cases h7:left (panB k.fr.toNat L (k.bd e) e) i with
 |false=>rfl
 |true=>
  have:=left_wider (P:=panB k.fr.toNat L (k.bd e) e) (Q:=panB k.fr.toNat L (k2.bd e) e) rfl (fun _ _=>rfl) (fun _=>rfl) (fun _ _=>rfl) (h.le e he).1 h7 hi
  rw[h6] at this
  cases this
theorem chkL_same {k:Ctl} {L:List BR} {z:Int} (hk:CtlOk k) (h1:chkE k L=0) (hL:∀ i,i < L.length→(bat L i).2=[(1,z)]):chkL k L=[]:=by
 rw[List.eq_nil_iff_forall_not_mem]
 intro v hv
 obtain⟨i,e,hi,he,hb,rfl⟩:=(mem_chkL h1).1 hv
 unfold badF rej at hb
 rw[Bool.and_eq_true,Bool.and_eq_true] at hb
 obtain⟨_,hp,hl⟩:=hb
 have hlim:0≤k.bd e:=by rcases hk.bd e he with h|h|h|h<;>omega
 have:=left_equalW (P:=panB k.fr.toNat L (k.bd e) e) hlim (fun j hj hpj q hq=>by
  have hq':q < L.length:=aroL_lt hq
  have hj':j < L.length:=hj
  refine⟨?_,?_⟩
  ·show fV (bat L q).2 (e:Int)=fV (bat L j).2 (e:Int)
   rw[hL q hq',hL j hj']
  ·show fB (bat L q).2 (e:Int)=true
   have h3:fB (bat L j).2 (e:Int)=true:=hpj
   rw[hL j hj'] at h3
   rw[hL q hq'];exact h3) hp
 rw[this] at hl
 cases hl
end Go.Proofs.YtednaajanciabaaGreatDoor
