import Derived.Test.YtednaajanciabaaGreatDoorKLoc
import Derived.Test.YtednaajanciabaaGreatDoorKPlace
import Derived.Test.YtednaajanciabaaGreatDoorKPoints
import Derived.ArgAppend
set_option maxRecDepth 100000
set_option maxHeartbeats 8000000
set_option linter.unusedSimpArgs false
set_option linter.unusedVariables false
namespace Go.Grid
def addrs (p:Pl) (k:Nat):List Pl:=((List.range k).filter (fun g=>okB (on g p))).map (fun g=>on g p)
theorem addrs_yes {p:Pl} {k:Nat} (h:okB (on k p)=true):addrs p (k+1)=addrs p k ++ [on k p]:=by
 unfold addrs;rw[List.range_succ,List.filter_append,List.map_append];simp[h]
theorem addrs_no {p:Pl} {k:Nat} (h:okB (on k p)=false):addrs p (k+1)=addrs p k:=by
 unfold addrs;rw[List.range_succ,List.filter_append,List.map_append];simp[h]
theorem addrs_len (p:Pl) (k:Nat):(addrs p k).length≤k:=by
 unfold addrs;rw[List.length_map]
 exact Nat.le_trans (List.length_filter_le _ _) (by simp)
theorem addrs_head {p:Pl} (hp:p.Ok):∃ l,addrs p 20=normal p :: l:=by
 obtain⟨g,e,h1,h2,h3⟩:=nface_some hp
 have en:normal p=on g p:=by unfold normal;rw[e]
 have hd:((List.range 20).filter (fun g=>okB (on g p))).head?=some g:=by rw[List.head?_filter];exact e
 unfold addrs
 cases hl:(List.range 20).filter (fun g=>okB (on g p)) with
 |nil=>rw[hl] at hd;cases hd
 |cons x l=>
  rw[hl] at hd
  injection hd with hd
  subst hd
  exact⟨l.map (fun g=>on g p),by rw[en];rfl⟩
theorem tab_inj:∀ f,f < 20→∀ g,g < 20→(∀ v∈[(tab f).1,(tab f).2.1,(tab f).2.2],v∈[(tab g).1,(tab g).2.1,(tab g).2.2])→g=f:=by decide +kernel
theorem normal_inner {p:Pl} (hp:p.Ok) (ha:0 < p.a) (hb:0 < p.b) (hc:0 < p.c):normal p=p:=by
 obtain⟨g,e,h1,h2,h3⟩:=nface_some hp
 have en:normal p=on g p:=normal_first hp h1 h2 h3
 obtain⟨t1,t2,t3⟩:=tab_lt p.f
 obtain⟨a1,a2,a3⟩:=wt_own p
 have key:∀ v,v < 12→0 < wt p v→v∈[(tab g).1,(tab g).2.1,(tab g).2.2]:=by
  intro v hv h
  have:=wt_on hp h2 v hv
  rw[←this] at h
  unfold wt at h
  simp only[List.mem_cons,List.not_mem_nil,or_false]
  split at h
  ·rename_i h4;exact .inl h4
  ·split at h
   ·rename_i h4;exact .inr (.inl h4)
   ·split at h
    ·rename_i h4;exact .inr (.inr h4)
    ·omega
 have:g=p.f:=by
  refine tab_inj p.f hp.f g h1 (fun v hv=>?_)
  simp only[List.mem_cons,List.not_mem_nil,or_false] at hv
  rcases hv with rfl|rfl|rfl
  ·exact key _ t1 (by omega)
  ·exact key _ t2 (by omega)
  ·exact key _ t3 (by omega)
 rw[en,this,on_self]
theorem Before.trans {p q r:Pl} (h1:Before p q) (h2:Before q r):Before p r:=by
 unfold Before at *;omega
instance (p q:Pl):Decidable (Before p q):=by unfold Before;infer_instance
structure Low (L:List Pl) (p:Pl) (lo hi:Nat):Prop where
 le:lo≤hi
 len:hi≤L.length
 low:∀ k (h:k < L.length),k < lo→Before L[k] p
 high:∀ k (h:k < L.length),hi≤k→¬ Before L[k] p
theorem Low.start (L:List Pl) (p:Pl):Low L p 0 L.length:=⟨Nat.zero_le _,Nat.le_refl _,fun k _ h=>by omega,fun k h h2=>by omega⟩
theorem Low.up {L:List Pl} {p:Pl} {lo hi m:Nat} (h:Low L p lo hi) (hs:L.Pairwise Before) (h1:lo≤m) (h2:m < hi) (hm:m < L.length) (hb:Before L[m] p):Low L p (m+1) hi:=
 ⟨by omega,h.len,fun k hk hkm=>by
  by_cases e:k=m
  ·subst e;exact hb
  ·exact (List.pairwise_iff_getElem.1 hs k m hk hm (by omega)).trans hb,h.high⟩
theorem Low.down {L:List Pl} {p:Pl} {lo hi m:Nat} (h:Low L p lo hi) (hs:L.Pairwise Before) (h1:lo≤m) (h2:m < hi) (hm:m < L.length) (hb:¬ Before L[m] p):Low L p lo m:=
 ⟨h1,by have:=h.len;omega,h.low,fun k hk hkm hbk=>hb (by
  by_cases e:k=m
  ·subst e;exact hbk
  ·exact (List.pairwise_iff_getElem.1 hs m k hm hk (by omega)).trans hbk)⟩
theorem Low.found {L:List Pl} {p:Pl} {lo:Nat} (h:Low L p lo lo) (hs:L.Pairwise Before) (hl:lo < L.length) (e:L[lo]=p):ix L p=some lo:=by
 subst e;exact ix_get hs hl
theorem Low.none {L:List Pl} {p:Pl} {lo:Nat} (h:Low L p lo lo) (hs:L.Pairwise Before) (e:∀ hl:lo < L.length,L[lo]≠p):ix L p=Option.none:=by
 cases hi:ix L p with
 |none=>rfl
 |some i=>
  exfalso
  obtain⟨hl,he⟩:=ix_some hi
  have h1:¬ i < lo:=fun hh=>(h.low i hl hh).ne he
  have h2:¬ i=lo:=fun hh=>by subst hh;exact e hl he
  have h3:=List.pairwise_iff_getElem.1 hs lo i (by omega) hl (by omega)
  rw[he] at h3
  exact h.high lo (by omega) (Nat.le_refl _) h3
theorem ins_perm (S:List (Nat × Nat)) (k:Nat) (x:Nat × Nat):(S.take k ++ x :: S.drop k).Perm (x :: S):=by
 refine List.perm_middle.trans ?_
 rw[List.take_append_drop]
theorem ins_asc {S:List (Nat × Nat)} (hS:Asc S) {k:Nat} {x:Nat × Nat} (h1:∀ j (h:j < S.length),j < k→S[j].1 < x.1) (h2:∀ h:k < S.length,x.1≤S[k].1) (hx:∀ y∈S,y.1≠x.1):Asc (S.take k ++ x :: S.drop k):=by
 unfold Asc
 have key:∀ y∈S.take k,y.1 < x.1:=by
  intro y hy
  obtain⟨j,hj,rfl⟩:=List.mem_iff_getElem.1 hy
  rw[List.length_take] at hj
  rw[List.getElem_take]
  exact h1 j (by omega) (by omega)
 have key2:∀ y∈S.drop k,x.1 < y.1:=by
  intro y hy
  obtain⟨j,hj,rfl⟩:=List.mem_iff_getElem.1 hy
  rw[List.length_drop] at hj
  rw[List.getElem_drop]
  have h3:=h2 (by omega)
  have h4:=hx _ (List.getElem_mem (show k < S.length by omega))
  by_cases e:j=0
  ·subst e;simp only[Nat.add_zero];omega
  ·have:=List.pairwise_iff_getElem.1 hS k (k+j) (by omega) (by omega) (by omega)
   omega
 rw[List.pairwise_append]
 refine⟨hS.sublist (List.take_sublist _ _),?_,?_⟩
 ·rw[List.pairwise_cons]
  exact⟨key2,hS.sublist (List.drop_sublist _ _)⟩
 ·intro y hy z hz
  rcases List.mem_cons.1 hz with rfl|hz
  ·exact key y hy
  ·have:=key y hy;have:=key2 z hz;omega
end Go.Grid
namespace Go.Proofs.YtednaajanciabaaGreatDoor
open Go.RowKit Go.Grid
theorem rvalid_any (f a b c:Int) (w:World):Calls Tryz.prog 74 #[.agg #[.int .i64 f,.int .i64 a,.int .i64 b,.int .i64 c]] w fun e w'=>e=.returned (.bool (validB f a b c))∧Below w.heap.size w w':=by
 have hb0:Below w.heap.size w (w.alloc (.cells #[.int .i64 f,.int .i64 a,.int .i64 b,.int .i64 c] 41)):=(zBr _ _).alloc (Nat.le_refl _) _
 have no:¬ ValidI f a b c→Ending.returned (.bool false)=Ending.returned (.bool (validB f a b c)):=fun h=>by unfold validB;rw[zDf h]
 have yes:ValidI f a b c→Ending.returned (.bool true)=Ending.returned (.bool (validB f a b c)):=fun h=>by unfold validB;rw[zDt h]
 go_enter Tryz.func74,Tryz.ntmps74
 by_cases h1:0≤f
 ·by_cases h2:f < 20
  ·by_cases h3:0≤a
   ·by_cases h4:a≤840
    ·by_cases h5:0≤b
     ·by_cases h6:b≤840
      ·by_cases h7:0≤c
       ·by_cases h8:c≤840
        ·by_cases h9:a+b+c=840
         ·have e:=zN (yes (by unfold ValidI;omega))
          clear no yes
          have hs':(a+b+c == 840)=true:=by rw[beq_iff_eq];exact h9
          go_wp2
          go_ret
          exact⟨e.out,hb0⟩
         ·have e:=zN (no (by unfold ValidI;omega))
          clear no yes
          have hs':(a+b+c == 840)=false:=by rw[beq_eq_false_iff_ne];exact h9
          go_wp2
          go_ret
          exact⟨e.out,hb0⟩
        ·have e:=zN (no (by unfold ValidI;omega))
         clear no yes
         go_wp2
         go_ret
         exact⟨e.out,hb0⟩
       ·have e:=zN (no (by unfold ValidI;omega))
        clear no yes
        go_wp2
        go_ret
        exact⟨e.out,hb0⟩
      ·have e:=zN (no (by unfold ValidI;omega))
       clear no yes
       go_wp2
       go_ret
       exact⟨e.out,hb0⟩
     ·have e:=zN (no (by unfold ValidI;omega))
      clear no yes
      go_wp2
      go_ret
      exact⟨e.out,hb0⟩
    ·have e:=zN (no (by unfold ValidI;omega))
     clear no yes
     go_wp2
     go_ret
     exact⟨e.out,hb0⟩
   ·have e:=zN (no (by unfold ValidI;omega))
    clear no yes
    go_wp2
    go_ret
    exact⟨e.out,hb0⟩
  ·have e:=zN (no (by unfold ValidI;omega))
   clear no yes
   go_wp2
   go_ret
   exact⟨e.out,hb0⟩
 ·have e:=zN (no (by unfold ValidI;omega))
  clear no yes
  go_wp2
  go_ret
  exact⟨e.out,hb0⟩
theorem tab_ref:∀ f,f < 20→tab f=if f / 5=0 then (0,1+f % 5,1+(f % 5+1) % 5) else if f / 5=1 then (1+f % 5,6+f % 5,1+(f % 5+1) % 5) else if f / 5=2 then (6+f % 5,6+(f % 5+1) % 5,1+(f % 5+1) % 5) else (11,6+(f % 5+1) % 5,6+f % 5):=by decide
def cv (f:Nat):Value:=.agg #[.int .i64 ((tab f).1:Int),.int .i64 ((tab f).2.1:Int),.int .i64 ((tab f).2.2:Int)]
theorem rcorners_any (f:Nat) (hf:f < 20) (w:World):Calls Tryz.prog 110 #[.int .i64 f] w fun e w'=>e=.returned (.tuple #[cv f,.int .i64 0])∧Below w.heap.size w w':=by
 have hT:=tab_ref f hf
 obtain⟨i,hi⟩:∃ i,i=f % 5:=⟨_,rfl⟩
 obtain⟨j,hj⟩:∃ j,j=(f % 5+1) % 5:=⟨_,rfl⟩
 have hm:(f:Int).tmod 5=(i:Int):=by rw[Int.tmod_eq_emod_of_nonneg (by omega)];omega
 have hmj:((i:Int)+1).tmod 5=(j:Int):=by rw[Int.tmod_eq_emod_of_nonneg (by omega)];omega
 have hi5:i < 5:=by omega
 have hj5:j < 5:=by omega
 rw[←hj,←hi] at hT
 rcases (show f / 5=0∨f / 5=1∨f / 5=2∨f / 5=3 by omega) with hq|hq|hq|hq
 ·have hd:(f:Int).tdiv 5=0:=by rw[Int.tdiv_eq_ediv_of_nonneg (by omega)];omega
  have HE:Hid (cv f=.agg #[.int .i64 0,.int .i64 (1+(i:Int)),.int .i64 (1+(j:Int))]):=zN (by unfold cv;rw[hT,hq];simp)
  clear hT hi hj hq
  go_enter Tryz.func110,Tryz.ntmps110
  go_wp2
  rw[HE.out]
  refine bodyPost_ret (v:=.tuple #[.agg #[.int .i64 0,.int .i64 (1+(i:Int)),.int .i64 (1+(j:Int))],.int .i64 0]) ?_ rfl ⟨rfl,?_⟩
  ·simp[results,Tryz.results110,go_sem]
  ·exact (by repeat (first|(with_reducible first|assumption|exact zBr _ _|refine zBs ?_ (by first|omega|(simp<;>omega)) _|refine zBa ?_ (by first|omega|(simp<;>omega)) _|apply zBd)|assumption))
 ·have hd:(f:Int).tdiv 5=1:=by rw[Int.tdiv_eq_ediv_of_nonneg (by omega)];omega
  have HE:Hid (cv f=.agg #[.int .i64 (1+(i:Int)),.int .i64 (6+(i:Int)),.int .i64 (1+(j:Int))]):=zN (by unfold cv;rw[hT,hq];simp)
  clear hT hi hj hq
  go_enter Tryz.func110,Tryz.ntmps110
  go_wp2
  rw[HE.out]
  refine bodyPost_ret (v:=.tuple #[.agg #[.int .i64 (1+(i:Int)),.int .i64 (6+(i:Int)),.int .i64 (1+(j:Int))],.int .i64 0]) ?_ rfl ⟨rfl,?_⟩
  ·simp[results,Tryz.results110,go_sem]
  ·exact (by repeat (first|(with_reducible first|assumption|exact zBr _ _|refine zBs ?_ (by first|omega|(simp<;>omega)) _|refine zBa ?_ (by first|omega|(simp<;>omega)) _|apply zBd)|assumption))
 ·have hd:(f:Int).tdiv 5=2:=by rw[Int.tdiv_eq_ediv_of_nonneg (by omega)];omega
  have HE:Hid (cv f=.agg #[.int .i64 (6+(i:Int)),.int .i64 (6+(j:Int)),.int .i64 (1+(j:Int))]):=zN (by unfold cv;rw[hT,hq];simp)
  clear hT hi hj hq
  go_enter Tryz.func110,Tryz.ntmps110
  go_wp2
  rw[HE.out]
  refine bodyPost_ret (v:=.tuple #[.agg #[.int .i64 (6+(i:Int)),.int .i64 (6+(j:Int)),.int .i64 (1+(j:Int))],.int .i64 0]) ?_ rfl ⟨rfl,?_⟩
  ·simp[results,Tryz.results110,go_sem]
  ·exact (by repeat (first|(with_reducible first|assumption|exact zBr _ _|refine zBs ?_ (by first|omega|(simp<;>omega)) _|refine zBa ?_ (by first|omega|(simp<;>omega)) _|apply zBd)|assumption))
 ·have hd:(f:Int).tdiv 5=3:=by rw[Int.tdiv_eq_ediv_of_nonneg (by omega)];omega
  have HE:Hid (cv f=.agg #[.int .i64 11,.int .i64 (6+(j:Int)),.int .i64 (6+(i:Int))]):=zN (by unfold cv;rw[hT,hq];simp)
  clear hT hi hj hq
  go_enter Tryz.func110,Tryz.ntmps110
  go_wp2
  rw[HE.out]
  refine bodyPost_ret (v:=.tuple #[.agg #[.int .i64 11,.int .i64 (6+(j:Int)),.int .i64 (6+(i:Int))],.int .i64 0]) ?_ rfl ⟨rfl,?_⟩
  ·simp[results,Tryz.results110,go_sem]
  ·exact (by repeat (first|(with_reducible first|assumption|exact zBr _ _|refine zBs ?_ (by first|omega|(simp<;>omega)) _|refine zBa ?_ (by first|omega|(simp<;>omega)) _|apply zBd)|assumption))
theorem ron_any (n:Nat) (hn:n < 20) (p:Pl) (hpb:∀ v,wt p v≤840) (w:World):Calls Tryz.prog 76 #[.int .i64 n,wts p] w fun e w'=>e=.returned (.tuple #[pv (on n p),.bool (okB (on n p))])∧Below w.heap.size w w':=by
 obtain⟨l0,l1,l2⟩:=tab_lt n
 have g0:=wtsA_get p _ l0
 have g1:=wtsA_get p _ l1
 have g2:=wtsA_get p _ l2
 have HON:Hid (on n p=⟨n,wt p (tab n).1,wt p (tab n).2.1,wt p (tab n).2.2⟩):=zN rfl
 have HC:Hid (cv n=.agg #[.int .i64 ((tab n).1:Int),.int .i64 ((tab n).2.1:Int),.int .i64 ((tab n).2.2:Int)]):=zN rfl
 have m0:=hpb (tab n).1
 have m1:=hpb (tab n).2.1
 have m2:=hpb (tab n).2.2
 clear hpb
 generalize (tab n).1=x0 at *
 generalize (tab n).2.1=x1 at *
 generalize (tab n).2.2=x2 at *
 unfold wtsA at g0 g1 g2
 unfold wts
 generalize wt p x0=y0 at *
 generalize wt p x1=y1 at *
 generalize wt p x2=y2 at *
 rw[HON.out]
 have HG:=zN (And.intro g0 (And.intro g1 g2))
 clear g0 g1 g2
 go_enter Tryz.func76,Tryz.ntmps76
 go_wp2_with fail
 refine (rcorners_any n hn _).mono ?_
 rintro e w1 ⟨rfl,hb1⟩
 rw[HC.out]
 have k0:w1.cell? ⟨w.heap.size,x0,none⟩=some (.int .i64 y0):=zP hb1 (by rw[zJ,if_neg (by first|(simp;done)|(simp;omega)|omega),zJ,if_pos rfl];exact HG.out.1)
 have k1:w1.cell? ⟨w.heap.size,x1,none⟩=some (.int .i64 y1):=zP hb1 (by rw[zJ,if_neg (by first|(simp;done)|(simp;omega)|omega),zJ,if_pos rfl];exact HG.out.2.1)
 have k2:w1.cell? ⟨w.heap.size,x2,none⟩=some (.int .i64 y2):=zP hb1 (by rw[zJ,if_neg (by first|(simp;done)|(simp;omega)|omega),zJ,if_pos rfl];exact HG.out.2.2)
 have q0:w1.cell? ⟨w.heap.size+1,0,none⟩=some (.int .i64 0):=zP hb1 (by simp[zO,zJ,zQ])
 have q1:w1.cell? ⟨w.heap.size+1,1,none⟩=some (.int .i64 0):=zP hb1 (by simp[zO,zJ,zQ])
 have q2:w1.cell? ⟨w.heap.size+1,2,none⟩=some (.int .i64 0):=zP hb1 (by simp[zO,zJ,zQ])
 have q3:w1.cell? ⟨w.heap.size+1,3,none⟩=some (.int .i64 0):=zP hb1 (by simp[zO,zJ,zQ])
 have f0:w1.frozen? ⟨w.heap.size+1,0,none⟩=false:=(hb1.frozen (by simp<;>omega)).trans (by simp[RX.frozen_drew,RX.frozen_alloc,zQ])
 have f1:w1.frozen? ⟨w.heap.size+1,1,none⟩=false:=(hb1.frozen (by simp<;>omega)).trans (by simp[RX.frozen_drew,RX.frozen_alloc,zQ])
 have f2:w1.frozen? ⟨w.heap.size+1,2,none⟩=false:=(hb1.frozen (by simp<;>omega)).trans (by simp[RX.frozen_drew,RX.frozen_alloc,zQ])
 have f3:w1.frozen? ⟨w.heap.size+1,3,none⟩=false:=(hb1.frozen (by simp<;>omega)).trans (by simp[RX.frozen_drew,RX.frozen_alloc,zQ])
 have hB:Below w.heap.size w w1:=Below.trans (by repeat (first|(with_reducible first|assumption|exact zBr _ _|refine zBs ?_ (by first|omega|(simp<;>omega)) _|refine zBa ?_ (by first|omega|(simp<;>omega)) _|apply zBd)|assumption)) (hb1.mono (by simp;omega))
 have hs1:w.heap.size+1 < w1.heap.size:=zM _ _ q0
 have hs0:w.heap.size < w1.heap.size:=by omega
 have hs2:w.heap.size+1 < w1.heap.size+1:=by omega
 have hne1:¬ w.heap.size=w1.heap.size:=by omega
 have hne2:¬ w.heap.size+1=w1.heap.size:=by omega
 clear hb1 HG
 have hbt:((y0:Int)+y1+y2 == 840)=okB ⟨n,y0,y1,y2⟩:=by
  unfold okB;rw[Bool.eq_iff_iff,beq_iff_eq,beq_iff_eq];dsimp only;omega
 go_wp2
 refine RX.region RX.fL (fun w'=>w'.cell? ⟨w1.heap.size,0,none⟩=some (.int .i64 x0)∧w'.cell? ⟨w1.heap.size,1,none⟩=some (.int .i64 x1)∧w'.cell? ⟨w1.heap.size,2,none⟩=some (.int .i64 x2)∧w'.cell? ⟨w.heap.size,x0,none⟩=some (.int .i64 y0)∧w'.cell? ⟨w.heap.size,x1,none⟩=some (.int .i64 y1)∧w'.cell? ⟨w.heap.size,x2,none⟩=some (.int .i64 y2)) (by kernel_rfl) (by kernel_rfl) (⟨(by simp[zO,zJ,zQ]),(by simp[zO,zJ,zQ]),(by simp[zO,zJ,zQ]),(by (try have hLt:=zM _ _ k0);(try simp only at hLt);(repeat first|rw[zO]|rw[zK _ _ _ _ (by first|(simp<;>omega)|omega)]|rw[zJ,if_neg (by first|(simp<;>omega)|omega)]);first|exact k0|(rw[zJ,if_pos (by first|(simp;done)|omega)];exact k0)),(by (try have hLt:=zM _ _ k1);(try simp only at hLt);(repeat first|rw[zO]|rw[zK _ _ _ _ (by first|(simp<;>omega)|omega)]|rw[zJ,if_neg (by first|(simp<;>omega)|omega)]);first|exact k1|(rw[zJ,if_pos (by first|(simp;done)|omega)];exact k1)),(by (try have hLt:=zM _ _ k2);(try simp only at hLt);(repeat first|rw[zO]|rw[zK _ _ _ _ (by first|(simp<;>omega)|omega)]|rw[zJ,if_neg (by first|(simp<;>omega)|omega)]);first|exact k2|(rw[zJ,if_pos (by first|(simp;done)|omega)];exact k2))⟩) (fun OPS HO QR hQR=>?_)
 repeat (refine zeX (fun R hR=>?_);(first|refine zaX (by first|rfl|(rw[HO.out];rfl)) (by simp only[zA,zB,zC,zD];rfl) ?_|refine zbX (by first|rfl|(rw[HO.out];rfl)) rfl (by first|exact .inl rfl|exact .inr rfl) (by simp only[zE,zF,zG,zH];rfl) (by simp only[zA,zB,zC,zD];rfl) ?_|refine zcX (by first|rfl|(rw[HO.out];rfl)) rfl rfl (by simp only[zE,zF,zG,zH];rfl) (by simp only[zA,zB,zC,zD];rfl) ?_|(refine zdX (by first|rfl|(rw[HO.out];rfl)) rfl rfl rfl ?_;apply zEx;apply zEx;refine⟨fun w' hS K hK=>?_,?_,?_⟩;(focus (obtain⟨hS1,hS2,hS3,hS4,hS5,hS6⟩:=hS;go_wp2;exact hK _ _ (by simp only[zl,zG,zH];first|exact zf (by omega)|exact zg (by omega)|exact zh (by omega)|exact zi (by omega)|exact zj (by omega)|exact zk (by omega)|exact RX.bneB _|rfl) rfl));(focus (simp only[zA,zB,zC,zD];rfl))));refine hR _ _ ?_;clear hR R)
 refine zeX (fun R hR=>?_)
 refine zgX (by first|rfl|(rw[HO.out];rfl)) rfl (fun K hK=>?_)
 go_wp2
 refine⟨⟨(by simp[zO,zJ,zQ]),(by simp[zO,zJ,zQ]),(by simp[zO,zJ,zQ]),(by (try have hLt:=zM _ _ k0);(try simp only at hLt);(repeat first|rw[zO]|rw[zK _ _ _ _ (by first|(simp<;>omega)|omega)]|rw[zJ,if_neg (by first|(simp<;>omega)|omega)]);first|exact k0|(rw[zJ,if_pos (by first|(simp;done)|omega)];exact k0)),(by (try have hLt:=zM _ _ k1);(try simp only at hLt);(repeat first|rw[zO]|rw[zK _ _ _ _ (by first|(simp<;>omega)|omega)]|rw[zJ,if_neg (by first|(simp<;>omega)|omega)]);first|exact k1|(rw[zJ,if_pos (by first|(simp;done)|omega)];exact k1)),(by (try have hLt:=zM _ _ k2);(try simp only at hLt);(repeat first|rw[zO]|rw[zK _ _ _ _ (by first|(simp<;>omega)|omega)]|rw[zJ,if_neg (by first|(simp<;>omega)|omega)]);first|exact k2|(rw[zJ,if_pos (by first|(simp;done)|omega)];exact k2))⟩,hR _ _ ?_⟩;clear hR R
 repeat (refine zeX (fun R hR=>?_);(first|refine zaX (by first|rfl|(rw[HO.out];rfl)) (by simp only[zA,zB,zC,zD];rfl) ?_|refine zbX (by first|rfl|(rw[HO.out];rfl)) rfl (by first|exact .inl rfl|exact .inr rfl) (by simp only[zE,zF,zG,zH];rfl) (by simp only[zA,zB,zC,zD];rfl) ?_|refine zcX (by first|rfl|(rw[HO.out];rfl)) rfl rfl (by simp only[zE,zF,zG,zH];rfl) (by simp only[zA,zB,zC,zD];rfl) ?_|(refine zdX (by first|rfl|(rw[HO.out];rfl)) rfl rfl rfl ?_;apply zEx;apply zEx;refine⟨fun w' hS K hK=>?_,?_,?_⟩;(focus (obtain⟨hS1,hS2,hS3,hS4,hS5,hS6⟩:=hS;go_wp2;exact hK _ _ (by simp only[zl,zG,zH];first|exact zf (by omega)|exact zg (by omega)|exact zh (by omega)|exact zi (by omega)|exact zj (by omega)|exact zk (by omega)|exact RX.bneB _|rfl) rfl));(focus (simp only[zA,zB,zC,zD];rfl))));refine hR _ _ ?_;clear hR R)
 refine zeX (fun R hR=>?_)
 refine zgX (by first|rfl|(rw[HO.out];rfl)) rfl (fun K hK=>?_)
 go_wp2
 refine⟨⟨(by simp[zO,zJ,zQ]),(by simp[zO,zJ,zQ]),(by simp[zO,zJ,zQ]),(by (try have hLt:=zM _ _ k0);(try simp only at hLt);(repeat first|rw[zO]|rw[zK _ _ _ _ (by first|(simp<;>omega)|omega)]|rw[zJ,if_neg (by first|(simp<;>omega)|omega)]);first|exact k0|(rw[zJ,if_pos (by first|(simp;done)|omega)];exact k0)),(by (try have hLt:=zM _ _ k1);(try simp only at hLt);(repeat first|rw[zO]|rw[zK _ _ _ _ (by first|(simp<;>omega)|omega)]|rw[zJ,if_neg (by first|(simp<;>omega)|omega)]);first|exact k1|(rw[zJ,if_pos (by first|(simp;done)|omega)];exact k1)),(by (try have hLt:=zM _ _ k2);(try simp only at hLt);(repeat first|rw[zO]|rw[zK _ _ _ _ (by first|(simp<;>omega)|omega)]|rw[zJ,if_neg (by first|(simp<;>omega)|omega)]);first|exact k2|(rw[zJ,if_pos (by first|(simp;done)|omega)];exact k2))⟩,hR _ _ ?_⟩;clear hR R
 refine RX.wpL_nil (hQR _ _ (⟨(by simp[zO,zJ,zQ]),(by simp[zO,zJ,zQ]),(by simp[zO,zJ,zQ]),(by (try have hLt:=zM _ _ k0);(try simp only at hLt);(repeat first|rw[zO]|rw[zK _ _ _ _ (by first|(simp<;>omega)|omega)]|rw[zJ,if_neg (by first|(simp<;>omega)|omega)]);first|exact k0|(rw[zJ,if_pos (by first|(simp;done)|omega)];exact k0)),(by (try have hLt:=zM _ _ k1);(try simp only at hLt);(repeat first|rw[zO]|rw[zK _ _ _ _ (by first|(simp<;>omega)|omega)]|rw[zJ,if_neg (by first|(simp<;>omega)|omega)]);first|exact k1|(rw[zJ,if_pos (by first|(simp;done)|omega)];exact k1)),(by (try have hLt:=zM _ _ k2);(try simp only at hLt);(repeat first|rw[zO]|rw[zK _ _ _ _ (by first|(simp<;>omega)|omega)]|rw[zJ,if_neg (by first|(simp<;>omega)|omega)]);first|exact k2|(rw[zJ,if_pos (by first|(simp;done)|omega)];exact k2))⟩) ?_);clear hQR QR HO OPS
 go_wp2
 refine RX.region RX.fL (fun w'=>w'.cell? ⟨w1.heap.size+1,0,none⟩=some (.int .i64 n)∧w'.cell? ⟨w1.heap.size+1,1,none⟩=some (.int .i64 y0)∧w'.cell? ⟨w1.heap.size+1,2,none⟩=some (.int .i64 y1)∧w'.cell? ⟨w1.heap.size+1,3,none⟩=some (.int .i64 y2)) (by kernel_rfl) (by kernel_rfl) ((by simp[zO,zJ,zQ])) (fun OPS HO QR hQR=>?_)
 repeat (refine zeX (fun R hR=>?_);(first|refine zaX (by first|rfl|(rw[HO.out];rfl)) (by simp only[zA,zB,zC,zD];rfl) ?_|refine zbX (by first|rfl|(rw[HO.out];rfl)) rfl (by first|exact .inl rfl|exact .inr rfl) (by simp only[zE,zF,zG,zH];rfl) (by simp only[zA,zB,zC,zD];rfl) ?_|refine zcX (by first|rfl|(rw[HO.out];rfl)) rfl rfl (by simp only[zE,zF,zG,zH];rfl) (by simp only[zA,zB,zC,zD];rfl) ?_|(refine zdX (by first|rfl|(rw[HO.out];rfl)) rfl rfl rfl ?_;apply zEx;apply zEx;refine⟨fun w' hS K hK=>?_,?_,?_⟩;(focus (obtain⟨hS1,hS2,hS3,hS4⟩:=hS;go_wp2;exact hK _ _ (by simp only[zl,zG,zH];first|exact zf (by omega)|exact zg (by omega)|exact zh (by omega)|exact zi (by omega)|exact zj (by omega)|exact zk (by omega)|exact RX.bneB _|rfl) rfl));(focus (simp only[zA,zB,zC,zD];rfl))));refine hR _ _ ?_;clear hR R)
 refine zeX (fun R hR=>?_)
 refine zgX (by first|rfl|(rw[HO.out];rfl)) rfl (fun K hK=>?_)
 go_wp2
 refine⟨(by simp[zO,zJ,zQ]),hR _ _ ?_⟩;clear hR R
 repeat (refine zeX (fun R hR=>?_);(first|refine zaX (by first|rfl|(rw[HO.out];rfl)) (by simp only[zA,zB,zC,zD];rfl) ?_|refine zbX (by first|rfl|(rw[HO.out];rfl)) rfl (by first|exact .inl rfl|exact .inr rfl) (by simp only[zE,zF,zG,zH];rfl) (by simp only[zA,zB,zC,zD];rfl) ?_|refine zcX (by first|rfl|(rw[HO.out];rfl)) rfl rfl (by simp only[zE,zF,zG,zH];rfl) (by simp only[zA,zB,zC,zD];rfl) ?_|(refine zdX (by first|rfl|(rw[HO.out];rfl)) rfl rfl rfl ?_;apply zEx;apply zEx;refine⟨fun w' hS K hK=>?_,?_,?_⟩;(focus (obtain⟨hS1,hS2,hS3,hS4⟩:=hS;go_wp2;exact hK _ _ (by simp only[zl,zG,zH];first|exact zf (by omega)|exact zg (by omega)|exact zh (by omega)|exact zi (by omega)|exact zj (by omega)|exact zk (by omega)|exact RX.bneB _|rfl) rfl));(focus (simp only[zA,zB,zC,zD];rfl))));refine hR _ _ ?_;clear hR R)
 refine RX.wpL_nil (hQR _ _ ((by simp[zO,zJ,zQ])) ?_);clear hQR QR HO OPS
 go_wp2
 refine bodyPost_ret (v:=.tuple #[pv ⟨n,y0,y1,y2⟩,.bool (okB ⟨n,y0,y1,y2⟩)]) ?_ rfl ⟨rfl,?_⟩
 ·simp[results,Tryz.results76,go_sem,pv,zJ,hne1,hne2,q0,q1,q2,q3]
 ·exact (by repeat (first|(with_reducible first|assumption|exact zBr _ _|refine zBs ?_ (by first|omega|(simp<;>omega)) _|refine zBa ?_ (by first|omega|(simp<;>omega)) _|apply zBd)|assumption))
end Go.Proofs.YtednaajanciabaaGreatDoor
theorem Go.RX.wpl_apq {P:Go.Program} {ops:Array Go.Oper} {rest:List Go.Oper} {o:Go.Oper} {a:Go.Act} {w:Go.World} {Q:Go.Exit→Go.Act→Go.World→Prop} {t e:Go.TypeId} {z:Go.Value} {size bytes:Nat} (hgd:o.guard=none) (E:Go.RX.ElemOf P t e z size bytes) (s x:Go.Operand)
  (ho:o.op=.call { callee:=.builtin .append,args:=#[s,x],argTypes:=#[t,t] }) (base:Nat)
  (v:Go.Value) (n:Nat) (xs:List Go.Value) (hown:w.ownsRow base e size v n xs) (hs:a.eval s=v)
  (B:Nat) (cs:Array Go.Value) (m:Nat) (hx:a.eval x=.slice (some ⟨B,0,none⟩) m m) (hB:w.heap[B]?=some (.cells cs e (0,0))) (hc:cs.size=m*size) (h1:∀ u∈cs.toList,u.oneCell'=true)
  (hbytes:(n+m)*bytes≤140737488355328) (hn:n+m≤140737488355328) (hbase:base≤w.heap.size)
  (h:∀ v' w',w'.ownsRow base e size v' (n+m) (xs ++ cs.toList)→Go.RowKit.Below base w w'→w.grownBy w' v.ownBlock→(v'.ownBlock=v.ownBlock∨v'.ownBlock=some w.heap.size)→Go.wpList P ops Q rest (a.put o.dst v') w'):Go.wpList P ops Q (o :: rest) a w:=by
 refine Go.wpList_plain hgd fun K hK=>?_
 exact Go.RX.wp_app E s x ho base v n xs hown hs B cs m hx hB hc h1 hbytes hn hbase (fun v' w' a b c d=>hK _ _ (h v' w' a b c d))
namespace Go.Proofs.YtednaajanciabaaGreatDoor
open Go.RowKit Go.Grid
theorem own_mono {w:World} {base base':Nat} {e:TypeId} {size:Nat} {v:Value} {n:Nat} {xs:List Value} (h:w.ownsRow base e size v n xs) (hb:base'≤base):w.ownsRow base' e size v n xs:=
 ⟨h.1,h.2.imp id fun ⟨g,cap,cur,e,h1,r⟩=>⟨g,cap,cur,e,Nat.le_trans hb h1,r⟩⟩
def PlRow (w:World) (base:Nat) (v:Value) (L:List Pl):Prop:=w.ownsRow base 41 4 v L.length (plVals L)
theorem PlRow.nil (w:World) (base:Nat):PlRow w base (.slice none 0 0) []:=World.ownsRow_nil _ _ _ _
theorem PlRow.snoc {w:World} {base:Nat} {v:Value} {L:List Pl} {p:Pl} (h:w.ownsRow base 41 4 v (L.length+1) (plVals L ++ [.int .i64 p.f,.int .i64 p.a,.int .i64 p.b,.int .i64 p.c])):PlRow w base v (L ++ [p]):=by
 unfold PlRow;rw[plVals_snoc,List.length_append];exact h
theorem PlRow.kept {w w':World} {base:Nat} {v:Value} {L:List Pl} (h:PlRow w base v L) (hb:Below w.heap.size w w'):PlRow w' base v L:=
 World.ownsRow.kept (row:=none) h ⟨hb.os,hb.tape,hb.output,hb.size,fun k hk _=>hb.block k hk⟩ (by
  cases v.ownBlock with
  |none=>exact .inl rfl
  |some k=>exact .inr (by simp))
theorem PlRow.mono {w:World} {base base':Nat} {v:Value} {L:List Pl} (h:PlRow w base v L) (hb:base'≤base):PlRow w base' v L:=own_mono h hb
def PlsAt (w:World) (b:Nat) (L:List Pl):Prop:=∀ m (h:m < L.length),w.cell? ⟨b,m*4,none⟩=some (.int .i64 L[m].f)∧w.cell? ⟨b,m*4+1,none⟩=some (.int .i64 L[m].a)∧w.cell? ⟨b,m*4+2,none⟩=some (.int .i64 L[m].b)∧w.cell? ⟨b,m*4+3,none⟩=some (.int .i64 L[m].c)
theorem plVals_get:∀ (L:List Pl) (m:Nat) (h:m < L.length) (j:Nat),j < 4→(plVals L)[m*4+j]?=(plCells L[m])[j]?
 |p :: L,0,h,j,hj=>by
  simp only[plVals,List.flatMap_cons,Nat.zero_mul,Nat.zero_add]
  rw[List.getElem?_append_left (by simp[plCells];omega)];rfl
 |p :: L,m+1,h,j,hj=>by
  have ih:=plVals_get L m (by simpa using h) j hj
  simp only[plVals,List.flatMap_cons] at ih ⊢
  rw[List.getElem?_append_right (by simp[plCells];omega),show (m+1)*4+j-(plCells p).length=m*4+j by simp[plCells];omega,ih];rfl
theorem PlRow.form {w:World} {base:Nat} {v:Value} {L:List Pl} (h:PlRow w base v L):∃ p cap b,v=.slice p L.length cap∧L.length≤cap∧(0 < L.length→p=some ⟨b,0,none⟩∧base≤b∧b < w.heap.size)∧PlsAt w b L:=by
 rcases Nat.eq_zero_or_pos L.length with h0|h0
 ·obtain⟨p,cap,rfl,hc⟩:=own_slice h
  exact⟨p,cap,0,rfl,hc,fun hh=>by omega,fun j hj=>by omega⟩
 ·obtain⟨g,cap,cur,rfl,hc,hb,hg⟩:∃ g cap cur,v=.slice (some ⟨g,0,none⟩) L.length cap∧L.length≤cap∧base≤g∧w.heap[g]?=some (.cells cur 41 (0,0)):=by
   rcases h.2 with ⟨_,h2⟩|⟨g,cap,cur,h1,h2,h3,h4,_⟩
   ·omega
   ·exact⟨g,cap,cur,h1,h4,h2,h3⟩
  refine⟨_,cap,g,rfl,hc,fun _=>⟨rfl,hb,(World.ownsRow.lt h g rfl).2⟩,fun j hj=>?_⟩
  have key:∀ i,i < 4→w.cell? ⟨g,j*4+i,none⟩=(plCells L[j])[i]?:=fun i hi=>by
   rw[World.ownsRow.cellAt h (j*4+i) (by omega),←plVals_get L j hj i hi]
  exact⟨key 0 (by omega),key 1 (by omega),key 2 (by omega),key 3 (by omega)⟩
theorem PlsAt.kept {w w':World} {b:Nat} {L:List Pl} (h:PlsAt w b L) (hb:w'.heap[b]?=w.heap[b]?):PlsAt w' b L:=fun m hm=>by
 obtain⟨h0,h1,h2,h3⟩:=h m hm
 exact⟨(World.cell?_of_block hb).trans h0,(World.cell?_of_block hb).trans h1,(World.cell?_of_block hb).trans h2,(World.cell?_of_block hb).trans h3⟩
theorem wt_le {p:Pl} (hp:p.Ok) (v:Nat):wt p v≤840:=by
 have:=hp.s
 unfold wt;split
 ·omega
 ·split
  ·omega
  ·split<;>omega
theorem z12 (j:Nat) (h:j < 12):(#[Value.int .i64 0,.int .i64 0,.int .i64 0,.int .i64 0,.int .i64 0,.int .i64 0,.int .i64 0,.int .i64 0,.int .i64 0,.int .i64 0,.int .i64 0,.int .i64 0]:Array Value)[j]?=some (.int .i64 0):=by
 have:j=0∨j=1∨j=2∨j=3∨j=4∨j=5∨j=6∨j=7∨j=8∨j=9∨j=10∨j=11:=by omega
 rcases this with rfl|rfl|rfl|rfl|rfl|rfl|rfl|rfl|rfl|rfl|rfl|rfl<;>rfl
theorem rweights_any (p:Pl) (hf:p.f < 20) (w:World):Calls Tryz.prog 75 #[pv p] w fun e w'=>e=.returned (wts p)∧Below w.heap.size w w':=by
 obtain⟨l0,l1,l2⟩:=tab_lt p.f
 obtain⟨n0,n1,n2⟩:=tab_ne p.f
 have HW:Hid (∀ j,wt p j=if j=(tab p.f).1 then p.a else if j=(tab p.f).2.1 then p.b else if j=(tab p.f).2.2 then p.c else 0):=zN fun j=>rfl
 have HC:Hid (cv p.f=.agg #[.int .i64 ((tab p.f).1:Int),.int .i64 ((tab p.f).2.1:Int),.int .i64 ((tab p.f).2.2:Int)]):=zN rfl
 obtain⟨f,a,b,c⟩:=p
 dsimp only at hf l0 l1 l2 n0 n1 n2 HW HC
 generalize (tab f).1=x0 at *
 generalize (tab f).2.1=x1 at *
 generalize (tab f).2.2=x2 at *
 obtain⟨y,hy⟩:∃ y:Nat→Nat,y=wt ⟨f,a,b,c⟩:=⟨_,rfl⟩
 rw[←hy] at HW
 have HV:Hid (wts ⟨f,a,b,c⟩=.agg #[.int .i64 (y 0:Int),.int .i64 (y 1:Int),.int .i64 (y 2:Int),.int .i64 (y 3:Int),.int .i64 (y 4:Int),.int .i64 (y 5:Int),.int .i64 (y 6:Int),.int .i64 (y 7:Int),.int .i64 (y 8:Int),.int .i64 (y 9:Int),.int .i64 (y 10:Int),.int .i64 (y 11:Int)]):=zN (by rw[hy];rfl)
 rw[HV.out]
 clear hy
 simp only[pv]
 go_enter Tryz.func75,Tryz.ntmps75
 go_wp2_with fail
 refine (rcorners_any f hf _).mono ?_
 rintro e w1 ⟨rfl,hb1⟩
 rw[HC.out]
 have c1:w1.cell? ⟨w.heap.size,1,none⟩=some (.int .i64 a):=zP hb1 (by simp[zO,zJ,zQ])
 have c2:w1.cell? ⟨w.heap.size,2,none⟩=some (.int .i64 b):=zP hb1 (by simp[zO,zJ,zQ])
 have c3:w1.cell? ⟨w.heap.size,3,none⟩=some (.int .i64 c):=zP hb1 (by simp[zO,zJ,zQ])
 have hz:∀ j,j < 12→w1.cell? ⟨w.heap.size+2,j,none⟩=some (.int .i64 0):=fun j hj=>zP hb1 (by rw[zJ,if_pos (by simp)];exact z12 j hj)
 have hfz:∀ j,w1.frozen? ⟨w.heap.size+2,j,none⟩=false:=fun j=>(hb1.frozen (by simp)).trans (by rw[RX.frozen_alloc,if_pos (by simp)])
 have z0:=hz x0 l0
 have z1:=hz x1 l1
 have z2:=hz x2 l2
 have f0:=hfz x0
 have f1:=hfz x1
 have f2:=hfz x2
 have HZ:=zN hz
 have HR:Hid ((∀ j,j < 12→w1.cell? ⟨w.heap.size+1,j,none⟩=some (.int .i64 0))∧∀ j,w1.frozen? ⟨w.heap.size+1,j,none⟩=false):=zN ⟨fun j hj=>zP hb1 (by rw[zJ,if_neg (by simp),zJ,if_pos (by simp)];exact z12 j hj),fun j=>(hb1.frozen (by first|(simp;done)|(simp;omega)|omega)).trans (by rw[RX.frozen_alloc,if_neg (by simp),RX.frozen_alloc,if_pos (by simp)])⟩
 clear hz hfz
 have hB:Below w.heap.size w w1:=Below.trans (by repeat (first|(with_reducible first|assumption|exact zBr _ _|refine zBs ?_ (by first|omega|(simp<;>omega)) _|refine zBa ?_ (by first|omega|(simp<;>omega)) _|apply zBd)|assumption)) (hb1.mono (by simp;omega))
 have hs1:w.heap.size+2 < w1.heap.size:=zM _ _ z0
 clear hb1
 go_wp2
 refine RX.region RX.fL (fun w'=>w'.cell? ⟨w1.heap.size,0,none⟩=some (.int .i64 x0)∧w'.cell? ⟨w1.heap.size,1,none⟩=some (.int .i64 x1)∧w'.cell? ⟨w1.heap.size,2,none⟩=some (.int .i64 x2)∧w'.cell? ⟨w.heap.size,1,none⟩=some (.int .i64 a)∧w'.cell? ⟨w.heap.size,2,none⟩=some (.int .i64 b)∧w'.cell? ⟨w.heap.size,3,none⟩=some (.int .i64 c)) (by kernel_rfl) (by kernel_rfl) (⟨(by simp[zO,zJ,zQ]),(by simp[zO,zJ,zQ]),(by simp[zO,zJ,zQ]),(by (try have hLt:=zM _ _ c1);(try simp only at hLt);(repeat first|rw[zO]|rw[zK _ _ _ _ (by first|(simp<;>omega)|omega)]|rw[zJ,if_neg (by first|(simp<;>omega)|omega)]);first|exact c1|(rw[zJ,if_pos (by first|(simp;done)|omega)];exact c1)),(by (try have hLt:=zM _ _ c2);(try simp only at hLt);(repeat first|rw[zO]|rw[zK _ _ _ _ (by first|(simp<;>omega)|omega)]|rw[zJ,if_neg (by first|(simp<;>omega)|omega)]);first|exact c2|(rw[zJ,if_pos (by first|(simp;done)|omega)];exact c2)),(by (try have hLt:=zM _ _ c3);(try simp only at hLt);(repeat first|rw[zO]|rw[zK _ _ _ _ (by first|(simp<;>omega)|omega)]|rw[zJ,if_neg (by first|(simp<;>omega)|omega)]);first|exact c3|(rw[zJ,if_pos (by first|(simp;done)|omega)];exact c3))⟩) (fun OPS HO QR hQR=>?_)
 repeat (refine zeX (fun R hR=>?_);(first|refine zaX (by first|rfl|(rw[HO.out];rfl)) (by simp only[zA,zB,zC,zD];rfl) ?_|refine zbX (by first|rfl|(rw[HO.out];rfl)) rfl (by first|exact .inl rfl|exact .inr rfl) (by simp only[zE,zF,zG,zH];rfl) (by simp only[zA,zB,zC,zD];rfl) ?_|refine zcX (by first|rfl|(rw[HO.out];rfl)) rfl rfl (by simp only[zE,zF,zG,zH];rfl) (by simp only[zA,zB,zC,zD];rfl) ?_|(refine zdX (by first|rfl|(rw[HO.out];rfl)) rfl rfl rfl ?_;apply zEx;apply zEx;refine⟨fun w' hS K hK=>?_,?_,?_⟩;(focus (obtain⟨hS1,hS2,hS3,hS4,hS5,hS6⟩:=hS;go_wp2;exact hK _ _ (by simp only[zl,zG,zH];first|exact zf (by omega)|exact zg (by omega)|exact zh (by omega)|exact zi (by omega)|exact zj (by omega)|exact zk (by omega)|exact RX.bneB _|rfl) rfl));(focus (simp only[zA,zB,zC,zD];rfl))));refine hR _ _ ?_;clear hR R)
 refine zeX (fun R hR=>?_)
 refine zgX (by first|rfl|(rw[HO.out];rfl)) rfl (fun K hK=>?_)
 go_wp2
 refine⟨⟨(by simp[zO,zJ,zQ]),(by simp[zO,zJ,zQ]),(by simp[zO,zJ,zQ]),(by (try have hLt:=zM _ _ c1);(try simp only at hLt);(repeat first|rw[zO]|rw[zK _ _ _ _ (by first|(simp<;>omega)|omega)]|rw[zJ,if_neg (by first|(simp<;>omega)|omega)]);first|exact c1|(rw[zJ,if_pos (by first|(simp;done)|omega)];exact c1)),(by (try have hLt:=zM _ _ c2);(try simp only at hLt);(repeat first|rw[zO]|rw[zK _ _ _ _ (by first|(simp<;>omega)|omega)]|rw[zJ,if_neg (by first|(simp<;>omega)|omega)]);first|exact c2|(rw[zJ,if_pos (by first|(simp;done)|omega)];exact c2)),(by (try have hLt:=zM _ _ c3);(try simp only at hLt);(repeat first|rw[zO]|rw[zK _ _ _ _ (by first|(simp<;>omega)|omega)]|rw[zJ,if_neg (by first|(simp<;>omega)|omega)]);first|exact c3|(rw[zJ,if_pos (by first|(simp;done)|omega)];exact c3))⟩,hR _ _ ?_⟩;clear hR R
 repeat (refine zeX (fun R hR=>?_);(first|refine zaX (by first|rfl|(rw[HO.out];rfl)) (by simp only[zA,zB,zC,zD];rfl) ?_|refine zbX (by first|rfl|(rw[HO.out];rfl)) rfl (by first|exact .inl rfl|exact .inr rfl) (by simp only[zE,zF,zG,zH];rfl) (by simp only[zA,zB,zC,zD];rfl) ?_|refine zcX (by first|rfl|(rw[HO.out];rfl)) rfl rfl (by simp only[zE,zF,zG,zH];rfl) (by simp only[zA,zB,zC,zD];rfl) ?_|(refine zdX (by first|rfl|(rw[HO.out];rfl)) rfl rfl rfl ?_;apply zEx;apply zEx;refine⟨fun w' hS K hK=>?_,?_,?_⟩;(focus (obtain⟨hS1,hS2,hS3,hS4,hS5,hS6⟩:=hS;go_wp2;exact hK _ _ (by simp only[zl,zG,zH];first|exact zf (by omega)|exact zg (by omega)|exact zh (by omega)|exact zi (by omega)|exact zj (by omega)|exact zk (by omega)|exact RX.bneB _|rfl) rfl));(focus (simp only[zA,zB,zC,zD];rfl))));refine hR _ _ ?_;clear hR R)
 refine zeX (fun R hR=>?_)
 refine zgX (by first|rfl|(rw[HO.out];rfl)) rfl (fun K hK=>?_)
 go_wp2
 refine⟨⟨(by simp[zO,zJ,zQ]),(by simp[zO,zJ,zQ]),(by simp[zO,zJ,zQ]),(by (try have hLt:=zM _ _ c1);(try simp only at hLt);(repeat first|rw[zO]|rw[zK _ _ _ _ (by first|(simp<;>omega)|omega)]|rw[zJ,if_neg (by first|(simp<;>omega)|omega)]);first|exact c1|(rw[zJ,if_pos (by first|(simp;done)|omega)];exact c1)),(by (try have hLt:=zM _ _ c2);(try simp only at hLt);(repeat first|rw[zO]|rw[zK _ _ _ _ (by first|(simp<;>omega)|omega)]|rw[zJ,if_neg (by first|(simp<;>omega)|omega)]);first|exact c2|(rw[zJ,if_pos (by first|(simp;done)|omega)];exact c2)),(by (try have hLt:=zM _ _ c3);(try simp only at hLt);(repeat first|rw[zO]|rw[zK _ _ _ _ (by first|(simp<;>omega)|omega)]|rw[zJ,if_neg (by first|(simp<;>omega)|omega)]);first|exact c3|(rw[zJ,if_pos (by first|(simp;done)|omega)];exact c3))⟩,hR _ _ ?_⟩;clear hR R
 repeat (refine zeX (fun R hR=>?_);(first|refine zaX (by first|rfl|(rw[HO.out];rfl)) (by simp only[zA,zB,zC,zD];rfl) ?_|refine zbX (by first|rfl|(rw[HO.out];rfl)) rfl (by first|exact .inl rfl|exact .inr rfl) (by simp only[zE,zF,zG,zH];rfl) (by simp only[zA,zB,zC,zD];rfl) ?_|refine zcX (by first|rfl|(rw[HO.out];rfl)) rfl rfl (by simp only[zE,zF,zG,zH];rfl) (by simp only[zA,zB,zC,zD];rfl) ?_|(refine zdX (by first|rfl|(rw[HO.out];rfl)) rfl rfl rfl ?_;apply zEx;apply zEx;refine⟨fun w' hS K hK=>?_,?_,?_⟩;(focus (obtain⟨hS1,hS2,hS3,hS4,hS5,hS6⟩:=hS;go_wp2;exact hK _ _ (by simp only[zl,zG,zH];first|exact zf (by omega)|exact zg (by omega)|exact zh (by omega)|exact zi (by omega)|exact zj (by omega)|exact zk (by omega)|exact RX.bneB _|rfl) rfl));(focus (simp only[zA,zB,zC,zD];rfl))));refine hR _ _ ?_;clear hR R)
 refine zeX (fun R hR=>?_)
 refine zgX (by first|rfl|(rw[HO.out];rfl)) rfl (fun K hK=>?_)
 go_wp2
 refine⟨⟨(by simp[zO,zJ,zQ]),(by simp[zO,zJ,zQ]),(by simp[zO,zJ,zQ]),(by (try have hLt:=zM _ _ c1);(try simp only at hLt);(repeat first|rw[zO]|rw[zK _ _ _ _ (by first|(simp<;>omega)|omega)]|rw[zJ,if_neg (by first|(simp<;>omega)|omega)]);first|exact c1|(rw[zJ,if_pos (by first|(simp;done)|omega)];exact c1)),(by (try have hLt:=zM _ _ c2);(try simp only at hLt);(repeat first|rw[zO]|rw[zK _ _ _ _ (by first|(simp<;>omega)|omega)]|rw[zJ,if_neg (by first|(simp<;>omega)|omega)]);first|exact c2|(rw[zJ,if_pos (by first|(simp;done)|omega)];exact c2)),(by (try have hLt:=zM _ _ c3);(try simp only at hLt);(repeat first|rw[zO]|rw[zK _ _ _ _ (by first|(simp<;>omega)|omega)]|rw[zJ,if_neg (by first|(simp<;>omega)|omega)]);first|exact c3|(rw[zJ,if_pos (by first|(simp;done)|omega)];exact c3))⟩,hR _ _ ?_⟩;clear hR R
 refine RX.wpL_nil (hQR _ _ (⟨(by simp[zO,zJ,zQ]),(by simp[zO,zJ,zQ]),(by simp[zO,zJ,zQ]),(by (try have hLt:=zM _ _ c1);(try simp only at hLt);(repeat first|rw[zO]|rw[zK _ _ _ _ (by first|(simp<;>omega)|omega)]|rw[zJ,if_neg (by first|(simp<;>omega)|omega)]);first|exact c1|(rw[zJ,if_pos (by first|(simp;done)|omega)];exact c1)),(by (try have hLt:=zM _ _ c2);(try simp only at hLt);(repeat first|rw[zO]|rw[zK _ _ _ _ (by first|(simp<;>omega)|omega)]|rw[zJ,if_neg (by first|(simp<;>omega)|omega)]);first|exact c2|(rw[zJ,if_pos (by first|(simp;done)|omega)];exact c2)),(by (try have hLt:=zM _ _ c3);(try simp only at hLt);(repeat first|rw[zO]|rw[zK _ _ _ _ (by first|(simp<;>omega)|omega)]|rw[zJ,if_neg (by first|(simp<;>omega)|omega)]);first|exact c3|(rw[zJ,if_pos (by first|(simp;done)|omega)];exact c3))⟩) ?_);clear hQR QR HO OPS
 refine absW (F:=fun w'=>(∀ j,j < 12→w'.cell? ⟨w.heap.size+2,j,none⟩=some (.int .i64 (y j)))∧(∀ j,j < 12→w'.cell? ⟨w.heap.size+1,j,none⟩=some (.int .i64 0))∧(∀ j,w'.frozen? ⟨w.heap.size+1,j,none⟩=false)∧Below w.heap.size w w') ⟨?_,?_,?_,?_⟩ ?_
 ·intro j hj
  have hlt2:w.heap.size+2≠w1.heap.size:=by omega
  rw[zO,zJ,if_neg (by simpa using hlt2),HW.out j]
  by_cases h2:j=x2
  ·subst h2
   rw[if_neg (by omega),if_neg (by omega),if_pos rfl]
   exact zL _ _ _ (by rw[zK _ _ _ _ (by first|(simp;done)|(simp;omega)|omega),zK _ _ _ _ (by first|(simp;done)|(simp;omega)|omega),z2];rfl)
  ·rw[zK _ _ _ _ (by first|(simp;done)|(simp;omega)|omega)]
   by_cases h1:j=x1
   ·subst h1
    rw[if_neg (by omega),if_pos rfl]
    exact zL _ _ _ (by rw[zK _ _ _ _ (by first|(simp;done)|(simp;omega)|omega),z1];rfl)
   ·rw[zK _ _ _ _ (by first|(simp;done)|(simp;omega)|omega)]
    by_cases h0:j=x0
    ·subst h0
     rw[if_pos rfl]
     exact zL _ _ _ (by rw[z0];rfl)
    ·rw[zK _ _ _ _ (by first|(simp;done)|(simp;omega)|omega),if_neg h0,if_neg h1,if_neg h2]
     exact HZ.out j hj
 ·intro j hj
  have hr:=HR.out.1 j hj
  exact (by (try have hLt:=zM _ _ hr);(try simp only at hLt);(repeat first|rw[zO]|rw[zK _ _ _ _ (by first|(simp<;>omega)|omega)]|rw[zJ,if_neg (by first|(simp<;>omega)|omega)]);first|exact hr|(rw[zJ,if_pos (by first|(simp;done)|omega)];exact hr))
 ·intro j
  rw[RX.frozen_drew,RX.frozen_alloc,if_neg (by first|(simp;done)|(simp;omega)|omega),World.frozen?_setCell,World.frozen?_setCell,World.frozen?_setCell]
  exact HR.out.2 j
 ·exact (by repeat (first|(with_reducible first|assumption|exact zBr _ _|refine zBs ?_ (by first|omega|(simp<;>omega)) _|refine zBa ?_ (by first|omega|(simp<;>omega)) _|apply zBd)|assumption))
 rintro W1 ⟨d,hr,hf,hB1⟩
 clear z0 z1 z2 f0 f1 f2 c1 c2 c3 HZ HR hB
 have d0:=d 0 (by omega)
 have d1:=d 1 (by omega)
 have d2:=d 2 (by omega)
 have d3:=d 3 (by omega)
 have d4:=d 4 (by omega)
 have d5:=d 5 (by omega)
 have d6:=d 6 (by omega)
 have d7:=d 7 (by omega)
 have d8:=d 8 (by omega)
 have d9:=d 9 (by omega)
 have d10:=d 10 (by omega)
 have d11:=d 11 (by omega)
 have r0:=hr 0 (by omega)
 have r1:=hr 1 (by omega)
 have r2:=hr 2 (by omega)
 have r3:=hr 3 (by omega)
 have r4:=hr 4 (by omega)
 have r5:=hr 5 (by omega)
 have r6:=hr 6 (by omega)
 have r7:=hr 7 (by omega)
 have r8:=hr 8 (by omega)
 have r9:=hr 9 (by omega)
 have r10:=hr 10 (by omega)
 have r11:=hr 11 (by omega)
 have g0:=hf 0
 have g1:=hf 1
 have g2:=hf 2
 have g3:=hf 3
 have g4:=hf 4
 have g5:=hf 5
 have g6:=hf 6
 have g7:=hf 7
 have g8:=hf 8
 have g9:=hf 9
 have g10:=hf 10
 have g11:=hf 11
 clear d hr hf
 go_wp2
 refine bodyPost_ret (v:=.agg #[.int .i64 (y 0:Int),.int .i64 (y 1:Int),.int .i64 (y 2:Int),.int .i64 (y 3:Int),.int .i64 (y 4:Int),.int .i64 (y 5:Int),.int .i64 (y 6:Int),.int .i64 (y 7:Int),.int .i64 (y 8:Int),.int .i64 (y 9:Int),.int .i64 (y 10:Int),.int .i64 (y 11:Int)]) ?_ rfl ⟨rfl,?_⟩
 ·simp[results,Tryz.results75,go_sem,d0,d1,d2,d3,d4,d5,d6,d7,d8,d9,d10,d11,r0,r1,r2,r3,r4,r5,r6,r7,r8,r9,r10,r11]
 ·exact (by repeat (first|(with_reducible first|assumption|exact zBr _ _|refine zBs ?_ (by first|omega|(simp<;>omega)) _|refine zBa ?_ (by first|omega|(simp<;>omega)) _|apply zBd)|assumption))
theorem raddresses_any (p:Pl) (hp:p.Ok) (w:World):Calls Tryz.prog 56 #[pv p] w fun e w'=>∃ v,e=.returned (.tuple #[v,.int .i64 0])∧PlRow w' w.heap.size v (addrs p 20)∧Below w.heap.size w w':=by
 have hv:validB p.f p.a p.b p.c=true:=zDt (Ok.valid hp)
 have hf20:=hp.f
 have HWT:=zN (wt_le hp)
 clear hp
 simp only[pv]
 go_enter Tryz.func56,Tryz.ntmps56
 go_wp2_with fail
 refine (rvalid_any p.f p.a p.b p.c _).mono ?_
 rintro e w1 ⟨rfl,hb1⟩
 rw[hv]
 have p0:w1.cell? ⟨w.heap.size,0,none⟩=some (.int .i64 p.f):=zP hb1 (by simp[zO,zJ,zQ])
 have p1:w1.cell? ⟨w.heap.size,1,none⟩=some (.int .i64 p.a):=zP hb1 (by simp[zO,zJ,zQ])
 have p2:w1.cell? ⟨w.heap.size,2,none⟩=some (.int .i64 p.b):=zP hb1 (by simp[zO,zJ,zQ])
 have p3:w1.cell? ⟨w.heap.size,3,none⟩=some (.int .i64 p.c):=zP hb1 (by simp[zO,zJ,zQ])
 have hB:Below w.heap.size w w1:=Below.trans (by repeat (first|(with_reducible first|assumption|exact zBr _ _|refine zBs ?_ (by first|omega|(simp<;>omega)) _|refine zBa ?_ (by first|omega|(simp<;>omega)) _|apply zBd)|assumption)) (hb1.mono (by simp))
 clear hb1
 go_wp2_with fail
 refine (rweights_any p hf20 _).mono ?_
 rintro e w2 ⟨rfl,hb2⟩
 have hB2:Below w.heap.size w w2:=hB.trans (hb2.mono hB.size)
 clear hb2 hB p0 p1 p2 p3 hv
 obtain⟨B2,hB2e⟩:∃ x,x=w2.heap.size:=⟨_,rfl⟩
 unfold wts
 go_wp2
 rw[←hB2e]
 refine absW (F:=fun w'=>(∀ j,j < 12→w'.cell? ⟨B2,j,none⟩=some (.int .i64 (wt p j)))∧Below w.heap.size w w') ⟨?_,?_⟩ ?_
 ·intro j hj
  rw[zJ,if_pos hB2e]
  exact wtsA_get p j hj
 ·exact hB2.alloc hB2.size _
 rintro W1 ⟨d,hB⟩
 clear hB2 hB2e
 clear w2 w1
 have hsW:=hB.size
 go_loopw [5,6] (fun v i wr=>∃ k:Nat,k≤20∧i=.int .i64 k∧PlRow wr W1.heap.size v (addrs p k)∧Below W1.heap.size W1 wr) (fun _ i _=>20-(intOf i).toNat)
 case atStart=>exact⟨0,by omega,rfl,PlRow.nil _ _,zBr _ _⟩
 case round=>
  obtain⟨k,hk,rfl,hrow,hbr⟩:=hrel
  have e0:=zP hbr (d 0 (by omega))
  have e1:=zP hbr (d 1 (by omega))
  have e2:=zP hbr (d 2 (by omega))
  have e3:=zP hbr (d 3 (by omega))
  have e4:=zP hbr (d 4 (by omega))
  have e5:=zP hbr (d 5 (by omega))
  have e6:=zP hbr (d 6 (by omega))
  have e7:=zP hbr (d 7 (by omega))
  have e8:=zP hbr (d 8 (by omega))
  have e9:=zP hbr (d 9 (by omega))
  have e10:=zP hbr (d 10 (by omega))
  have e11:=zP hbr (d 11 (by omega))
  clear d
  by_cases hlt:k < 20
  ·have hdk:decide ((k:Int) < 20)=true:=zDt (by omega)
   go_wp2_with fail
   refine (ron_any k hlt p HWT.out _).mono ?_
   rintro e w3 ⟨rfl,hb3⟩
   have hrow3:=hrow.kept hb3
   have hb4:Below W1.heap.size W1 w3:=hbr.trans (hb3.mono hbr.size)
   have hlen:=addrs_len p k
   clear hb3 hbr hrow e0 e1 e2 e3 e4 e5 e6 e7 e8 e9 e10 e11
   cases hok:okB (on k p)
   ·have HA:=zN (addrs_no hok)
    clear hok
    unfold pv
    go_wp2
    go_roundw
    case rel=>exact⟨k+1,by omega,by go_num,by rw[HA.out];exact hrow3.kept ((zBr _ _).alloc (Nat.le_refl _) _),hb4.alloc hb4.size _⟩
    case measure=>simp[intOf];omega
   ·have HA:=zN (addrs_yes hok)
    clear hok
    obtain⟨q,hq⟩:∃ q,q=on k p:=⟨_,rfl⟩
    rw[←hq] at HA ⊢
    clear hq
    obtain⟨A,hA⟩:∃ A,A=addrs p k:=⟨_,rfl⟩
    rw[←hA] at HA hrow3 hlen
    clear hA
    have hown:=World.ownsRow.alloc (World.ownsRow.alloc hrow3 (.cells #[.int .i64 q.f,.int .i64 q.a,.int .i64 q.b,.int .i64 q.c] 41)) (.cells #[.int .i64 q.f,.int .i64 q.a,.int .i64 q.b,.int .i64 q.c] 41)
    have hs4:=hb4.size
    have hb5:=(hb4.alloc hb4.size (.cells #[.int .i64 q.f,.int .i64 q.a,.int .i64 q.b,.int .i64 q.c] 41)).alloc (by simp;omega) (.cells #[.int .i64 q.f,.int .i64 q.a,.int .i64 q.b,.int .i64 q.c] 41)
    obtain⟨p8,c8,hv8,hc8⟩:=own_slice hrow3
    subst hv8
    unfold pv
    clear hrow3 hb4
    go_wp2_with (refine RX.wpl_apq (by rfl) elPl _ _ (by rfl) W1.heap.size _ _ _ hown (by rfl) (w3.heap.size+1) _ 1 (by rfl) (by rw[←show (w3.alloc (.cells #[.int .i64 q.f,.int .i64 q.a,.int .i64 q.b,.int .i64 q.c] 41)).heap.size=w3.heap.size+1 by simp];exact heap_alloc_new _ _) (by rfl) (by simp[Value.oneCell']) (by omega) (by omega) (by simp;omega) ?_;intro v' w5 hown5 hb6 hg6 hat6)
    have HR:=zN (PlRow.snoc hown5)
    have HB6:=zN (hb5.trans hb6)
    clear hown5 hb6 hg6 hat6 hb5 hown
    go_roundw
    case rel=>exact⟨k+1,by omega,by go_num,by rw[HA.out];exact HR.out,HB6.out⟩
    case measure=>simp[intOf];omega
  ·obtain rfl:k=20:=by omega
   have HR:=zN (hrow.mono hsW)
   have HB6:=zN (hB.trans (hbr.mono hB.size))
   clear hrow hbr
   go_wp2
   go_ret2
   exact⟨_,rfl,HR.out,HB6.out⟩
theorem rnormal_any (p:Pl) (hp:p.Ok) (w:World):Calls Tryz.prog 33 #[pv p] w fun e w'=>e=.returned (.tuple #[pv (normal p),.int .i64 0])∧Below w.heap.size w w':=by
 have HP:=zN hp
 have hpv:Hid (pv p=.agg #[.int .i64 p.f,.int .i64 p.a,.int .i64 p.b,.int .i64 p.c]):=zN rfl
 rw[hpv.out]
 clear hp
 go_enter Tryz.func33,Tryz.ntmps33
 go_wp2_with fail
 rw[←hpv.out]
 refine (raddresses_any p HP.out _).mono ?_
 rintro e w1 ⟨v,rfl,hrow,hb1⟩
 have q0:w1.cell? ⟨w.heap.size+1,0,none⟩=some (.int .i64 0):=zP hb1 (by simp[zO,zJ,zQ])
 have q1:w1.cell? ⟨w.heap.size+1,1,none⟩=some (.int .i64 0):=zP hb1 (by simp[zO,zJ,zQ])
 have q2:w1.cell? ⟨w.heap.size+1,2,none⟩=some (.int .i64 0):=zP hb1 (by simp[zO,zJ,zQ])
 have q3:w1.cell? ⟨w.heap.size+1,3,none⟩=some (.int .i64 0):=zP hb1 (by simp[zO,zJ,zQ])
 have f0:w1.frozen? ⟨w.heap.size+1,0,none⟩=false:=(hb1.frozen (by simp<;>omega)).trans (by simp[RX.frozen_drew,RX.frozen_alloc,zQ])
 have f1:w1.frozen? ⟨w.heap.size+1,1,none⟩=false:=(hb1.frozen (by simp<;>omega)).trans (by simp[RX.frozen_drew,RX.frozen_alloc,zQ])
 have f2:w1.frozen? ⟨w.heap.size+1,2,none⟩=false:=(hb1.frozen (by simp<;>omega)).trans (by simp[RX.frozen_drew,RX.frozen_alloc,zQ])
 have f3:w1.frozen? ⟨w.heap.size+1,3,none⟩=false:=(hb1.frozen (by simp<;>omega)).trans (by simp[RX.frozen_drew,RX.frozen_alloc,zQ])
 have hB:Below w.heap.size w w1:=Below.trans (by repeat (first|(with_reducible first|assumption|exact zBr _ _|refine zBs ?_ (by first|omega|(simp<;>omega)) _|refine zBa ?_ (by first|omega|(simp<;>omega)) _|apply zBd)|assumption)) (hb1.mono (by simp;omega))
 obtain⟨l,hl⟩:=addrs_head HP.out
 obtain⟨ap,cap,b,rfl,hcap,hpos,hat⟩:=hrow.form
 rw[hl] at hat hpos hcap ⊢
 obtain⟨rfl,_,_⟩:=hpos (by simp)
 obtain⟨d0,d1,d2,d3⟩:=hat 0 (by simp)
 simp only[Nat.zero_mul,Nat.zero_add,List.getElem_cons_zero] at d0 d1 d2 d3
 clear hb1 hrow hl hpos hat
 obtain⟨q,hq⟩:∃ q,q=normal p:=⟨_,rfl⟩
 rw[←hq] at d0 d1 d2 d3 ⊢
 have HQ:=zN hq
 clear hq
 have hlen:0 < (q :: l).length:=by simp
 generalize (q :: l).length=N at *
 go_wp2
 refine bodyPost_ret (v:=.tuple #[pv q,.int .i64 0]) ?_ rfl ⟨by rw[HQ.out],?_⟩
 ·simp[results,Tryz.results33,go_sem,pv,q0,q1,q2,q3]
 ·exact (by repeat (first|(with_reducible first|assumption|exact zBr _ _|refine zBs ?_ (by first|omega|(simp<;>omega)) _|refine zBa ?_ (by first|omega|(simp<;>omega)) _|apply zBd)|assumption))
theorem risnormal_any (p:Pl) (hp:p.Ok) (w:World):Calls Tryz.prog 130 #[pv p] w fun e w'=>e=.returned (.bool (isN p))∧Below w.heap.size w w':=by
 have HP:=zN hp
 have hpv:Hid (pv p=.agg #[.int .i64 p.f,.int .i64 p.a,.int .i64 p.b,.int .i64 p.c]):=zN rfl
 rw[hpv.out]
 clear hp
 go_enter Tryz.func130,Tryz.ntmps130
 go_wp2_with fail
 rw[←hpv.out]
 refine (rnormal_any p HP.out _).mono ?_
 rintro e w1 ⟨rfl,hb1⟩
 have p0:w1.cell? ⟨w.heap.size,0,none⟩=some (.int .i64 p.f):=zP hb1 (by simp[zO,zJ,zQ])
 have p1:w1.cell? ⟨w.heap.size,1,none⟩=some (.int .i64 p.a):=zP hb1 (by simp[zO,zJ,zQ])
 have p2:w1.cell? ⟨w.heap.size,2,none⟩=some (.int .i64 p.b):=zP hb1 (by simp[zO,zJ,zQ])
 have p3:w1.cell? ⟨w.heap.size,3,none⟩=some (.int .i64 p.c):=zP hb1 (by simp[zO,zJ,zQ])
 have hB:Below w.heap.size w w1:=Below.trans (by repeat (first|(with_reducible first|assumption|exact zBr _ _|refine zBs ?_ (by first|omega|(simp<;>omega)) _|refine zBa ?_ (by first|omega|(simp<;>omega)) _|apply zBd)|assumption)) (hb1.mono (by simp))
 have hs1:w.heap.size < w1.heap.size:=zM _ _ p0
 clear hb1
 by_cases hN:normal p=p
 ·rw[hN]
  have HN:Hid (isN p=true):=zN (by simp[isN,hN])
  clear hN
  unfold pv
  go_wp2
  go_ret
  rw[HN.out]
  exact⟨rfl,(by repeat (first|(with_reducible first|assumption|exact zBr _ _|refine zBs ?_ (by first|omega|(simp<;>omega)) _|refine zBa ?_ (by first|omega|(simp<;>omega)) _|apply zBd)|assumption))⟩
 ·have hne:((p.f:Int) == ((normal p).f:Int))=false:=by
   rw[beq_eq_false_iff_ne];exact fun e=>hN (normal_face HP.out (by omega))
  have HN:Hid (isN p=false):=zN (by simp[isN,hN])
  clear hN
  unfold pv
  go_wp2
  go_ret
  rw[HN.out]
  exact⟨rfl,(by repeat (first|(with_reducible first|assumption|exact zBr _ _|refine zBs ?_ (by first|omega|(simp<;>omega)) _|refine zBa ?_ (by first|omega|(simp<;>omega)) _|apply zBd)|assumption))⟩
end Go.Proofs.YtednaajanciabaaGreatDoor
