import Derived.Test.YtednaajanciabaaGreatDoorKBVal
import Derived.Test.YtednaajanciabaaGreatDoorBAnsP
import Derived.Test.YtednaajanciabaaGreatDoorKOpenV
import Derived.ProofKit
import Derived.OpenShut
import Derived.Lib.SmallJoins
import Derived.Deep.Slices
set_option maxRecDepth 100000
set_option maxHeartbeats 8000000
set_option linter.unusedSimpArgs false
set_option linter.unusedVariables false
namespace Go.Proofs.YtednaajanciabaaGreatDoor
open Go.ChangeShapes Go.WideShapes Go.ChangeAt Go.RowKit Go.Joins Go.Deep Go.Buddy
theorem cellsRdgB:Tryz.prog.cellsOf 55=2:=by kernel_rfl
theorem cellsI1B:Tryz.prog.cellsOf 3=1:=by kernel_rfl
theorem cellsStrB:Tryz.prog.cellsOf 9=1:=by kernel_rfl
theorem cellsRdsB:Tryz.prog.cellsOf 42=1:=by kernel_rfl
theorem cellsPl4B:Tryz.prog.cellsOf 41=4:=by kernel_rfl
theorem cellsRpB:Tryz.prog.cellsOf 44=8:=by kernel_rfl
theorem gatherB {α:Type} (len:Nat) (Q:Nat→α→Prop) (h:∀ i,i < len→∃ x,Q i x):∃ l:List α,l.length=len∧∀ i (hi:i < l.length),Q i l[i]:=by
 induction len with
 |zero=>exact⟨[],rfl,fun i hi=>absurd hi (by simp)⟩
 |succ n ih=>
  obtain⟨l,hl,hq⟩:=ih (fun i hi=>h i (by omega))
  obtain⟨x,hx⟩:=h n (by omega)
  refine⟨l ++ [x],by simp[hl],fun i hi=>?_⟩
  by_cases e:i < l.length
  ·rw[List.getElem_append_left e];exact hq i e
  ·have e2:i=l.length:=by simp at hi;omega
   subst e2
   rw[List.getElem_append_right (Nat.le_refl _)]
   simp only[Nat.sub_self,List.getElem_cons_zero]
   rw[hl];exact hx
theorem add_noneB (ab ao k:Nat):(⟨ab,ao,none⟩:Addr).add k=⟨ab,ao+k,none⟩:=by
 unfold Addr.add
 by_cases h0:k=0<;>simp[h0]
variable {H:Type} {enc:TypeId × Value→H} {W:World}
theorem open_rdgB {fuel:Nat} {cs:List Value} {x:DataW H × List MemPlace} (hf:DataW.trod enc Tryz.prog W 0 (fun _=>true) true fuel 42 cs=some x) :
  ∃ (pc:Option Addr) (cap:Nat) (S:List (Int × Int)),cs=[.slice pc S.length cap]∧S.length≤cap∧cap≤9223372036854775807∧RdgIn W pc S:=by
 rcases open_slice Tryz.underlying42 hf with ⟨rfl,hx⟩|⟨a,len,cap,m,n,D,Pl,rfl,_,hl,hm,hmm,hx,hel⟩
 ·exact⟨none,0,[],rfl,by simp,by omega,⟨0,0,by simp,fun k hk=>absurd hk (by simp)⟩⟩
 ·simp only[if_true] at hmm
  have hmax:maxLen≤9223372036854775807:=by decide
  have each:∀ i,i < len→∃ s:Int × Int,W.cell? (a.add (i*2+0))=some (.int .i64 s.1)∧W.cell? (a.add (i*2+1))=some (.int .i64 s.2):=by
   intro i hi
   obtain⟨cs',hc,ht⟩:=hel i (by omega)
   rw[cellsRdgB] at hc
   obtain⟨y0,y1,n',hx',hln,h0,h1⟩:=trod_struct2 Tryz.underlying55 ht
   obtain⟨_,hcl,hcc⟩:=World.cells?_some hc
   match cs',hcl with
   |[q0,q1],_=>
    obtain⟨b0,e0,_,_⟩:=DataW.trod_int Tryz.underlying3 h0
    obtain⟨b1,e1,_,_⟩:=DataW.trod_int Tryz.underlying3 h1
    rw[cellsI1B] at e0 e1
    simp at e0 e1
    subst e0 e1
    refine⟨(b0,b1),?_,?_⟩<;>rw[←Go.Deep.add_add]
    ·simpa using hcc 0 (by omega)
    ·simpa using hcc 1 (by omega)
  obtain⟨S,hS,hq⟩:=gatherB len _ each
  refine⟨some a,cap,S,by rw[hS],by omega,by omega,?_⟩
  by_cases h0:0 < len
  ·obtain⟨ab,ao,spot⟩:=a
   have hspot:spot=none:=by
    obtain⟨s,h1,_⟩:=each 0 h0
    simpa[Addr.add] using World.cell?_spot h1
   subst hspot
   refine⟨ab,ao,fun _=>rfl,fun k hk=>?_⟩
   have h1:=hq k hk
   simp only[add_noneB] at h1
   exact⟨by rw[←h1.1,Nat.add_zero],by rw[←h1.2,zQ]⟩
  ·exact⟨0,0,fun h=>absurd h (by omega),fun k hk=>absurd hk (by omega)⟩
def RdsOkB (w:World) (r:Rep):Prop:=∃ q cap R,r.rd=.slice q R.length cap∧R.length≤cap∧cap≤9223372036854775807∧RdgIn w q R
theorem trod_struct5B {P:Program} {base:Nat} {spare:Nat→Bool} {held:Bool} {t:TypeId} {f0 f1 f2 f3 f4:Field} {fuel:Nat} {cs:List Value} {x:DataW H × List MemPlace} (ht:P.underlying t=some (.struct #[f0,f1,f2,f3,f4])) (h:DataW.trod enc P W base spare held fuel t cs=some x) :
  ∃ y0 y1 y2 y3 y4 n,cs.length=P.cellsOf t∧DataW.trod enc P W base spare held n f0.type ((cs.drop f0.offset).take (P.cellsOf f0.type))=some y0∧
   DataW.trod enc P W base spare held n f1.type ((cs.drop f1.offset).take (P.cellsOf f1.type))=some y1∧DataW.trod enc P W base spare held n f2.type ((cs.drop f2.offset).take (P.cellsOf f2.type))=some y2∧
   DataW.trod enc P W base spare held n f3.type ((cs.drop f3.offset).take (P.cellsOf f3.type))=some y3∧DataW.trod enc P W base spare held n f4.type ((cs.drop f4.offset).take (P.cellsOf f4.type))=some y4:=by
 obtain⟨xs,n,_,rfl,hl,hlen,hf⟩:=DataW.trod_struct ht h
 match xs,hlen with
 |[y0,y1,y2,y3,y4],_=>exact⟨y0,y1,y2,y3,y4,n,hl,by simpa using hf 0 f0 rfl,by simpa using hf 1 f1 rfl,by simpa using hf 2 f2 rfl,by simpa using hf 3 f3 rfl,by simpa using hf 4 f4 rfl⟩
theorem open_repsB {r:Reach} {base:Nat} {v:Value} {d:DataW H} {p:List MemPlace} (hval:Value.okWide Tryz.prog W r base 25 v) (h:DataW.Trod enc Tryz.prog W 0 (fun _=>true) true 25 v d p) :
  ∃ (pc:Option Addr) (cap:Nat) (l:List Rep),v=.slice pc l.length cap∧l.length≤cap∧cap≤9223372036854775807∧VecR W pc l∧∀ r∈l,RdsOkB W r∧r.name.size≤maxLen:=by
 obtain⟨a0,len0,cap0,rfl⟩:=okWide_slice Tryz.underlying25 hval
 obtain⟨fuel,hf⟩:=h
 rcases open_slice Tryz.underlying25 hf with ⟨hcs,hx⟩|⟨a,len,cap,m,n,D,Pl,hcs,_,hl,hm,hmm,hx,hel⟩
 ·simp[Value.cells] at hcs
  obtain⟨rfl,rfl,rfl⟩:=hcs
  exact⟨none,0,[],rfl,by simp,by omega,VecR.nil _ _,by simp⟩
 ·simp[Value.cells] at hcs
  obtain⟨rfl,rfl,rfl⟩:=hcs
  simp only[if_true] at hmm
  have hmax:maxLen≤9223372036854775807:=by decide
  have each:∀ i,i < len0→∃ r:Rep,(W.cell? (a.add (i*8+0))=some (.int .i64 r.kind)∧W.cell? (a.add (i*8+1))=some (.string r.name)∧W.cell? (a.add (i*8+2))=some (.int .i64 r.time)∧W.cell? (a.add (i*8+3))=some (.int .i64 r.f)∧
    W.cell? (a.add (i*8+4))=some (.int .i64 r.a)∧W.cell? (a.add (i*8+5))=some (.int .i64 r.b)∧W.cell? (a.add (i*8+6))=some (.int .i64 r.c)∧W.cell? (a.add (i*8+7))=some r.rd)∧RdsOkB W r∧r.name.size≤maxLen:=by
   intro i hi
   obtain⟨cs',hc,ht⟩:=hel i (by omega)
   rw[cellsRpB] at hc
   obtain⟨y0,y1,y2,y3,y4,n',hln,h0,h1,h2,h3,h4⟩:=trod_struct5B Tryz.underlying44 ht
   obtain⟨z0,z1,z2,z3,n'',hx',hln',g0,g1,g2,g3⟩:=trod_struct4 Tryz.underlying41 h3
   obtain⟨_,hcl,hcc⟩:=World.cells?_some hc
   match cs',hcl with
   |[q0,q1,q2,q3,q4,q5,q6,q7],_=>
    obtain⟨b0,e0,_,_⟩:=DataW.trod_int Tryz.underlying3 h0
    obtain⟨b1,e1,_,hsz⟩:=DataW.trod_string Tryz.underlying9 h1
    obtain⟨b2,e2,_,_⟩:=DataW.trod_int Tryz.underlying3 h2
    obtain⟨b3,e3,_,_⟩:=DataW.trod_int Tryz.underlying3 g0
    obtain⟨b4,e4,_,_⟩:=DataW.trod_int Tryz.underlying3 g1
    obtain⟨b5,e5,_,_⟩:=DataW.trod_int Tryz.underlying3 g2
    obtain⟨b6,e6,_,_⟩:=DataW.trod_int Tryz.underlying3 g3
    obtain⟨pq,cq,R,e7,hc7,hm7,hR⟩:=open_rdgB h4
    rw[cellsI1B] at e0 e2
    rw[cellsStrB] at e1
    rw[cellsPl4B,cellsI1B] at e3 e4 e5 e6
    rw[cellsRdsB] at e7
    simp at e0 e1 e2 e3 e4 e5 e6 e7
    subst e0 e1 e2 e3 e4 e5 e6 e7
    refine⟨⟨b0,b1,b2,b3,b4,b5,b6,.slice pq R.length cq⟩,⟨?_,?_,?_,?_,?_,?_,?_,?_⟩,⟨pq,cq,R,rfl,hc7,hm7,hR⟩,hsz⟩<;>rw[←Go.Deep.add_add]
    ·simpa using hcc 0 (by omega)
    ·simpa using hcc 1 (by omega)
    ·simpa using hcc 2 (by omega)
    ·simpa using hcc 3 (by omega)
    ·simpa using hcc 4 (by omega)
    ·simpa using hcc 5 (by omega)
    ·simpa using hcc 6 (by omega)
    ·simpa using hcc 7 (by omega)
  obtain⟨l,hL,hq⟩:=gatherB len0 _ each
  refine⟨some a,cap0,l,by rw[hL],by omega,by omega,?_,fun r hr=>?_⟩
  ·by_cases h0:0 < len0
   ·obtain⟨ab,ao,spot⟩:=a
    have hspot:spot=none:=by
     obtain⟨s,⟨h1,_⟩,_⟩:=each 0 h0
     simpa[Addr.add] using World.cell?_spot h1
    subst hspot
    refine⟨ab,ao,fun _=>rfl,fun k hk=>?_⟩
    obtain⟨⟨h1,h2,h3,h4,h5,h6,h7,h8⟩,⟨q,c,R,h9,_⟩,_⟩:=hq k hk
    simp only[add_noneB] at h1 h2 h3 h4 h5 h6 h7 h8
    exact⟨by rw[←h1,Nat.add_zero],by rw[←h2,zQ],by rw[←h3,zQ],by rw[←h4,zQ],by rw[←h5,zQ],by rw[←h6,zQ],by rw[←h7,zQ],by rw[←h8,zQ],⟨_,_,_,h9⟩⟩
   ·exact⟨0,0,fun h=>absurd h (by omega),fun k hk=>absurd hk (by omega)⟩
  ·obtain⟨k,hk,rfl⟩:=List.mem_iff_getElem.1 hr
   exact⟨(hq k hk).2.1,(hq k hk).2.2⟩
theorem open_repsBR {r:Reach} {base:Nat} {v:Value} {d:DataW H} {p:List MemPlace} (hval:Value.okWide Tryz.prog W r base 25 v) (h:DataW.Trod enc Tryz.prog W 0 (fun _=>true) true 25 v d p) :
  ∃ (pc:Option Addr) (cap:Nat) (L:List BR),v=.slice pc L.length cap∧VecR W pc (L.map Prod.fst)∧∀ x∈L,∃ q cap,x.1.rd=.slice q x.2.length cap∧RdgIn W q x.2:=by
 obtain⟨pc,cap,l,rfl,_,_,hv,hr⟩:=open_repsB hval h
 obtain⟨L,hL,hq⟩:=gatherB l.length (fun i (x:BR)=>∀ hi:i < l.length,x.1=l[i]∧∃ q cap,x.1.rd=.slice q x.2.length cap∧RdgIn W q x.2) (fun i hi=>by
  obtain⟨q,c,R,h1,_,_,h2⟩:=(hr _ (List.getElem_mem hi)).1
  exact⟨(l[i],R),fun _=>⟨rfl,q,c,h1,h2⟩⟩)
 have e:L.map Prod.fst=l:=List.ext_getElem (by rw[List.length_map,hL]) (fun i h1 h2=>by
  rw[List.getElem_map]
  exact (hq i (by rw[hL];exact h2) h2).1)
 refine⟨pc,cap,L,by rw[hL],by rw[e];exact hv,fun x hx=>?_⟩
 obtain⟨i,hi,rfl⟩:=List.mem_iff_getElem.1 hx
 exact (hq i hi (by rw[←hL];exact hi)).2
theorem cellsA12:Tryz.prog.cellsOf 27=12:=by kernel_rfl
theorem int_cellB {fuel o:Nat} {l:List Value} {x:DataW H × List MemPlace} (h:DataW.trod enc Tryz.prog W 0 (fun _=>true) true fuel 3 ((l.drop o).take 1)=some x):∃ n:Int,l[o]?=some (.int .i64 n):=by
 obtain⟨n,e,_⟩:=DataW.trod_int Tryz.underlying3 h
 refine⟨n,?_⟩
 have h0:=congrArg (fun q=>q[0]?) e
 simpa using h0
theorem arr_cellB {fuel o:Nat} {l:List Value} {x:DataW H × List MemPlace} (h:DataW.trod enc Tryz.prog W 0 (fun _=>true) true fuel 27 ((l.drop o).take 12)=some x):∀ i,i < 12→∃ n:Int,l[o+i]?=some (.int .i64 n):=by
 intro i hi
 obtain⟨xs,m,_,_,_,hlen,hf⟩:=DataW.trod_array Tryz.underlying27 h
 have h1:=hf i hi
 rw[List.getElem?_eq_getElem (by omega:i < xs.length),cellsI1B,Nat.mul_one] at h1
 obtain⟨n,hn⟩:=int_cellB h1
 refine⟨n,?_⟩
 rw[List.getElem?_take,if_pos hi,List.getElem?_drop] at hn
 exact hn
theorem open_ctl {r:Reach} {base:Nat} {v:Value} {d:DataW H} {p:List MemPlace} (hval:Value.okWide Tryz.prog W r base 29 v) (h:DataW.Trod enc Tryz.prog W 0 (fun _=>true) true 29 v d p):∃ k:Ctl,v=ctv k:=by
 obtain⟨cs,rfl,hsz⟩:=okWide_struct Tryz.underlying29 hval
 obtain⟨fuel,hf⟩:=h
 obtain⟨xs,n,_,_,hl,hlen,hx⟩:=DataW.trod_struct Tryz.underlying29 hf
 have hxs:∀ i,i < 8→∃ y,xs[i]?=some y:=fun i hi=>⟨_,List.getElem?_eq_getElem (by rw[hlen];exact hi)⟩
 have key:∀ j,j < 41→∃ m:Int,cs.toList[j]?=some (.int .i64 m):=by
  have g0:DataW.trod enc Tryz.prog W 0 (fun _=>true) true n 3 ((cs.toList.drop 0).take (Tryz.prog.cellsOf 3))=xs[0]?:=hx 0 _ rfl
  have g1:DataW.trod enc Tryz.prog W 0 (fun _=>true) true n 27 ((cs.toList.drop 1).take (Tryz.prog.cellsOf 27))=xs[1]?:=hx 1 _ rfl
  have g2:DataW.trod enc Tryz.prog W 0 (fun _=>true) true n 27 ((cs.toList.drop 13).take (Tryz.prog.cellsOf 27))=xs[2]?:=hx 2 _ rfl
  have g3:DataW.trod enc Tryz.prog W 0 (fun _=>true) true n 3 ((cs.toList.drop 25).take (Tryz.prog.cellsOf 3))=xs[3]?:=hx 3 _ rfl
  have g4:DataW.trod enc Tryz.prog W 0 (fun _=>true) true n 27 ((cs.toList.drop 26).take (Tryz.prog.cellsOf 27))=xs[4]?:=hx 4 _ rfl
  have g5:DataW.trod enc Tryz.prog W 0 (fun _=>true) true n 3 ((cs.toList.drop 38).take (Tryz.prog.cellsOf 3))=xs[5]?:=hx 5 _ rfl
  have g6:DataW.trod enc Tryz.prog W 0 (fun _=>true) true n 3 ((cs.toList.drop 39).take (Tryz.prog.cellsOf 3))=xs[6]?:=hx 6 _ rfl
  have g7:DataW.trod enc Tryz.prog W 0 (fun _=>true) true n 3 ((cs.toList.drop 40).take (Tryz.prog.cellsOf 3))=xs[7]?:=hx 7 _ rfl
  rw[cellsI1B] at g0 g3 g5 g6 g7
  rw[cellsA12] at g1 g2 g4
  obtain⟨y0,e0⟩:=hxs 0 (by decide)
  obtain⟨y1,e1⟩:=hxs 1 (by decide)
  obtain⟨y2,e2⟩:=hxs 2 (by decide)
  obtain⟨y3,e3⟩:=hxs 3 (by decide)
  obtain⟨y4,e4⟩:=hxs 4 (by decide)
  obtain⟨y5,e5⟩:=hxs 5 (by decide)
  obtain⟨y6,e6⟩:=hxs 6 (by decide)
  obtain⟨y7,e7⟩:=hxs 7 (by decide)
  have k0:=int_cellB (g0.trans e0)
  have k1:=arr_cellB (g1.trans e1)
  have k2:=arr_cellB (g2.trans e2)
  have k3:=int_cellB (g3.trans e3)
  have k4:=arr_cellB (g4.trans e4)
  have k5:=int_cellB (g5.trans e5)
  have k6:=int_cellB (g6.trans e6)
  have k7:=int_cellB (g7.trans e7)
  intro j hj
  by_cases h0:j=0
  ·subst h0;exact k0
  by_cases h1:j≤12
  ·have:=k1 (j-1) (by omega);rwa[show 1+(j-1)=j by omega] at this
  by_cases h2:j≤24
  ·have:=k2 (j-13) (by omega);rwa[show 13+(j-13)=j by omega] at this
  by_cases h3:j=25
  ·subst h3;exact k3
  by_cases h4:j≤37
  ·have:=k4 (j-26) (by omega);rwa[show 26+(j-26)=j by omega] at this
  by_cases h5:j=38
  ·subst h5;exact k5
  by_cases h6:j=39
  ·subst h6;exact k6
  have h7:j=40:=by omega
  subst h7;exact k7
 have kf:∀ j:Nat,∃ m:Int,j < 41→cs.toList[j]?=some (.int .i64 m):=fun j=>by
  by_cases hj:j < 41
  ·obtain⟨m,hm⟩:=key j hj;exact⟨m,fun _=>hm⟩
  ·exact⟨0,fun h=>absurd h hj⟩
 obtain⟨f,hf2⟩:∃ f:Nat→Int,∀ j,j < 41→cs.toList[j]?=some (.int .i64 (f j)):=⟨fun j=>Classical.choose (kf j),fun j hj=>Classical.choose_spec (kf j) hj⟩
 have hcl:cs.toList.length=41:=by rw[Array.length_toList,hsz];kernel_rfl
 have e2:ctlL ⟨f 0,fun j=>f (1+j),fun j=>f (13+j),f 25,fun j=>f (26+j),f 38,f 39,f 40⟩=(List.range 41).map (fun j=>Value.int .i64 (f j)):=rfl
 have e:cs.toList=ctlL ⟨f 0,fun j=>f (1+j),fun j=>f (13+j),f 25,fun j=>f (26+j),f 38,f 39,f 40⟩:=by
  rw[e2]
  refine List.ext_getElem? (fun j=>?_)
  by_cases hj:j < 41
  ·rw[hf2 j hj,List.getElem?_map,List.getElem?_range hj];rfl
  ·rw[List.getElem?_eq_none (by rw[hcl];omega),List.getElem?_eq_none (by rw[List.length_map,List.length_range];omega)]
 refine⟨⟨f 0,fun j=>f (1+j),fun j=>f (13+j),f 25,fun j=>f (26+j),f 38,f 39,f 40⟩,?_⟩
 have e3:cs=(ctlL ⟨f 0,fun j=>f (1+j),fun j=>f (13+j),f 25,fun j=>f (26+j),f 38,f 39,f 40⟩).toArray:=by rw[←e]
 rw[e3]
 rfl
def ctl0:Value:=ctv ⟨0,fun _=>0,fun _=>0,0,fun _=>0,0,0,0⟩
def dat0 (H:Type):DataW H:=.agg [.lit (.int .i64 0),.agg [.lit (.int .i64 0),.lit (.int .i64 0),.lit (.int .i64 0),.lit (.int .i64 0),.lit (.int .i64 0),.lit (.int .i64 0),.lit (.int .i64 0),.lit (.int .i64 0),.lit (.int .i64 0),.lit (.int .i64 0),.lit (.int .i64 0),.lit (.int .i64 0)],.agg [.lit (.int .i64 0),.lit (.int .i64 0),.lit (.int .i64 0),.lit (.int .i64 0),.lit (.int .i64 0),.lit (.int .i64 0),.lit (.int .i64 0),.lit (.int .i64 0),.lit (.int .i64 0),.lit (.int .i64 0),.lit (.int .i64 0),.lit (.int .i64 0)],.lit (.int .i64 0),.agg [.lit (.int .i64 0),.lit (.int .i64 0),.lit (.int .i64 0),.lit (.int .i64 0),.lit (.int .i64 0),.lit (.int .i64 0),.lit (.int .i64 0),.lit (.int .i64 0),.lit (.int .i64 0),.lit (.int .i64 0),.lit (.int .i64 0),.lit (.int .i64 0)],.lit (.int .i64 0),.lit (.int .i64 0),.lit (.int .i64 0)]
end Go.Proofs.YtednaajanciabaaGreatDoor
