import Derived.Test.YtbomggfklfbnkaaGreatDoorKTrkS
import Derived.Test.YtbomggfklfbnkaaGreatDoorKOpenV
import Derived.ProofKit
import Derived.OpenShut
import Derived.Lib.SmallJoins
import Derived.Deep.Slices
set_option maxRecDepth 100000
set_option maxHeartbeats 8000000
set_option linter.unusedSimpArgs false
set_option linter.unusedVariables false
namespace Go.Proofs.YtbomggfklfbnkaaGreatDoor
open Go.RowKit Go.Grid Go.Maps Go.Sort Go.Shelf Go.Chain
def rdLen (r:Rep):Nat:=match r.rd with
 |.slice _ n _=>n
 |_=>0
def smallR (r:Rep):Bool:=decide (r.name.size≤40) && decide (rdLen r≤40)
def smallB (n:Nat) (l:List Rep):Bool:=decide (l.length≤n) && l.all smallR
theorem smallB_len {n:Nat} {l:List Rep} (h:smallB n l=true):l.length≤n∧∀ r∈l,r.name.size≤40∧rdLen r≤40:=by
 unfold smallB at h
 rw[Bool.and_eq_true,decide_eq_true_eq,List.all_eq_true] at h
 refine⟨h.1,fun r hr=>?_⟩
 have h2:=h.2 r hr
 unfold smallR at h2
 rw[Bool.and_eq_true,decide_eq_true_eq,decide_eq_true_eq] at h2
 exact h2
theorem small_any (r:Rep) (hr:RdOk r) (w:World):Calls Tryz.prog 27 #[rpv r] w fun e w'=>e=.returned (.bool (smallR r))∧Below w.heap.size w w':=by
 obtain⟨k,s,t,f,a,b,c,rd⟩:=r
 obtain⟨p,n,cp,hrd⟩:=hr
 dsimp only at hrd
 subst hrd
 have hb0:Below w.heap.size w (w.alloc (.cells (rpc ⟨k,s,t,f,a,b,c,.slice p n cp⟩).toArray 35)):=(zBr _ _).alloc (Nat.le_refl _) _
 unfold rpc at hb0
 dsimp only at hb0
 unfold rpv
 dsimp only
 have HB0:=zN hb0
 clear hb0
 have HS:Hid (smallR ⟨k,s,t,f,a,b,c,.slice p n cp⟩=(decide (s.size≤40) && decide (n≤40))):=zN rfl
 by_cases h1:s.size≤40
 ·by_cases h2:n≤40
  ·have d1:decide ((s.size:Int)≤40)=true:=zDt (by omega)
   have d2:decide ((n:Int)≤40)=true:=zDt (by omega)
   go_enter Tryz.func27,Tryz.ntmps27
   go_wp2
   go_ret
   refine⟨?_,HB0.out⟩
   rw[HS.out,zDt h1,zDt h2];rfl
  ·have d1:decide ((s.size:Int)≤40)=true:=zDt (by omega)
   have d2:decide ((n:Int)≤40)=false:=zDf (by omega)
   go_enter Tryz.func27,Tryz.ntmps27
   go_wp2
   go_ret
   refine⟨?_,HB0.out⟩
   rw[HS.out,zDt h1,zDf (by omega)];rfl
 ·have d1:decide ((s.size:Int)≤40)=false:=zDf (by omega)
  go_enter Tryz.func27,Tryz.ntmps27
  go_wp2
  go_ret
  refine⟨?_,HB0.out⟩
  rw[HS.out,zDf (by omega)];rfl
theorem smallAll_any (n:Nat) (p:Option Addr) (cap M:Nat) (l:List Rep) (hM:l.length=M) (hn:n≤1000) (w:World) (hV:VecR w p l) :
  Calls Tryz.prog 8 #[.slice p M cap,.int .i64 (n:Int)] w fun e w'=>e=.returned (.bool (smallB n l))∧Below w.heap.size w w':=by
 have HM:=zN hM
 have HV:=zN hV
 have hB0:=zN (zBr w.heap.size w)
 clear hM hV
 by_cases hl:n < M
 ·have hd:decide ((M:Int) > (n:Int))=true:=zDt (by omega)
  go_enter Tryz.func8,Tryz.ntmps8
  go_wp2
  go_ret
  refine⟨?_,hB0.out⟩
  unfold smallB
  rw[zDf (by have:=HM.out;omega)];rfl
 ·have hd:decide ((M:Int) > (n:Int))=false:=zDf (by omega)
  have HA:Hid (smallB n l=l.all smallR):=zN (by unfold smallB;rw[zDt (by have:=HM.out;omega),Bool.true_and])
  go_enter Tryz.func8,Tryz.ntmps8
  go_wp2
  go_loopw [5] (fun v5 wr=>∃ i:Nat,i≤M∧v5=.int .i64 (i:Int)∧Hid (∀ j (h:j < l.length),j < i→smallR l[j]=true)∧Below w.heap.size w wr) (fun v5 _=>M-(intOf v5).toNat)
  case atStart=>exact⟨0,by omega,rfl,zN (fun j _ h=>by omega),hB0.out⟩
  case round=>
   obtain⟨i,hiM,rfl,HI,hb⟩:=hrel
   by_cases hi:i < M
   ·have hdi:decide ((i:Int) < (M:Int))=true:=zDt (by omega)
    have hi0:(0:Int)≤(i:Int):=by omega
    have hi1:(i:Int) < (M:Int):=by omega
    obtain⟨bb,o,rfl,_,hrp⟩:=(HV.out.below hb).cell (by rw[HM.out];omega)
    have hri:=hrp i (by rw[HM.out];omega)
    obtain⟨r,hr⟩:∃ r,r=l[i]'(by rw[HM.out];omega):=⟨_,rfl⟩
    rw[←hr] at hri
    have HR:=zN hr
    have hrd:=hri.rd
    obtain⟨x0,x1,x2,x3,x4,x5,x6,x7,_⟩:=hri
    have HB:=zN hb
    clear hrp hr hb
    go_wp2_with fail
    refine (small_any r hrd _).mono ?_
    rintro e w2 ⟨rfl,hb2⟩
    have HB2:=zN (HB.out.trans (hb2.mono HB.out.size))
    clear hb2 x0 x1 x2 x3 x4 x5 x6 x7 hrd
    cases hs:smallR r
    ·have HF:Hid (smallB n l=false):=zN (by
      rw[HA.out,List.all_eq_false]
      exact⟨r,by rw[HR.out];exact List.getElem_mem _,by rw[hs];simp⟩)
     clear hs
     go_wp2
     go_ret
     exact⟨by rw[HF.out];rfl,HB2.out⟩
    ·have HS:=zN hs
     clear hs
     go_wp2
     go_roundw
     case rel=>exact⟨i+1,by omega,by go_num,zN (fun j hj hji=>by
      by_cases e:j=i
      ·subst e;rw[←HR.out];exact HS.out
      ·exact HI.out j hj (by omega)),HB2.out⟩
     case measure=>simp[intOf]<;>omega
   ·have hdi:decide ((i:Int) < (M:Int))=false:=zDf (by omega)
    have HT:Hid (smallB n l=true):=zN (by
     rw[HA.out,List.all_eq_true]
     intro r hr
     obtain⟨j,hj,rfl⟩:=List.getElem_of_mem hr
     exact HI.out j hj (by have:=HM.out;omega))
    have HB1:=zN hb
    clear hb HI
    go_wp2
    go_ret
    exact⟨by rw[HT.out];rfl,HB1.out⟩
open Go.ChangeShapes Go.WideShapes Go.ChangeAt Go.RowKit Go.Joins Go.Deep
def RdgIn (w:World) (p:Option Addr) (R:List (Int × Int)):Prop:=∃ b o,(0 < R.length→p=some ⟨b,o,none⟩)∧∀ k (h:k < R.length),w.cell? ⟨b,o+k*2,none⟩=some (.int .i64 R[k].1)∧w.cell? ⟨b,o+k*2+1,none⟩=some (.int .i64 R[k].2)
theorem cellsRdg:Tryz.prog.cellsOf 222=2:=by kernel_rfl
theorem cellsI1:Tryz.prog.cellsOf 3=1:=by kernel_rfl
theorem cellsStr:Tryz.prog.cellsOf 9=1:=by kernel_rfl
theorem cellsRds:Tryz.prog.cellsOf 33=1:=by kernel_rfl
theorem cellsPl4:Tryz.prog.cellsOf 32=4:=by kernel_rfl
theorem cellsRp:Tryz.prog.cellsOf 35=8:=by kernel_rfl
theorem gather {α:Type} (len:Nat) (Q:Nat→α→Prop) (h:∀ i,i < len→∃ x,Q i x):∃ l:List α,l.length=len∧∀ i (hi:i < l.length),Q i l[i]:=by
 induction len with
 |zero=>exact⟨[],rfl,fun i hi=>absurd hi (by simp)⟩
 |succ n ih=>
  obtain⟨l,hl,hq⟩:=ih (fun i hi=>h i (by omega))
  obtain⟨x,hx⟩:=h n (by omega)
  refine⟨l ++ [x],by simp[hl],fun i hi=>?_⟩
  by_cases e:i < l.length
  ·rw[List.getElem_append_left e];exact hq i e
  ·have e2:i=l.length:=by simp at hi;omega
   subst e2
   rw[List.getElem_append_right (Nat.le_refl _)]
   simp only[Nat.sub_self,List.getElem_cons_zero]
   rw[hl];exact hx
theorem add_none (ab ao k:Nat):(⟨ab,ao,none⟩:Addr).add k=⟨ab,ao+k,none⟩:=by
 unfold Addr.add
 by_cases h0:k=0<;>simp[h0]
variable {H:Type} {enc:TypeId × Value→H} {W:World}
theorem open_rdg {fuel:Nat} {cs:List Value} {x:DataW H × List MemPlace} (hf:DataW.trod enc Tryz.prog W 0 (fun _=>true) true fuel 33 cs=some x) :
  ∃ (pc:Option Addr) (cap:Nat) (S:List (Int × Int)),cs=[.slice pc S.length cap]∧S.length≤cap∧cap≤9223372036854775807∧RdgIn W pc S:=by
 rcases open_slice Tryz.underlying33 hf with ⟨rfl,hx⟩|⟨a,len,cap,m,n,D,Pl,rfl,_,hl,hm,hmm,hx,hel⟩
 ·exact⟨none,0,[],rfl,by simp,by omega,⟨0,0,by simp,fun k hk=>absurd hk (by simp)⟩⟩
 ·simp only[if_true] at hmm
  have hmax:maxLen≤9223372036854775807:=by decide
  have each:∀ i,i < len→∃ s:Int × Int,W.cell? (a.add (i*2+0))=some (.int .i64 s.1)∧W.cell? (a.add (i*2+1))=some (.int .i64 s.2):=by
   intro i hi
   obtain⟨cs',hc,ht⟩:=hel i (by omega)
   rw[cellsRdg] at hc
   obtain⟨y0,y1,n',hx',hln,h0,h1⟩:=trod_struct2 Tryz.underlying222 ht
   obtain⟨_,hcl,hcc⟩:=World.cells?_some hc
   match cs',hcl with
   |[q0,q1],_=>
    obtain⟨b0,e0,_,_⟩:=DataW.trod_int Tryz.underlying3 h0
    obtain⟨b1,e1,_,_⟩:=DataW.trod_int Tryz.underlying3 h1
    rw[cellsI1] at e0 e1
    simp at e0 e1
    subst e0 e1
    refine⟨(b0,b1),?_,?_⟩<;>rw[←Go.Deep.add_add]
    ·simpa using hcc 0 (by omega)
    ·simpa using hcc 1 (by omega)
  obtain⟨S,hS,hq⟩:=gather len _ each
  refine⟨some a,cap,S,by rw[hS],by omega,by omega,?_⟩
  by_cases h0:0 < len
  ·obtain⟨ab,ao,spot⟩:=a
   have hspot:spot=none:=by
    obtain⟨s,h1,_⟩:=each 0 h0
    simpa[Addr.add] using World.cell?_spot h1
   subst hspot
   refine⟨ab,ao,fun _=>rfl,fun k hk=>?_⟩
   have h1:=hq k hk
   simp only[add_none] at h1
   exact⟨by rw[←h1.1,Nat.add_zero],by rw[←h1.2,zQ]⟩
  ·exact⟨0,0,fun h=>absurd h (by omega),fun k hk=>absurd hk (by omega)⟩
def RdsOk (w:World) (r:Rep):Prop:=∃ q cap R,r.rd=.slice q R.length cap∧R.length≤cap∧cap≤9223372036854775807∧RdgIn w q R
theorem trod_struct5 {P:Program} {base:Nat} {spare:Nat→Bool} {held:Bool} {t:TypeId} {f0 f1 f2 f3 f4:Field} {fuel:Nat} {cs:List Value} {x:DataW H × List MemPlace} (ht:P.underlying t=some (.struct #[f0,f1,f2,f3,f4])) (h:DataW.trod enc P W base spare held fuel t cs=some x) :
  ∃ y0 y1 y2 y3 y4 n,cs.length=P.cellsOf t∧DataW.trod enc P W base spare held n f0.type ((cs.drop f0.offset).take (P.cellsOf f0.type))=some y0∧
   DataW.trod enc P W base spare held n f1.type ((cs.drop f1.offset).take (P.cellsOf f1.type))=some y1∧DataW.trod enc P W base spare held n f2.type ((cs.drop f2.offset).take (P.cellsOf f2.type))=some y2∧
   DataW.trod enc P W base spare held n f3.type ((cs.drop f3.offset).take (P.cellsOf f3.type))=some y3∧DataW.trod enc P W base spare held n f4.type ((cs.drop f4.offset).take (P.cellsOf f4.type))=some y4:=by
 obtain⟨xs,n,_,rfl,hl,hlen,hf⟩:=DataW.trod_struct ht h
 match xs,hlen with
 |[y0,y1,y2,y3,y4],_=>exact⟨y0,y1,y2,y3,y4,n,hl,by simpa using hf 0 f0 rfl,by simpa using hf 1 f1 rfl,by simpa using hf 2 f2 rfl,by simpa using hf 3 f3 rfl,by simpa using hf 4 f4 rfl⟩
theorem open_reps {r:Reach} {base:Nat} {v:Value} {d:DataW H} {p:List MemPlace} (hval:Value.okWide Tryz.prog W r base 22 v) (h:DataW.Trod enc Tryz.prog W 0 (fun _=>true) true 22 v d p) :
  ∃ (pc:Option Addr) (cap:Nat) (l:List Rep),v=.slice pc l.length cap∧l.length≤cap∧cap≤9223372036854775807∧VecR W pc l∧∀ r∈l,RdsOk W r∧r.name.size≤maxLen:=by
 obtain⟨a0,len0,cap0,rfl⟩:=okWide_slice Tryz.underlying22 hval
 obtain⟨fuel,hf⟩:=h
 rcases open_slice Tryz.underlying22 hf with ⟨hcs,hx⟩|⟨a,len,cap,m,n,D,Pl,hcs,_,hl,hm,hmm,hx,hel⟩
 ·simp[Value.cells] at hcs
  obtain⟨rfl,rfl,rfl⟩:=hcs
  exact⟨none,0,[],rfl,by simp,by omega,VecR.nil _ _,by simp⟩
 ·simp[Value.cells] at hcs
  obtain⟨rfl,rfl,rfl⟩:=hcs
  simp only[if_true] at hmm
  have hmax:maxLen≤9223372036854775807:=by decide
  have each:∀ i,i < len0→∃ r:Rep,(W.cell? (a.add (i*8+0))=some (.int .i64 r.kind)∧W.cell? (a.add (i*8+1))=some (.string r.name)∧W.cell? (a.add (i*8+2))=some (.int .i64 r.time)∧W.cell? (a.add (i*8+3))=some (.int .i64 r.f)∧
    W.cell? (a.add (i*8+4))=some (.int .i64 r.a)∧W.cell? (a.add (i*8+5))=some (.int .i64 r.b)∧W.cell? (a.add (i*8+6))=some (.int .i64 r.c)∧W.cell? (a.add (i*8+7))=some r.rd)∧RdsOk W r∧r.name.size≤maxLen:=by
   intro i hi
   obtain⟨cs',hc,ht⟩:=hel i (by omega)
   rw[cellsRp] at hc
   obtain⟨y0,y1,y2,y3,y4,n',hln,h0,h1,h2,h3,h4⟩:=trod_struct5 Tryz.underlying35 ht
   obtain⟨z0,z1,z2,z3,n'',hx',hln',g0,g1,g2,g3⟩:=trod_struct4 Tryz.underlying32 h3
   obtain⟨_,hcl,hcc⟩:=World.cells?_some hc
   match cs',hcl with
   |[q0,q1,q2,q3,q4,q5,q6,q7],_=>
    obtain⟨b0,e0,_,_⟩:=DataW.trod_int Tryz.underlying3 h0
    obtain⟨b1,e1,_,hsz⟩:=DataW.trod_string Tryz.underlying9 h1
    obtain⟨b2,e2,_,_⟩:=DataW.trod_int Tryz.underlying3 h2
    obtain⟨b3,e3,_,_⟩:=DataW.trod_int Tryz.underlying3 g0
    obtain⟨b4,e4,_,_⟩:=DataW.trod_int Tryz.underlying3 g1
    obtain⟨b5,e5,_,_⟩:=DataW.trod_int Tryz.underlying3 g2
    obtain⟨b6,e6,_,_⟩:=DataW.trod_int Tryz.underlying3 g3
    obtain⟨pq,cq,R,e7,hc7,hm7,hR⟩:=open_rdg h4
    rw[cellsI1] at e0 e2
    rw[cellsStr] at e1
    rw[cellsPl4,cellsI1] at e3 e4 e5 e6
    rw[cellsRds] at e7
    simp at e0 e1 e2 e3 e4 e5 e6 e7
    subst e0 e1 e2 e3 e4 e5 e6 e7
    refine⟨⟨b0,b1,b2,b3,b4,b5,b6,.slice pq R.length cq⟩,⟨?_,?_,?_,?_,?_,?_,?_,?_⟩,⟨pq,cq,R,rfl,hc7,hm7,hR⟩,hsz⟩<;>rw[←Go.Deep.add_add]
    ·simpa using hcc 0 (by omega)
    ·simpa using hcc 1 (by omega)
    ·simpa using hcc 2 (by omega)
    ·simpa using hcc 3 (by omega)
    ·simpa using hcc 4 (by omega)
    ·simpa using hcc 5 (by omega)
    ·simpa using hcc 6 (by omega)
    ·simpa using hcc 7 (by omega)
  obtain⟨l,hL,hq⟩:=gather len0 _ each
  refine⟨some a,cap0,l,by rw[hL],by omega,by omega,?_,fun r hr=>?_⟩
  ·by_cases h0:0 < len0
   ·obtain⟨ab,ao,spot⟩:=a
    have hspot:spot=none:=by
     obtain⟨s,⟨h1,_⟩,_⟩:=each 0 h0
     simpa[Addr.add] using World.cell?_spot h1
    subst hspot
    refine⟨ab,ao,fun _=>rfl,fun k hk=>?_⟩
    obtain⟨⟨h1,h2,h3,h4,h5,h6,h7,h8⟩,⟨q,c,R,h9,_⟩,_⟩:=hq k hk
    simp only[add_none] at h1 h2 h3 h4 h5 h6 h7 h8
    exact⟨by rw[←h1,Nat.add_zero],by rw[←h2,zQ],by rw[←h3,zQ],by rw[←h4,zQ],by rw[←h5,zQ],by rw[←h6,zQ],by rw[←h7,zQ],by rw[←h8,zQ],⟨_,_,_,h9⟩⟩
   ·exact⟨0,0,fun h=>absurd h (by omega),fun k hk=>absurd hk (by omega)⟩
  ·obtain⟨k,hk,rfl⟩:=List.mem_iff_getElem.1 hr
   exact⟨(hq k hk).2.1,(hq k hk).2.2⟩
end Go.Proofs.YtbomggfklfbnkaaGreatDoor
