import Derived.Test.YtednaajanciabaaGreatDoorKBCr
import Derived.Test.YtednaajanciabaaGreatDoorKBFl
import Derived.Test.YtednaajanciabaaGreatDoorBChk
import Derived.Test.YtednaajanciabaaGreatDoorKBCtl
set_option maxRecDepth 100000
set_option maxHeartbeats 8000000
set_option linter.unusedSimpArgs false
set_option linter.unusedVariables false
namespace Go.Proofs.YtednaajanciabaaGreatDoor
open Go.RowKit Go.Grid Go.Buddy
theorem exE_zero {L:List BR} (h1:∀ x∈L,valE x.2=0) (h2:∀ x∈L,vaB x.1=true):exE L=0:=by
 rw[exE_none (fun j hj=>h1 _ (List.getElem_mem hj)),if_neg]
 rw[Bool.not_eq_true,List.any_eq_false]
 intro x hx
 rw[h2 x hx];simp
theorem left_congr {P Q:Pan} (hn:P.n=Q.n) (hp:∀ i,i < P.n→P.pr i=Q.pr i) (hv:∀ i,P.val i=Q.val i) (hx:∀ i,i < P.n→P.nx i=Q.nx i) (hl:P.lim=Q.lim) {i:Nat} (hi:i < P.n):left P i=left Q i:=by
 cases h:left P i with
 |true=>exact (left_wider hn hp hv hx (by rw[hl];exact Int.le_refl _) h hi).symm
 |false=>
  cases h2:left Q i with
  |false=>rfl
  |true=>
   have:=left_wider hn.symm (fun j hj=>(hp j (by rw[hn];exact hj)).symm) (fun j=>(hv j).symm) (fun j hj=>(hx j (by rw[hn];exact hj)).symm) (by rw[hl];exact Int.le_refl _) h2 (by rw[←hn];exact hi)
   rw[h] at this
   cases this
def pan4 (z:List Int):Pan:=⟨4,fun i=>decide (i < 4),fun i=>z.getD i 0,fun i=>(List.range 4).filter (fun k=>decide (i≠k)),5⟩
theorem pan4_closed (z:List Int):closed (pan4 z):=fun i _ k hk=>List.mem_range.1 (List.mem_filter.1 hk).1
def z1:List Int:=[10100,10102,10101,10200]
def z2:List Int:=[10100,10103,10200,10202]
theorem lt4 {i:Nat} (h:i < 4):i=0∨i=1∨i=2∨i=3:=by omega
theorem left_z1 {i:Nat} (hi:i < 4):left (pan4 z1) i=decide (i < 3):=by
 have hs:stable (pan4 z1) (fun i=>decide (i < 3)):=by
  intro i hi h
  have h3:i < 3:=of_decide_eq_true h
  have hc:i=0∨i=1∨i=2:=by omega
  rcases hc with rfl|rfl|rfl<;>exact⟨rfl,rfl⟩
 by_cases h3:i < 3
 ·rw[zDt h3]
  exact left_iff.2 ⟨_,hs,zDt h3⟩
 ·rw[zDf h3]
  have e:i=3:=by omega
  subst e
  cases h:left (pan4 z1) 3 with
  |false=>rfl
  |true=>
   have h2:=(left_stable (pan4_closed z1) 3 (by decide) h).2
   exfalso
   have e:Go.Buddy.stands (pan4 z1) (left (pan4 z1)) 3=false:=by
    unfold Go.Buddy.stands
    have ea:agree (pan4 z1) 3 0=false∧agree (pan4 z1) 3 1=false∧agree (pan4 z1) 3 2=false:=⟨rfl,rfl,rfl⟩
    rw[show (pan4 z1).nx 3=[0,1,2] from rfl]
    simp[ea.1,ea.2.1,ea.2.2]
   rw[e] at h2
   cases h2
theorem left_z2 {i:Nat} (hi:i < 4):left (pan4 z2) i=false:=by
 cases h:left (pan4 z2) i with
 |false=>rfl
 |true=>
  have h2:=(left_stable (pan4_closed z2) i hi h).2
  exfalso
  have e:Go.Buddy.stands (pan4 z2) (left (pan4 z2)) i=false:=by
   unfold Go.Buddy.stands
   rcases lt4 hi with rfl|rfl|rfl|rfl
   ·rw[show (pan4 z2).nx 0=[1,2,3] from rfl]
    simp[show agree (pan4 z2) 0 2=false from rfl,show agree (pan4 z2) 0 3=false from rfl,List.filter_cons]
    split<;>simp
   ·rw[show (pan4 z2).nx 1=[0,2,3] from rfl]
    simp[show agree (pan4 z2) 1 2=false from rfl,show agree (pan4 z2) 1 3=false from rfl,List.filter_cons]
    split<;>simp
   ·rw[show (pan4 z2).nx 2=[0,1,3] from rfl]
    simp[show agree (pan4 z2) 2 0=false from rfl,show agree (pan4 z2) 2 1=false from rfl,List.filter_cons]
    split<;>simp
   ·rw[show (pan4 z2).nx 3=[0,1,2] from rfl]
    simp[show agree (pan4 z2) 3 0=false from rfl,show agree (pan4 z2) 3 1=false from rfl,List.filter_cons]
    split<;>simp
  rw[e] at h2
  cases h2
theorem fourN_ne {i k:Nat} (hi:i < 4) (hk:k < 4):(fourN i≠fourN k)↔i≠k:=by
 rcases lt4 hi with rfl|rfl|rfl|rfl<;>rcases lt4 hk with rfl|rfl|rfl|rfl<;>decide
theorem four_pan {L:List BR} {z:List Int} (hl:L.length=4) (hz:z.length=4) (h:∀ i (h:i < L.length),FourOk i (z.getD i 0) L[i]) {i:Nat} (hi:i < 4):left (panB 2 L 5 1) i=left (pan4 z) i:=by
 have hb:∀ j,j < 4→FourOk j (z.getD j 0) (bat L j):=fun j hj=>by rw[bat_eq (by omega)];exact h j (by omega)
 have hb2:∀ j,¬ j < 4→bat L j=(rep0,[]):=fun j hj=>by
  unfold bat
  rw[List.getD_eq_getElem?_getD,List.getElem?_eq_none (by omega)];rfl
 have hrd:∀ j,j < 4→fB (bat L j).2 ((1:Nat):Int)=true∧fV (bat L j).2 ((1:Nat):Int)=z.getD j 0:=fun j hj=>by
  rw[(hb j hj).rd]
  exact⟨rfl,rfl⟩
 have hclo:∀ i k,i < 4→k < 4→cloN 2 L i k=decide (i≠k):=fun i k hi hk=>by
  unfold cloN
  have hp:∀ j,j < 4→plB (bat L j).1=⟨0,840,0,0⟩:=fun j hj=>by
   unfold plB
   rw[(hb j hj).f,(hb j hj).a,(hb j hj).b,(hb j hj).c];rfl
  rw[hp i hi,hp k hk,(hb i hi).nm,(hb k hk).nm]
  have:cloB 2 (nodN 2 ⟨0,840,0,0⟩) (nodN 2 ⟨0,840,0,0⟩)=true:=by unfold cloB;simp
  rw[this,Bool.and_true,decide_eq_decide]
  exact fourN_ne hi hk
 refine left_congr (P:=panB 2 L 5 1) (Q:=pan4 z) hl (fun j hj=>?_) (fun j=>?_) (fun j hj=>?_) rfl (show i < (panB 2 L 5 1).n by show i < L.length;omega)
 ·have hj4:j < 4:=by rw[←hl];exact hj
  show fB (bat L j).2 ((1:Nat):Int)=decide (j < 4)
  rw[(hrd j hj4).1,zDt hj4]
 ·show fV (bat L j).2 ((1:Nat):Int)=z.getD j 0
  by_cases hj4:j < 4
  ·exact (hrd j hj4).2
  ·rw[hb2 j hj4,List.getD_eq_getElem?_getD,List.getElem?_eq_none (by omega)];rfl
 ·have hj4:j < 4:=by rw[←hl];exact hj
  show aroL 2 L ((1:Nat):Int) j=(List.range 4).filter (fun k=>decide (j≠k))
  unfold aroL
  rw[if_pos (hrd j hj4).1,hl]
  refine List.filter_congr fun k hk=>?_
  have hk4:=List.mem_range.1 hk
  unfold aroP
  rw[(hrd k hk4).1,hclo j k hj4 hk4];rfl
theorem flsA_congr {F G:Nat→Nat→Bool} {m:Nat} (h:∀ i,i < m→∀ e,e < 12→F e i=G e i):flsA F m=flsA G m:=by
 have key:∀ j,j≤m→flsA F j=flsA G j:=by
  intro j
  induction j with
  |zero=>intro _;rfl
  |succ j ih=>
   intro hj
   rw[flsA_succ,flsA_succ,ih (by omega)]
   congr 1
   unfold flsE
   congr 1
   refine List.filter_congr fun e he=>?_
   rw[h j (by omega) e (List.mem_range.1 he)]
 exact key m (Nat.le_refl _)
def kAwk:Ctl:=⟨0,fun _=>0,fun _=>0,0,fun j=>if j=1 then 5 else 0,2,0,0⟩
theorem four_val {L:List BR} {z:List Int} (h:∀ i (h:i < L.length),FourOk i (z.getD i 0) L[i]) (hz:∀ i,i < L.length→8000≤z.getD i 0∧z.getD i 0≤11000):(∀ x∈L,valE x.2=0)∧∀ x∈L,vaB x.1=true:=by
 refine⟨fun x hx=>?_,fun x hx=>?_⟩
 ·obtain⟨i,hi,rfl⟩:=List.getElem_of_mem hx
  rw[(h i hi).rd]
  refine valE_ok (fun y hy=>?_) (List.pairwise_singleton _ _)
  rw[List.mem_singleton.1 hy]
  refine⟨by unfold okC;show (1:Int)≤1∧(1:Int)≤11;decide,?_⟩
  have:=hz i hi
  unfold bnd
  simpa using this
 ·obtain⟨i,hi,rfl⟩:=List.getElem_of_mem hx
  unfold vaB validB
  rw[(h i hi).f,(h i hi).a,(h i hi).b,(h i hi).c]
  rfl
theorem chkE_awk {L:List BR} (h1:∀ x∈L,valE x.2=0) (h2:∀ x∈L,vaB x.1=true):chkE kAwk L=0:=by
 unfold chkE
 rw[if_pos ⟨⟨by decide,by decide⟩,rfl⟩]
 exact exE_zero h1 h2
theorem chkL_awk {L:List BR} {z:List Int} (hl:L.length=4) (hz:z.length=4) (h:∀ i (h:i < L.length),FourOk i (z.getD i 0) L[i]) (hb:∀ i,i < L.length→8000≤z.getD i 0∧z.getD i 0≤11000) :
  chkL kAwk L=flsA (fun e i=>decide (e=1) && !left (pan4 z) i) 4:=by
 obtain⟨h1,h2⟩:=four_val h hb
 unfold chkL
 rw[if_pos (chkE_awk h1 h2)]
 show sort2 (outC 2 L (fun j=>if j=1 then 5 else 0) 12)=_
 rw[←flsA_sort h1,hl]
 refine flsA_congr fun i hi e he=>?_
 unfold badF
 by_cases e1:e=1
 ·subst e1
  have hp:(panB 2 L 5 1).pr i=true:=by
   show fB (bat L i).2 ((1:Nat):Int)=true
   rw[bat_eq (by omega),(h i (by omega)).rd];rfl
  show (!((5:Int) == 0) && rej (panB 2 L 5 1) i)=_
  unfold rej
  rw[hp,four_pan hl hz h hi]
  rfl
 ·show (!((if e=1 then (5:Int) else 0) == 0) && rej (panB 2 L (if e=1 then 5 else 0) e) i)=_
  rw[if_neg e1,zDf e1]
  rfl
theorem awk1 {L:List BR} (hl:L.length=4) (h:∀ i (h:i < L.length),FourOk i (z1.getD i 0) L[i]):chkE kAwk L=0∧chkL kAwk L=[(3,1)]:=by
 have hb:∀ i,i < L.length→8000≤z1.getD i 0∧z1.getD i 0≤11000:=fun i hi=>by
  rw[hl] at hi
  rcases lt4 hi with rfl|rfl|rfl|rfl<;>decide
 obtain⟨h1,h2⟩:=four_val h hb
 refine⟨chkE_awk h1 h2,?_⟩
 rw[chkL_awk hl rfl h hb,flsA_congr (G:=fun e i=>decide (e=1) && !decide (i < 3)) (fun i hi e _=>by rw[left_z1 hi])]
 rfl
theorem awk2 {L:List BR} (hl:L.length=4) (h:∀ i (h:i < L.length),FourOk i (z2.getD i 0) L[i]):chkE kAwk L=0∧(chkL kAwk L).length=4:=by
 have hb:∀ i,i < L.length→8000≤z2.getD i 0∧z2.getD i 0≤11000:=fun i hi=>by
  rw[hl] at hi
  rcases lt4 hi with rfl|rfl|rfl|rfl<;>decide
 obtain⟨h1,h2⟩:=four_val h hb
 refine⟨chkE_awk h1 h2,?_⟩
 rw[chkL_awk hl rfl h hb,flsA_congr (G:=fun e i=>decide (e=1)) (fun i hi e _=>by rw[left_z2 hi];simp)]
 rfl
theorem FlAt.slice {w:World} {v:Value} {F:List I2} (h:FlAt w v F):∃ p cap,v=.slice p F.length cap∧F.length≤cap:=by
 obtain⟨b,o,p,cap,e,hc,_⟩:=h.ex
 exact⟨p,cap,e,hc⟩
theorem FlAt.cell {w:World} {F:List I2} {p:Option Addr} {n cap:Nat} (h:FlAt w (.slice p n cap) F) (h0:0 < F.length):∃ b o,p=some ⟨b,o,none⟩∧b < w.heap.size∧∀ k (h:k < F.length),w.cell? ⟨b,o+k*3,none⟩=some (.int .i64 F[k].1)∧w.cell? ⟨b,o+k*3+1,none⟩=some (.int .i64 F[k].2)∧w.cell? ⟨b,o+k*3+2,none⟩=some (.int .i64 6):=by
 obtain⟨b,o,p',cap',e,hc,hp,hs⟩:=h.ex
 injection e with e1 e2 e3
 subst e1
 exact⟨b,o,hp h0,zM w _ (hs 0 h0).1,hs⟩
theorem flags_any (va vb:Value) (F G:List I2) (w:World) (hA:FlAt w va F) (hB:FlAt w vb G) (hF:F.length≤1000000000) (hG:G.length≤1000000000) :
  Calls Tryz.prog 21 #[va,vb] w fun e w'=>e=.returned (.bool (decide (F=G)))∧Below w.heap.size w w':=by
 obtain⟨pa,ca,rfl,hca⟩:=hA.slice
 obtain⟨pb,cb,rfl,hcb⟩:=hB.slice
 have HA:=zN hA
 have HB:=zN hB
 obtain⟨nf,hnf⟩:∃ n,n=F.length:=⟨_,rfl⟩
 obtain⟨ng,hng⟩:∃ n,n=G.length:=⟨_,rfl⟩
 rw[←hnf] at hF HA ⊢
 rw[←hng] at hG HB ⊢
 have HNF:=zN hnf.symm
 have HNG:=zN hng.symm
 clear hA hB hca hcb hnf hng
 by_cases hl:nf=ng
 rotate_left
 ·have hlb:((nf:Int) != (ng:Int))=true:=by rw[bne_iff_ne];omega
  have HR:Hid (decide (F=G)=false):=zN (zDf (fun e=>hl (by rw[←HNF.out,←HNG.out,e])))
  clear hl
  go_enter Tryz.func21,Tryz.ntmps21
  go_wp2
  go_ret
  exact⟨by rw[HR.out];rfl,zBr _ _⟩
 ·subst hl
  go_enter Tryz.func21,Tryz.ntmps21
  go_wp2
  go_loopw [5] (fun v5 wr=>∃ k:Nat,k≤nf∧v5=.int .i64 (k:Int)∧Hid (∀ j,j < k→F[j]?=G[j]?)∧Hid (Below w.heap.size w wr)) (fun v5 _=>nf-(intOf v5).toNat)
  case atStart=>exact⟨0,by omega,rfl,zN (fun j hj=>by omega),zN (zBr _ _)⟩
  case round=>
   obtain⟨k,hkn,rfl,HE,HBW⟩:=hrel
   by_cases hk:k < nf
   ·have hdk:decide ((k:Int) < (nf:Int))=true:=zDt (by omega)
    have hk0:(0:Int)≤(k:Int):=by omega
    have hk1:(k:Int) < (nf:Int):=by omega
    have hkF:k < F.length:=by rw[HNF.out];exact hk
    have hkG:k < G.length:=by rw[HNG.out];exact hk
    obtain⟨ba,oa,rfl,_,hsa⟩:=HA.out.cell (by omega)
    obtain⟨bb,ob,rfl,_,hsb⟩:=HB.out.cell (by omega)
    have hbd:=HBW.out.drew
    obtain⟨a0,a1,a2⟩:=hsa k hkF
    obtain⟨b0,b1,b2⟩:=hsb k hkG
    have x0:=zP hbd a0
    have x1:=zP hbd a1
    have x2:=zP hbd a2
    have y0:=zP hbd b0
    have y1:=zP hbd b1
    have y2:=zP hbd b2
    have hFk:F[k]?=some F[k]:=List.getElem?_eq_getElem hkF
    have hGk:G[k]?=some G[k]:=List.getElem?_eq_getElem hkG
    obtain⟨f,hf⟩:∃ f,f=F[k]:=⟨_,rfl⟩
    obtain⟨g,hg⟩:∃ g,g=G[k]:=⟨_,rfl⟩
    rw[←hf] at x0 x1 hFk
    rw[←hg] at y0 y1 hGk
    have HFK:=zN hFk
    have HGK:=zN hGk
    have hSS:=And.intro x0 (And.intro x1 (And.intro x2 (And.intro y0 (And.intro y1 y2))))
    have HBD:=zN hbd
    clear hsa hsb a0 a1 a2 b0 b1 b2 x0 x1 x2 y0 y1 y2 hf hg hFk hGk hbd HBW
    by_cases h1:f.1=g.1
    ·by_cases h2:f.2=g.2
     ·have HN:Hid (∀ j,j < k+1→F[j]?=G[j]?):=zN (fun j hj=>by
       by_cases e:j=k
       ·subst e
        rw[HFK.out,HGK.out]
        congr 1
        exact Prod.ext h1 h2
       ·exact HE.out j (by omega))
      rw[h1,h2] at hSS
      clear h1 h2
      go_wp2_with fail
      refine RX.region RX.fN (fun w'=>w'=wr.drew) (by kernel_rfl) (by kernel_rfl) (rfl) (fun OPS HO QR hQR=>?_)
      repeat (refine zeX (fun R hR=>?_);(first|refine zaX (by first|rfl|(rw[HO.out];rfl)) (by simp only[zA,zB,zC,zD];rfl) ?_|refine zbX (by first|rfl|(rw[HO.out];rfl)) rfl (by first|exact .inl rfl|exact .inr rfl) (by simp only[zE,zF,zG,zH];rfl) (by simp only[zA,zB,zC,zD];rfl) ?_|refine zcX (by first|rfl|(rw[HO.out];rfl)) rfl rfl (by simp only[zE,zF,zG,zH];rfl) (by simp only[zA,zB,zC,zD];rfl) ?_|(refine zdX (by first|rfl|(rw[HO.out];rfl)) rfl rfl rfl ?_;apply zEx;apply zEx;refine⟨fun w' hS K hK=>?_,?_,?_⟩;(focus ((subst hS;obtain⟨x0,x1,x2,y0,y1,y2⟩:=hSS);go_wp2;exact hK _ _ (by simp only[zl,zG,zH];first|exact zf (by omega)|exact zg (by omega)|exact zh (by omega)|exact zi (by omega)|exact zj (by omega)|exact zk (by omega)|exact RX.bneB _|rfl) rfl));(focus (simp only[zA,zB,zC,zD];rfl))));refine hR _ _ ?_;clear hR R)
      refine RX.wpL_nil (hQR _ _ (rfl) ?_);clear hQR QR HO OPS
      clear hSS
      go_wp2
      go_roundw
      case rel=>exact⟨k+1,by omega,by go_num,HN,HBD⟩
      case measure=>simp[intOf]<;>omega
     ·have HR:Hid (decide (F=G)=false):=zN (zDf (fun e=>h2 (by
       have h:=HFK.out
       rw[e,HGK.out] at h
       injection h with h
       rw[h])))
      have hb2:(f.2 == g.2)=false:=beq_eq_false_iff_ne.2 h2
      have hc2:(f.2 != g.2)=true:=bne_iff_ne.2 h2
      rw[h1] at hSS
      clear h1 h2
      go_wp2_with fail
      refine RX.region RX.fN (fun w'=>w'=wr.drew) (by kernel_rfl) (by kernel_rfl) (rfl) (fun OPS HO QR hQR=>?_)
      repeat (refine zeX (fun R hR=>?_);(first|refine zaX (by first|rfl|(rw[HO.out];rfl)) (by simp only[zA,zB,zC,zD];rfl) ?_|refine zbX (by first|rfl|(rw[HO.out];rfl)) rfl (by first|exact .inl rfl|exact .inr rfl) (by simp only[zE,zF,zG,zH];rfl) (by simp only[zA,zB,zC,zD];rfl) ?_|refine zcX (by first|rfl|(rw[HO.out];rfl)) rfl rfl (by simp only[zE,zF,zG,zH];rfl) (by simp only[zA,zB,zC,zD];rfl) ?_|(refine zdX (by first|rfl|(rw[HO.out];rfl)) rfl rfl rfl ?_;apply zEx;apply zEx;refine⟨fun w' hS K hK=>?_,?_,?_⟩;(focus ((subst hS;obtain⟨x0,x1,x2,y0,y1,y2⟩:=hSS);go_wp2;exact hK _ _ (by simp only[zl,zG,zH];first|exact zf (by omega)|exact zg (by omega)|exact zh (by omega)|exact zi (by omega)|exact zj (by omega)|exact zk (by omega)|exact RX.bneB _|rfl) rfl));(focus (simp only[zA,zB,zC,zD];rfl))));refine hR _ _ ?_;clear hR R)
      refine RX.wpL_nil (hQR _ _ (rfl) ?_);clear hQR QR HO OPS
      clear hSS
      go_wp2
      go_ret
      exact⟨by rw[HR.out];rfl,HBD.out⟩
    ·have HR:Hid (decide (F=G)=false):=zN (zDf (fun e=>h1 (by
      have h:=HFK.out
      rw[e,HGK.out] at h
      injection h with h
      rw[h])))
     have hb2:(f.1 == g.1)=false:=beq_eq_false_iff_ne.2 h1
     have hc2:(f.1 != g.1)=true:=bne_iff_ne.2 h1
     clear h1
     go_wp2_with fail
     refine RX.region RX.fN (fun w'=>w'=wr.drew) (by kernel_rfl) (by kernel_rfl) (rfl) (fun OPS HO QR hQR=>?_)
     repeat (refine zeX (fun R hR=>?_);(first|refine zaX (by first|rfl|(rw[HO.out];rfl)) (by simp only[zA,zB,zC,zD];rfl) ?_|refine zbX (by first|rfl|(rw[HO.out];rfl)) rfl (by first|exact .inl rfl|exact .inr rfl) (by simp only[zE,zF,zG,zH];rfl) (by simp only[zA,zB,zC,zD];rfl) ?_|refine zcX (by first|rfl|(rw[HO.out];rfl)) rfl rfl (by simp only[zE,zF,zG,zH];rfl) (by simp only[zA,zB,zC,zD];rfl) ?_|(refine zdX (by first|rfl|(rw[HO.out];rfl)) rfl rfl rfl ?_;apply zEx;apply zEx;refine⟨fun w' hS K hK=>?_,?_,?_⟩;(focus ((subst hS;obtain⟨x0,x1,x2,y0,y1,y2⟩:=hSS);go_wp2;exact hK _ _ (by simp only[zl,zG,zH];first|exact zf (by omega)|exact zg (by omega)|exact zh (by omega)|exact zi (by omega)|exact zj (by omega)|exact zk (by omega)|exact RX.bneB _|rfl) rfl));(focus (simp only[zA,zB,zC,zD];rfl))));refine hR _ _ ?_;clear hR R)
     refine RX.wpL_nil (hQR _ _ (rfl) ?_);clear hQR QR HO OPS
     clear hSS
     go_wp2
     go_ret
     exact⟨by rw[HR.out];rfl,HBD.out⟩
   ·have hdk:decide ((k:Int) < (nf:Int))=false:=zDf (by omega)
    obtain rfl:k=nf:=by omega
    have HR:Hid (decide (F=G)=true):=zN (zDt (List.ext_getElem? fun j=>by
     by_cases hj:j < k
     ·exact HE.out j hj
     ·rw[List.getElem?_eq_none (by rw[HNF.out];omega),List.getElem?_eq_none (by rw[HNG.out];omega)]))
    go_wp2
    go_ret
    exact⟨by rw[HR.out];rfl,HBW.out⟩
def kA0:Ctl:=⟨0,fun _=>0,fun _=>0,0,fun _=>0,2,0,0⟩
theorem chk_agg (va:Value) (L:List BR) (w:World) (base:Nat) (h:CrRow w base va L) (hm5:L.length≤50000) (k:Ctl) (hT:HasTab w) (hB:HasBnd w) :
  Calls Tryz.prog 12 #[va,ctv k] w fun e w'=>∃ p cap,e=.returned (.tuple #[.slice p (chkL k L).length cap,.int .i64 (chkE k L)])∧Below w.heap.size w w'∧FlAt w' (.slice p (chkL k L).length cap) (chkL k L):=by
 obtain⟨p,cap,rfl,hc,hV,_⟩:=h.form
 refine (bcheck_any p cap L.length L rfl hm5 k w hT hB hV).mono ?_
 rintro e w' ⟨v,rfl,hb,hF⟩
 obtain⟨q,c2,rfl,_⟩:=hF.slice
 exact⟨q,c2,rfl,hb,hF⟩
theorem awake18_any (w:World) (hT:HasTab w) (hB:HasBnd w):Calls Tryz.prog 17 #[] w fun e w'=>e=.returned (.bool true)∧Below w.heap.size w w':=by
 have HT:=zN hT
 have HB:=zN hB
 have HZN:=zN (CtlAt.new w ⟨0,fun _=>0,fun _=>0,0,fun _=>0,0,0,0⟩)
 have HBN:Hid (Below w.heap.size w (w.alloc (.cells #[.int .i64 0,.int .i64 0,.int .i64 0,.int .i64 0,.int .i64 0,.int .i64 0,.int .i64 0,.int .i64 0,.int .i64 0,.int .i64 0,.int .i64 0,.int .i64 0,.int .i64 0,.int .i64 0,.int .i64 0,.int .i64 0,.int .i64 0,.int .i64 0,.int .i64 0,.int .i64 0,.int .i64 0,.int .i64 0,.int .i64 0,.int .i64 0,.int .i64 0,.int .i64 0,.int .i64 0,.int .i64 0,.int .i64 0,.int .i64 0,.int .i64 0,.int .i64 0,.int .i64 0,.int .i64 0,.int .i64 0,.int .i64 0,.int .i64 0,.int .i64 0,.int .i64 0,.int .i64 0,.int .i64 0] 29))):=zN ((zBr _ _).alloc (Nat.le_refl _) _)
 clear hT hB
 go_enter Tryz.func17,Tryz.ntmps17
 go_wp2_with (refine wpl_storeC (by rfl) (.tmp 1) (.tmp 6) (by rfl) w.heap.size _ kA0 (by rfl) (by rfl) HZN.out ?_;refine Hid.out ?_)
 refine zN ?_
 have HC1:Hid (CtlAt ((w.alloc (.cells #[.int .i64 0,.int .i64 0,.int .i64 0,.int .i64 0,.int .i64 0,.int .i64 0,.int .i64 0,.int .i64 0,.int .i64 0,.int .i64 0,.int .i64 0,.int .i64 0,.int .i64 0,.int .i64 0,.int .i64 0,.int .i64 0,.int .i64 0,.int .i64 0,.int .i64 0,.int .i64 0,.int .i64 0,.int .i64 0,.int .i64 0,.int .i64 0,.int .i64 0,.int .i64 0,.int .i64 0,.int .i64 0,.int .i64 0,.int .i64 0,.int .i64 0,.int .i64 0,.int .i64 0,.int .i64 0,.int .i64 0,.int .i64 0,.int .i64 0,.int .i64 0,.int .i64 0,.int .i64 0,.int .i64 0] 29)).setCells w.heap.size 0 (ctlL kA0)) w.heap.size kA0):=zN (HZN.out.store kA0)
 have HB1:Hid (Below w.heap.size w ((w.alloc (.cells #[.int .i64 0,.int .i64 0,.int .i64 0,.int .i64 0,.int .i64 0,.int .i64 0,.int .i64 0,.int .i64 0,.int .i64 0,.int .i64 0,.int .i64 0,.int .i64 0,.int .i64 0,.int .i64 0,.int .i64 0,.int .i64 0,.int .i64 0,.int .i64 0,.int .i64 0,.int .i64 0,.int .i64 0,.int .i64 0,.int .i64 0,.int .i64 0,.int .i64 0,.int .i64 0,.int .i64 0,.int .i64 0,.int .i64 0,.int .i64 0,.int .i64 0,.int .i64 0,.int .i64 0,.int .i64 0,.int .i64 0,.int .i64 0,.int .i64 0,.int .i64 0,.int .i64 0,.int .i64 0,.int .i64 0] 29)).setCells w.heap.size 0 (ctlL kA0))):=zN (below_setC HBN.out (Nat.le_refl _) _)
 generalize ((w.alloc (.cells #[.int .i64 0,.int .i64 0,.int .i64 0,.int .i64 0,.int .i64 0,.int .i64 0,.int .i64 0,.int .i64 0,.int .i64 0,.int .i64 0,.int .i64 0,.int .i64 0,.int .i64 0,.int .i64 0,.int .i64 0,.int .i64 0,.int .i64 0,.int .i64 0,.int .i64 0,.int .i64 0,.int .i64 0,.int .i64 0,.int .i64 0,.int .i64 0,.int .i64 0,.int .i64 0,.int .i64 0,.int .i64 0,.int .i64 0,.int .i64 0,.int .i64 0,.int .i64 0,.int .i64 0,.int .i64 0,.int .i64 0,.int .i64 0,.int .i64 0,.int .i64 0,.int .i64 0,.int .i64 0,.int .i64 0] 29)).setCells w.heap.size 0 (ctlL kA0))=W1 at *
 have y0:W1.cell? ⟨w.heap.size,27,none⟩=some (.int .i64 0):=HC1.out.bd 1 (by decide)
 have y1:=HC1.out.fz 27
 have HC2:Hid (CtlAt (W1.setCell ⟨w.heap.size,27,none⟩ (.int .i64 5)) w.heap.size kAwk):=zN (HC1.out.set_bd (c:=1) (by decide) 5)
 have HB2:Hid (Below w.heap.size w (W1.setCell ⟨w.heap.size,27,none⟩ (.int .i64 5))):=zN (zBs HB1.out (Nat.le_refl _) _)
 clear HZN HBN HC1 HB1
 go_upto_region 3 with fail
 clear y0 y1
 generalize (W1.setCell ⟨w.heap.size,27,none⟩ (.int .i64 5))=W2 at *
 obtain⟨RB,hRB⟩:∃ RB,RB=w.heap.size:=⟨_,rfl⟩
 rw[←hRB] at HC2 ⊢
 have HRB:=zN hRB
 clear hRB
 have HCD3:=zN (HC2.out.below (zBd (zBr W2.heap.size W2)))
 have hcd:=HCD3.out
 have hRl:=HCD3.out.lt
 go_wp2_with fail
 refine RX.region RX.fL (fun w'=>CtlAt w' RB kAwk) (by kernel_rfl) (by kernel_rfl) (hcd) (fun OPS HO QR hQR=>?_)
 refine zeX (fun R hR=>?_)
 refine zgX (by first|rfl|(rw[HO.out];rfl)) rfl (fun K hK=>?_)
 go_wp2
 refine⟨(hcd.below ((zBr _ _).alloc (Nat.le_refl _) _)),hR _ _ ?_⟩;clear hR R
 refine zeX (fun R hR=>?_)
 refine zgX (by first|rfl|(rw[HO.out];rfl)) rfl (fun K hK=>?_)
 go_wp2_with fail
 refine (four_any _ W2.heap.size 4 4 [10100,10102,10101,10200] rfl (by omega) (fun j hj=>by
  match j,hj with
  |0,_=>exact (by simp[zO,zJ,zQ])
  |1,_=>exact (by simp[zO,zJ,zQ])
  |2,_=>exact (by simp[zO,zJ,zQ])
  |3,_=>exact (by simp[zO,zJ,zQ])
  |j+4,hj=>simp at hj<;>omega) (by simp)).mono ?_
 rintro e w3 ⟨v3,L3,rfl,hrow,hl3,hf3,hb3⟩
 have hbd:Below W2.heap.size W2 w3:=((zBd (zBr _ _)).alloc (Nat.le_refl _) _).trans (hb3.mono (by simp))
 have hc3:=HC2.out.below hbd
 have HA3:=zN (awk1 hl3 hf3)
 have HB3:=zN (HB2.out.trans (hbd.mono HB2.out.size))
 have HCK3:=zN (chk_agg v3 L3 w3 _ hrow (by omega) kAwk (HT.out.below HB3.out) (HB.out.below HB3.out))
 obtain⟨pv,cv,rfl,_⟩:=hrow.form
 clear hrow hf3 hb3 hbd hcd HCD3 hl3
 refine hK _ _ ⟨hc3,hR _ _ ?_⟩;clear hK K hR R
 refine zeX (fun R hR=>?_)
 refine zdX (by first|rfl|(rw[HO.out];rfl)) rfl rfl rfl ?_
 apply zEx;apply zEx
 refine⟨fun w' hS K hK=>?_,?_,?_⟩
 ·(refine wp_loadC (.tmp 1) rfl RB kAwk rfl hS ?_;exact hK _ _ rfl rfl)
 ·simp only[RX.put_some,RX.put_none,List.set_cons_zero,List.set_cons_succ];rfl
 refine hR _ _ ?_;clear hR R
 refine zeX (fun R hR=>?_)
 refine zgX (by first|rfl|(rw[HO.out];rfl)) rfl (fun K hK=>?_)
 go_wp2_with fail
 refine HCK3.out.mono ?_
 rintro e w3b ⟨pf3,cf3,rfl,hbc,hF3⟩
 have hc3b:=hc3.below hbc
 have HC3:=zN hc3b
 have HFL3:=zN hF3
 have HBc3:=zN (HB3.out.trans (hbc.mono HB3.out.size))
 clear HCK3 hc3 HC2 HB3
 rw[HA3.out.1,HA3.out.2]
 rw[HA3.out.2] at HFL3
 clear hF3 hbc hRl
 refine hK _ _ ⟨hc3b,hR _ _ ?_⟩;clear hK K hR R
 repeat (refine zeX (fun R hR=>?_);(first|refine zaX (by first|rfl|(rw[HO.out];rfl)) (by simp only[zA,zB,zC,zD];rfl) ?_|refine zbX (by first|rfl|(rw[HO.out];rfl)) rfl (by first|exact .inl rfl|exact .inr rfl) (by simp only[zE,zF,zG,zH];rfl) (by simp only[zA,zB,zC,zD];rfl) ?_|refine zcX (by first|rfl|(rw[HO.out];rfl)) rfl rfl (by simp only[zE,zF,zG,zH];rfl) (by simp only[zA,zB,zC,zD];rfl) ?_|(refine zdX (by first|rfl|(rw[HO.out];rfl)) rfl rfl rfl ?_;apply zEx;apply zEx;refine⟨fun w' hS K hK=>?_,?_,?_⟩;(focus (skip;go_wp2;exact hK _ _ (by simp only[zl,zG,zH];first|exact zf (by omega)|exact zg (by omega)|exact zh (by omega)|exact zi (by omega)|exact zj (by omega)|exact zk (by omega)|exact RX.bneB _|rfl) rfl));(focus (simp only[zA,zB,zC,zD];rfl))));refine hR _ _ ?_;clear hR R)
 refine RX.wpL_nil (hQR _ _ (hc3b) ?_);clear hQR QR HO OPS
 clear hc3b
 generalize w3b=W5 at *
 have HB5:=HBc3
 have HC5:=HC3
 clear HBc3 HC3
 have HCD6:=zN (HC5.out.below (zBd (zBr W5.heap.size W5)))
 have hcd:=HCD6.out
 have hRl:=HCD6.out.lt
 go_wp2_with fail
 refine RX.region RX.fL (fun w'=>CtlAt w' RB kAwk) (by kernel_rfl) (by kernel_rfl) (hcd) (fun OPS HO QR hQR=>?_)
 refine zeX (fun R hR=>?_)
 refine zgX (by first|rfl|(rw[HO.out];rfl)) rfl (fun K hK=>?_)
 go_wp2
 refine⟨(hcd.below ((zBr _ _).alloc (Nat.le_refl _) _)),hR _ _ ?_⟩;clear hR R
 refine zeX (fun R hR=>?_)
 refine zgX (by first|rfl|(rw[HO.out];rfl)) rfl (fun K hK=>?_)
 go_wp2_with fail
 refine (four_any _ W5.heap.size 4 4 [10100,10103,10200,10202] rfl (by omega) (fun j hj=>by
  match j,hj with
  |0,_=>exact (by simp[zO,zJ,zQ])
  |1,_=>exact (by simp[zO,zJ,zQ])
  |2,_=>exact (by simp[zO,zJ,zQ])
  |3,_=>exact (by simp[zO,zJ,zQ])
  |j+4,hj=>simp at hj<;>omega) (by simp)).mono ?_
 rintro e w6 ⟨v6,L6,rfl,hrow,hl6,hf6,hb6⟩
 have hbd:Below W5.heap.size W5 w6:=((zBd (zBr _ _)).alloc (Nat.le_refl _) _).trans (hb6.mono (by simp))
 have hc6:=HC5.out.below hbd
 have HBW6:=zN hbd
 have HA6:=zN (awk2 hl6 hf6)
 have HB6:=zN (HB5.out.trans (hbd.mono HB5.out.size))
 have HCK6:=zN (chk_agg v6 L6 w6 _ hrow (by omega) kAwk (HT.out.below HB6.out) (HB.out.below HB6.out))
 obtain⟨pv,cv,rfl,_⟩:=hrow.form
 clear hrow hf6 hb6 hbd hcd HCD6 hl6
 refine hK _ _ ⟨hc6,hR _ _ ?_⟩;clear hK K hR R
 refine zeX (fun R hR=>?_)
 refine zdX (by first|rfl|(rw[HO.out];rfl)) rfl rfl rfl ?_
 apply zEx;apply zEx
 refine⟨fun w' hS K hK=>?_,?_,?_⟩
 ·(refine wp_loadC (.tmp 1) rfl RB kAwk rfl hS ?_;exact hK _ _ rfl rfl)
 ·simp only[RX.put_some,RX.put_none,List.set_cons_zero,List.set_cons_succ];rfl
 refine hR _ _ ?_;clear hR R
 refine zeX (fun R hR=>?_)
 refine zgX (by first|rfl|(rw[HO.out];rfl)) rfl (fun K hK=>?_)
 go_wp2_with fail
 refine HCK6.out.mono ?_
 rintro e w6b ⟨pf6,cf6,rfl,hbc,hF6⟩
 have hc6b:=hc6.below hbc
 have HC6:=zN hc6b
 have HFL6:=zN hF6
 have HBc6:=zN (HB6.out.trans (hbc.mono HB6.out.size))
 have HBX6:Hid (Below W5.heap.size W5 w6b):=zN (HBW6.out.trans (hbc.mono HBW6.out.size))
 clear HCK6 hc6 HC5 HB6
 rw[HA6.out.1,HA6.out.2]
 rw[HA6.out.2] at HFL6
 have HFL3b:=zN ((HFL3.out.below (HBX6.out)))
 clear hF6 hbc hRl
 refine hK _ _ ⟨hc6b,hR _ _ ?_⟩;clear hK K hR R
 repeat (refine zeX (fun R hR=>?_);(first|refine zaX (by first|rfl|(rw[HO.out];rfl)) (by simp only[zA,zB,zC,zD];rfl) ?_|refine zbX (by first|rfl|(rw[HO.out];rfl)) rfl (by first|exact .inl rfl|exact .inr rfl) (by simp only[zE,zF,zG,zH];rfl) (by simp only[zA,zB,zC,zD];rfl) ?_|refine zcX (by first|rfl|(rw[HO.out];rfl)) rfl rfl (by simp only[zE,zF,zG,zH];rfl) (by simp only[zA,zB,zC,zD];rfl) ?_|(refine zdX (by first|rfl|(rw[HO.out];rfl)) rfl rfl rfl ?_;apply zEx;apply zEx;refine⟨fun w' hS K hK=>?_,?_,?_⟩;(focus (skip;go_wp2;exact hK _ _ (by simp only[zl,zG,zH];first|exact zf (by omega)|exact zg (by omega)|exact zh (by omega)|exact zi (by omega)|exact zj (by omega)|exact zk (by omega)|exact RX.bneB _|rfl) rfl));(focus (simp only[zA,zB,zC,zD];rfl))));refine hR _ _ ?_;clear hR R)
 refine RX.wpL_nil (hQR _ _ (hc6b) ?_);clear hQR QR HO OPS
 clear hc6b HC6
 go_wp2_with fail
 refine (flags_any _ _ [(3,1)] [(3,1)] _ (HFL3b.out.below ((zBr _ _).alloc (Nat.le_refl _) _)) ⟨w6b.heap.size,0,some ⟨w6b.heap.size,0,none⟩,1,rfl,Nat.le_refl _,fun _=>rfl,fun k hk=>by
  have hk0:k=0:=by
   have:k < 1:=hk
   omega
  subst hk0
  exact⟨(by simp[zO,zJ,zQ]),(by simp[zO,zJ,zQ]),(by simp[zO,zJ,zQ])⟩⟩ (by decide) (by decide)).mono ?_
 rintro e w7 ⟨rfl,hb7⟩
 have HB7:=zN (HBc6.out.trans (((zBr _ _).alloc (Nat.le_refl _) _).trans (hb7.mono (by simp)) |>.mono HBc6.out.size))
 rw[zDt rfl]
 clear hb7
 go_wp2
 go_ret
 exact⟨rfl,HB7.out⟩
theorem CrRow.put {w:World} {base b n cap:Nat} {L:List BR} (h:CrRow w base (.slice (some ⟨b,0,none⟩) n cap) L) (hn:L.length=n) {i c:Nat} {u:Value} {r':Rep} (hi:i < L.length) (hc:c < 8) (hr:rpc r'=(rpc L[i].1).set c u) (hrd:r'.rd=L[i].1.rd):CrRow (w.setCell ⟨b,i*8+c,none⟩ u) base (.slice (some ⟨b,0,none⟩) n cap) (L.set i (r',L[i].2)):=by
 have hm:∀ x∈L.set i (r',L[i].2),∃ y∈L,x.1.rd=y.1.rd∧x.2=y.2:=fun x hx=>by
  rcases List.mem_or_eq_of_mem_set hx with h1|h1
  ·exact⟨x,h1,rfl,rfl⟩
  ·exact⟨L[i],List.getElem_mem hi,by rw[h1];exact hrd,by rw[h1]⟩
 have hB:∀ {x y:BR} {w:World},x.1.rd=y.1.rd→x.2=y.2→BOk w y→BOk w x:=fun {x y w} e1 e2 hy=>by
  obtain⟨⟨q,c,h1,h2⟩,h3⟩:=hy
  exact⟨⟨q,c,by rw[e1,e2];exact h1,by rw[e2];exact h2⟩,by rw[e2];exact h3⟩
 refine⟨?_,fun x hx=>?_,fun x hx a m c ha h0=>?_⟩
 ·have h1:=RepRow.put (i:=i) (c:=c) (u:=u) (r':=r') h.row (by rw[List.length_map];exact hn) (by rw[List.length_map];exact hi) hc (by rw[List.getElem_map];exact hr)
  rw[List.map_set];exact h1
 ·obtain⟨y,hy,e1,e2⟩:=hm x hx
  refine hB e1 e2 ((h.rd y hy).turn (fun a m c ha h0=>Go.Deep.blk_setCell_other _ _ _ _ (fun e=>?_)))
  exact (h.ne y hy a m c ha h0).2 (by show some b=some a.block;rw[e])
 ·obtain⟨y,hy,e1,e2⟩:=hm x hx
  exact h.ne y hy a m c (by rw[←e1];exact ha) (by rw[←e2];exact h0)
theorem VecB.of_row {w:World} {base:Nat} {v:Value} {L:List BR} (h:RepRow w base v (L.map Prod.fst)) (hr:∀ x∈L,BOk w x):∃ p cap,v=.slice p L.length cap∧VecB w p L∧(0 < L.length→∃ b,p=some ⟨b,0,none⟩∧base≤b∧b < w.heap.size):=by
 obtain⟨p,cap,h1,h2,h3,h4⟩:=RepRow.form h (fun r hr'=>by
  obtain⟨x,hx,rfl⟩:=List.mem_map.1 hr'
  obtain⟨q,c,e,_⟩:=(hr x hx).ex
  exact⟨q,_,c,e⟩)
 rw[List.length_map] at h1 h4
 exact⟨p,cap,h1,⟨h3,hr⟩,h4⟩
theorem VecB.gr {w w':World} {p:Option Addr} {L:List BR} {g:Nat} (h:VecB w p L) (hg:w.grownBy w' (some g)) (hp:∀ a,p=some a→0 < L.length→a.block≠g) (hr:∀ x∈L,∀ a n c,x.1.rd=.slice (some a) n c→0 < x.2.length→a.block≠g):VecB w' p L:=
 ⟨h.v.gr hg (fun a ha h0=>hp a ha (by rwa[List.length_map] at h0)),fun x hx=>(h.r x hx).turn (fun a n c ha h0=>hg.block _ ((h.r x hx).blk ha h0) (fun e=>by injection e with e;exact hr x hx a n c ha h0 e))⟩
theorem CtlOk.lim {k:Ctl} (h:CtlOk k):limB k.bd=false:=by
 unfold limB bdL
 have e:∀ j,j < 12→decide (k.bd j < 0∨10000 < k.bd j)=false:=fun j hj=>zDf (by rcases h.bd j hj with h|h|h|h<;>omega)
 simp only[List.any_cons,List.any_nil,e 0 (by decide),e 1 (by decide),e 2 (by decide),e 3 (by decide),e 4 (by decide),e 5 (by decide),e 6 (by decide),e 7 (by decide),e 8 (by decide),e 9 (by decide),e 10 (by decide),e 11 (by decide),Bool.or_false]
end Go.Proofs.YtednaajanciabaaGreatDoor
