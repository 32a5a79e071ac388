import Derived.Test.YtbomggfklfbnkaaGreatDoorKTrkM
set_option maxRecDepth 100000
set_option maxHeartbeats 8000000
set_option linter.unusedSimpArgs false
set_option linter.unusedVariables false
namespace Go.Proofs.YtbomggfklfbnkaaGreatDoor
open Go.RowKit Go.Grid Go.Maps Go.Sort Go.Shelf Go.Chain
theorem plaus_ok {n:Int} {r s:Rep} (h0:0≤n) (h1:n≤1000) (hr:RpOk true r) (hs:RpOk true s):plausB n r s=plB n r s:=by
 unfold plausB
 have e:hopB n=true:=zDt ⟨h0,h1⟩
 rw[e,zDt hr.valR,zDt hs.valR]
 rfl
theorem longest_law (W:World) (q:Option Addr) (cap:Nat) (L:List Int) (hV:VecAt W q L) (hI:I64L L) (hl:L.length≤cap) (hc:cap≤9223372036854775807) (hT:HasTab W) :
  Calls Tryz.prog 4 #[.slice q L.length cap] W fun e w'=>e=.returned (.bool true)∧Below W.heap.size W w':=by
 go_enter Tryz.func4,Tryz.ntmps4
 go_wp2_with fail
 refine (knew_any q cap L W hV hI hl hc).mono ?_
 rintro e w1 ⟨rfl,hb,b,hblt,hs⟩
 clear hV hI
 have HT:=zN hT
 generalize min L.length 2000=N at *
 obtain⟨g,hg⟩:∃ g,g=W.heap.size:=⟨_,rfl⟩
 rw[←hg] at hs hblt ⊢
 have HG:=zN hg
 clear hg hT hl hc
 go_wp2_with fail
 refine (reports_any true 6 (by omega) w1 g b N 0 hs (fun h0=>by have:=hblt h0;have:=hb.size;have:=HG.out;omega)).mono ?_
 rintro e w2 ⟨v,l,rfl,hrow,hok,hasc,hlen,hg2,i2,hs2⟩
 obtain⟨p,cp,rfl,hcp,hV2,hpb⟩:=hrow.form (fun r hr=>(hok r hr).rdOk)
 replace hb:=hb.grown hg2 hb.size (fun k hk=>by injection hk with hk;have:=HG.out;omega)
 have hpg:∀ a,p=some a→0 < l.length→a.block≠g∧a.block < w2.heap.size:=fun a ha h0=>by
  obtain⟨b',e',h1,h2⟩:=hpb h0
  rw[ha] at e'
  have e2:a=⟨b',0,none⟩:=by injection e'
  have:=hs.lt
  rw[e2];exact⟨by show b'≠g;omega,h2⟩
 have HOK:=zN hok
 have HASC:=zN hasc
 have HPG:=zN hpg
 have HLN:=zN hlen
 have HS2:=zN hs2
 have HV2:=zN hV2
 have HB2:=zN hb
 have hgl:=hs2.lt
 clear hg2 hs hrow hok hasc hpb hpg hcp hlen hs2 hV2 hb
 clear w1
 go_wp2_with fail
 have hsA:Below w2.heap.size w2 (w2.alloc (.cells #[.int .i64 0,.int .i64 1,.int .i64 4,.int .i64 12,.int .i64 24] 3)):=(by repeat (first|(with_reducible first|assumption|exact zBr _ _|refine zBs ?_ (by first|omega|(simp<;>omega)) _|refine zBa ?_ (by first|omega|(simp<;>omega)) _|apply zBd)|assumption))
 refine (pick_any _ g b N i2 w2.heap.size [0,1,4,12,24] 5 5 rfl (by omega) (by omega) (HS2.out.below hsA) (fun j hj=>by
  match j,hj with
  |0,_=>exact (by simp[zO,zJ,zQ])
  |1,_=>exact (by simp[zO,zJ,zQ])
  |2,_=>exact (by simp[zO,zJ,zQ])
  |3,_=>exact (by simp[zO,zJ,zQ])
  |4,_=>exact (by simp[zO,zJ,zQ])
  |j+5,hj=>simp at hj<;>omega) (by omega)).mono ?_
 rintro e w4 ⟨n,rfl,hn,hg4,i4,hs4⟩
 have hn2:0≤n∧n≤1000:=by
  simp only[List.mem_cons,List.not_mem_nil,or_false] at hn
  omega
 obtain⟨hn0,hn1⟩:=hn2
 have hszA:=hsA.size
 have hsz4:=hg4.size
 have HV4:=zN ((HV2.out.below hsA).gr hg4 (fun a ha h0=>(HPG.out a ha h0).1))
 have HB4:=zN ((HB2.out.trans (hsA.mono (by have:=HB2.out.size;omega))).grown hg4 (by have:=HB2.out.size;omega) (fun k hk=>by injection hk with hk;have:=HG.out;omega))
 have h24:w2.heap.size≤w4.heap.size:=by omega
 clear hn hg4 hs4 hsA hszA hsz4
 obtain⟨e1,e2⟩:=chE_one (n:=n) hn0 hn1 HOK.out HASC.out
 have HC1:=zN (Chain_any n p cp l (by have:=HLN.out;omega) w4 (HT.out.below HB4.out) HV4.out (fun a ha h0=>by have:=(HPG.out a ha h0).2;omega))
 rw[e1,e2] at HC1
 obtain⟨M,hM⟩:∃ M,M=l.length:=⟨_,rfl⟩
 have HM:=zN hM
 have hM6:M≤6:=by rw[hM];exact HLN.out
 rw[←hM] at HC1 ⊢
 obtain⟨ca,hca⟩:∃ ca,ca=chainP (relP n l) M:=⟨_,rfl⟩
 have HCA:=zN hca
 have hcal:ca.length≤6:=by rw[hca];exact Nat.le_trans (chain_len _ _) hM6
 rw[←hca] at HC1
 clear e1 e2 hM hca
 go_wp2_with fail
 refine HC1.out.mono ?_
 rintro e w5 ⟨v5,rfl,hq5,hb5⟩
 obtain⟨nc,hnc⟩:∃ nc,nc=ca.length:=⟨_,rfl⟩
 have HNC:=zN hnc
 obtain⟨p5,c5,rfl,hv5⟩:=hq5.rd.at' ((natI_len ca).trans hnc.symm)
 rw[←hnc] at hcal
 have HB5:=zN (HB4.out.trans (hb5.mono (by have:=HB4.out.size;omega)))
 have HV5:=zN (HV4.out.below hb5)
 have HY5:=zN hv5
 have h25:w2.heap.size≤w5.heap.size:=Nat.le_trans h24 hb5.size
 clear hq5 hv5 hb5 HC1 HV4 HV2 hnc
 have hmk:=run_make_row' (P:=Tryz.prog) 43 44 (.slice none 0 0) 24 Tryz.underlying43 (by kernel_rfl) rfl .i64 .i64 M (by omega) (by omega)
 go_wp2
 clear hmk
 have hA0:=MatAt.made w5 M (relP n l)
 have hB6:Below w5.heap.size w5 (w5.alloc (.cells (madeCells #[.slice none 0 0] M) 44)):=(zBr _ _).alloc (Nat.le_refl _) _
 obtain⟨NB,hNB⟩:∃ NB,NB=w5.heap.size:=⟨_,rfl⟩
 have HNB:=zN hNB
 rw[←hNB] at hA0 ⊢
 generalize w5.alloc (.cells (madeCells #[.slice none 0 0] M) 44)=W6 at *
 have HA0:=zN hA0
 have HB6:=zN hB6
 clear hNB hA0 hB6
 have hmk:=run_make_row' (P:=Tryz.prog) 44 4 (.bool false) 1 Tryz.underlying44 (by kernel_rfl) rfl .i64 .i64 M (by omega) (by omega)
 go_loopw [38] (fun v38 wr=>∃ i:Nat,i≤M∧v38=.int .i64 (i:Int)∧MatAt wr NB M (relP n l) i∧Below w5.heap.size w5 wr) (fun v38 _=>M-(intOf v38).toNat)
 case atStart=>exact⟨0,by omega,rfl,HA0.out,HB6.out⟩
 case round=>
  obtain⟨i,hiM,rfl,hA,hb⟩:=hrel
  by_cases hi:i < M
  ·have hdk:decide ((i:Int) < (M:Int))=true:=zDt (by omega)
   have hi0:(0:Int)≤(i:Int):=by omega
   have hi1:(i:Int) < (M:Int):=by omega
   obtain⟨vo,hvo⟩:=hA.cell hi
   have hfo:=hA.soft i
   have hNl:=hA.lt
   have HA:=zN hA
   have HB:=zN hb
   clear hA hb
   go_wp2
   obtain⟨RB,hR⟩:∃ RB,RB=wr.heap.size:=⟨_,rfl⟩
   rw[←hR]
   have hNR:NB < RB:=by omega
   obtain⟨W7,hW7⟩:∃ W7,W7=(wr.setCell ⟨NB,i,none⟩ (.slice (some ⟨RB,0,none⟩) M M)).alloc (.cells (madeCells #[.bool false] M) 4):=⟨_,rfl⟩
   rw[←hW7]
   have r1:W7.rowIs RB 4 M (fun _=>.bool false):=by
    have:=World.rowIs_made (wr.setCell ⟨NB,i,none⟩ (.slice (some ⟨RB,0,none⟩) M M)) (.bool false) M 4
    have e:(wr.setCell ⟨NB,i,none⟩ (.slice (some ⟨RB,0,none⟩) M M)).heap.size=RB:=by rw[hR];simp
    rw[e] at this
    rw[hW7]
    exact this
   have r2:W7.heap[NB]?=(wr.setCell ⟨NB,i,none⟩ (.slice (some ⟨RB,0,none⟩) M M)).heap[NB]?:=by
    rw[hW7];exact Go.Deep.blk_alloc_lt _ _ _ (by simp;omega)
   have r3:∀ b,b < wr.heap.size→b≠NB→W7.heap[b]?=wr.heap[b]?:=fun b hb hne=>by
    rw[hW7,Go.Deep.blk_alloc_lt _ _ _ (by simp;omega)]
    exact Go.Deep.blk_setCell_other _ _ _ _ (by exact hne)
   have r4:Below w5.heap.size w5 W7:=by
    rw[hW7]
    exact ((HB.out.setCell (p:=⟨NB,i,none⟩) (by show w5.heap.size≤NB;have:=HNB.out;omega) _).alloc (by simp;have:=HB.out.size;omega) _)
   have r5:W7.cell? ⟨NB,i,none⟩=some (.slice (some ⟨RB,0,none⟩) M M):=by
    rw[hW7,World.cell?_alloc_lt _ _ _ (by simp;omega)]
    exact zL _ _ _ (by rw[hvo];rfl)
   have r6:RB < W7.heap.size:=r1.lt
   have HR1:=zN r1
   have HR2:=zN r2
   have HR3:=zN r3
   have HR4:=zN r4
   have HR:=zN hR
   clear hvo hfo hNl r1 r2 r3 r4 hR hW7
   generalize wr=W8 at *
   go_loopw [10] (fun v10 wr=>∃ t:Nat,i+1≤t∧t≤M∧v10=.int .i64 (t:Int)∧wr.rowIs RB 4 M (fun j=>.bool (decide (i < j) && (decide (j < t) && relP n l i j)))∧Below RB W7 wr) (fun v10 _=>M-(intOf v10).toNat)
   case atStart=>exact⟨i+1,Nat.le_refl _,hi,by go_num,HR1.out.congr (fun j hj=>by
    by_cases h:i < j
    ·rw[zDf (show ¬ j < i+1 by omega)];simp
    ·rw[zDf h];simp),zBr _ _⟩
   case round=>
    obtain⟨t,ht0,htM,rfl,hr,hb⟩:=hrel
    by_cases ht:t < M
    ·have hdt:decide ((t:Int) < (M:Int))=true:=zDt (by omega)
     have ht1:(0:Int)≤(t:Int):=by omega
     have ht2:(t:Int) < (M:Int):=by omega
     have c1:=hr.cell ht
     try dsimp only at c1
     have f1:=hr.frozen t
     have b1:wr.cell? ⟨NB,i,none⟩=some (.slice (some ⟨RB,0,none⟩) M M):=(hb.cell (p:=⟨NB,i,none⟩) (by show NB < RB;omega)).trans r5
     have hV:=HV5.out.below (HR4.out.trans (hb.mono (by have:=HB.out.size;have:=HR.out;omega)))
     obtain⟨bb,o,rfl,hbbl,hrp⟩:=hV.cell (by rw[←HM.out];omega)
     have hri:=hrp i (by rw[←HM.out];omega)
     have hrj:=hrp t (by rw[←HM.out];omega)
     have hoi:=HOK.out _ (List.getElem_mem (by rw[←HM.out];omega:i < l.length))
     have hoj:=HOK.out _ (List.getElem_mem (by rw[←HM.out];omega:t < l.length))
     have hpe:Hid (plausB n (l[i]'(by rw[←HM.out];omega)) (l[t]'(by rw[←HM.out];omega))=relP n l i t):=zN (by rw[plaus_ok hn0 hn1 hoi hoj,relP_eq])
     generalize l[i]'(by rw[←HM.out];omega)=ri at hri hpe
     generalize l[t]'(by rw[←HM.out];omega)=rj at hrj hpe
     have HRD:Hid (RdOk ri∧RdOk rj):=zN ⟨hri.rd,hrj.rd⟩
     have HRR:=zN hr
     have HBX:=zN hb
     have hlr:=hr.lt
     have hSS:RptAt wr.drew bb (o+i*8) ri∧RptAt wr.drew bb (o+t*8) rj∧wr.drew.cell? ⟨NB,i,none⟩=some (.slice (some ⟨RB,0,none⟩) M M):=⟨hri.of_block rfl,hrj.of_block rfl,b1⟩
     clear hrp hoi hoj hri hrj b1 hV hr hb c1 f1
     go_wp2_with fail
     refine RY.region RX.fN (fun w'=>RptAt w' bb (o+i*8) ri∧RptAt w' bb (o+t*8) rj∧w'.cell? ⟨NB,i,none⟩=some (.slice (some ⟨RB,0,none⟩) M M)) (by kernel_rfl) (by kernel_rfl) (hSS) (fun OPS HO QR hQR=>?_)
     repeat (refine zeY (fun R hR=>?_);(first|refine zaY (by first|rfl|(rw[HO.out];rfl)) (by simp only[zA,zB,zC,zD];rfl) ?_|refine zbY (by first|rfl|(rw[HO.out];rfl)) rfl (by first|exact .inl rfl|exact .inr rfl) (by simp only[zE,zF,zG,zH];rfl) (by simp only[zA,zB,zC,zD];rfl) ?_|refine zcY (by first|rfl|(rw[HO.out];rfl)) rfl rfl (by simp only[zE,zF,zG,zH];rfl) (by simp only[zA,zB,zC,zD];rfl) ?_|(refine zdY (by first|rfl|(rw[HO.out];rfl)) rfl rfl rfl ?_;apply zEx;apply zEx;refine⟨fun w' hS K hK=>?_,?_,?_⟩;(focus (obtain⟨⟨x0,x1,x2,x3,x4,x5,x6,x7,_⟩,⟨y0,y1,y2,y3,y4,y5,y6,y7,_⟩,s2⟩:=hS;go_wp2;exact hK _ _ (by simp only[zl,zG,zH];first|exact zf (by omega)|exact zg (by omega)|exact zh (by omega)|exact zi (by omega)|exact zj (by omega)|exact zk (by omega)|exact RX.bneB _|rfl) rfl));(focus (simp only[zA,zB,zC,zD];rfl))));refine hR _ _ ?_;clear hR R)
     refine zeY (fun R hR=>?_)
     refine zgY (by first|rfl|(rw[HO.out];rfl)) rfl (fun K hK=>?_)
     go_wp2_with fail
     refine (rPlausible_any n ri rj HRD.out.1 HRD.out.2 wr.drew).mono ?_
     rintro e w3 ⟨rfl,hb3⟩
     rw[hpe.out]
     have hb3':Below wr.heap.size wr w3:=(zBd (zBr _ _)).trans hb3
     have hr3:=HRR.out.of_block (hb3'.block _ hlr)
     have hSS3:RptAt w3 bb (o+i*8) ri∧RptAt w3 bb (o+t*8) rj∧w3.cell? ⟨NB,i,none⟩=some (.slice (some ⟨RB,0,none⟩) M M):=⟨hSS.1.below hb3,hSS.2.1.below hb3,zP hb3 hSS.2.2⟩
     have c3:=hr3.cell ht
     try dsimp only at c3
     have f3:=hr3.frozen t
     have HR3':=zN hr3
     have HB3:=zN (HBX.out.trans (hb3'.mono (by omega)))
     clear hb3 hb3' hr3 hSS
     refine hK _ _ ⟨.inr (hSS3),hR _ _ ?_⟩;clear hK K hR R
     repeat (refine zeY (fun R hR=>?_);(first|refine zaY (by first|rfl|(rw[HO.out];rfl)) (by simp only[zA,zB,zC,zD];rfl) ?_|refine zbY (by first|rfl|(rw[HO.out];rfl)) rfl (by first|exact .inl rfl|exact .inr rfl) (by simp only[zE,zF,zG,zH];rfl) (by simp only[zA,zB,zC,zD];rfl) ?_|refine zcY (by first|rfl|(rw[HO.out];rfl)) rfl rfl (by simp only[zE,zF,zG,zH];rfl) (by simp only[zA,zB,zC,zD];rfl) ?_|(refine zdY (by first|rfl|(rw[HO.out];rfl)) rfl rfl rfl ?_;apply zEx;apply zEx;refine⟨fun w' hS K hK=>?_,?_,?_⟩;(focus (obtain⟨⟨x0,x1,x2,x3,x4,x5,x6,x7,_⟩,⟨y0,y1,y2,y3,y4,y5,y6,y7,_⟩,s2⟩:=hS;go_wp2;exact hK _ _ (by simp only[zl,zG,zH];first|exact zf (by omega)|exact zg (by omega)|exact zh (by omega)|exact zi (by omega)|exact zj (by omega)|exact zk (by omega)|exact RX.bneB _|rfl) rfl));(focus (simp only[zA,zB,zC,zD];rfl))));refine hR _ _ ?_;clear hR R)
     refine zeY (fun R hR=>?_)
     refine zgY (by first|rfl|(rw[HO.out];rfl)) rfl (fun K hK=>?_)
     go_wp2
     first|refine⟨(by first|exact .inl rfl|exact .inl trivial|trivial),hR _ _ (RY.wpL_nil (hQR _ _ ?_))⟩|refine hR _ _ (RY.wpL_nil (hQR _ _ ?_))|refine hQR _ _ ?_
     (try clear hR);(try clear R);clear hQR QR HO OPS
     go_wp2
     go_roundw
     case rel=>
      refine⟨t+1,by omega,by omega,by go_num,(HR3'.out.set t _).congr (fun j hj=>?_),HB3.out.setCell (p:=⟨RB,t,none⟩) (Nat.le_refl _) _⟩
      by_cases e:j=t
      ·subst e
       rw[if_pos rfl,zDt (show i < j by omega),zDt (Nat.lt_succ_self j)];simp
      ·rw[if_neg e]
       by_cases e2:j < t
       ·rw[zDt e2,zDt (show j < t+1 by omega)]
       ·rw[zDf e2,zDf (show ¬ j < t+1 by omega)]
     case measure=>simp[intOf]<;>omega
    ·have hdt:decide ((t:Int) < (M:Int))=false:=zDf (by omega)
     have hA2:MatAt wr NB M (relP n l) (i+1):=HA.out.step (R:=RB) ((hb.block _ hNR).trans HR2.out) (fun b h1 h2=>(hb.block _ (by rw[HR.out];exact h1)).trans (HR3.out b h1 h2)) (hr.congr (fun j hj=>by
      rw[zDt (show j < t by omega)];simp))
     have HA2:=zN hA2
     have HB2':=zN (HR4.out.trans (hb.mono (by have:=HB.out.size;have:=HR.out;omega)))
     clear hA2 hb hr
     go_wp2
     go_roundw
     case rel=>exact⟨i+1,by omega,by go_num,HA2.out,HB2'.out⟩
     case measure=>simp[intOf]<;>omega
  ·have hdk:decide ((i:Int) < (M:Int))=false:=zDf (by omega)
   have hiM':i=M:=by omega
   have HA9:=zN hA
   have HB9:=zN hb
   rw[hiM'] at HA9 ⊢
   have hNBl:=hA.lt
   clear hA hb hiM hdk hi hiM' hNBl
   generalize wr=W9 at *
   by_cases hm0:M=0
   ·have hmd:((M:Int) == 0)=true:=by rw[hm0];rfl
    have hn0':nc=0:=by rw[HNC.out,HCA.out,hm0];rfl
    have hnd:((nc:Int) == 0)=true:=by rw[hn0'];rfl
    have hw1:decide ((1:Int) < wrap64 (2 ^ M))=false:=by
     rw[hm0]
     have e:wrap64 ((2:Int) ^ 0)=1:=by unfold wrap64;first|omega|simp|decide
     rw[e];exact zDf (by omega)
    clear hm0 hn0'
    go_wp2
    go_loopw [11,12] (fun v11 v12 wr=>v12=.int .i64 1∧v11=.bool true∧wr=W9) (fun _ _ _=>0)
    case atStart=>exact⟨rfl,rfl,rfl⟩
    case round=>
     obtain⟨rfl,rfl,rfl⟩:=hrel
     have HBW:=zN (HB5.out.trans (HB9.out.mono (by have:=HB5.out.size;omega)))
     go_wp2_with fail
     refine (awake12_any _ (HT.out.below HBW.out)).mono ?_
     rintro e w30 ⟨rfl,hb30⟩
     have HB30:=zN (HBW.out.trans (hb30.mono HBW.out.size))
     clear hb30
     go_wp2
     go_ret
     exact⟨rfl,HB30.out⟩
   ·have hm1:0 < M:=by omega
    have hmd:((M:Int) == 0)=false:=by rw[beq_eq_false_iff_ne];omega
    clear hm0
    go_wp2
    have HF0:Hid (foundB (relP n l) M ca 1=false):=zN (by rw[found_one];exact zDf (fun h=>by omega))
    obtain⟨T,hT⟩:∃ T,T=2 ^ M:=⟨_,rfl⟩
    have hT64:T≤64:=by rw[hT];exact Nat.pow_le_pow_right (n:=2) (by omega) hM6
    have hT1:1≤T:=by rw[hT];exact Nat.one_le_two_pow
    have hwT:wrap64 ((2:Int) ^ M)=(T:Int):=by
     have e:((2:Int) ^ M)=(T:Int):=by rw[hT];simp
     rw[e];unfold wrap64;omega
    have HTM:=zN hT
    have HWT:=zN hwT
    clear hT hwT
    go_loopw [11,12] (fun v11 v12 wr=>∃ bt:Nat,1≤bt∧bt≤T∧v12=.int .i64 (bt:Int)∧v11=.bool (foundB (relP n l) M ca bt)∧Below W9.heap.size W9 wr) (fun _ v12 _=>T-(intOf v12).toNat)
    case atStart=>exact⟨1,Nat.le_refl _,hT1,rfl,by rw[HF0.out],zBr _ _⟩
    case round=>
     obtain⟨bt,hb1,hbM,rfl,rfl,hb⟩:=hrel
     obtain⟨fo,hfo⟩:∃ fo,fo=foundB (relP n l) M ca bt:=⟨_,rfl⟩
     have HFO:=zN hfo
     rw[←hfo]
     clear hfo
     by_cases hbt:bt < T
     ·have hdb:decide ((bt:Int) < wrap64 (2 ^ M))=true:=by rw[HWT.out];exact zDt (by omega)
      have HB:=zN hb
      clear hb
      go_wp2
      generalize wr=W10 at *
      go_loopw [13,14,90] (fun v13 v14 v90 wr=>∃ k:Nat,k≤M∧v90=.int .i64 (k:Int)∧v14=.bool (okB (relP n l) (setOf bt k))∧QRow wr W9.heap.size v13 (setOf bt k)∧Below W9.heap.size W9 wr) (fun _ _ v90 _=>M-(intOf v90).toNat)
      case atStart=>exact⟨0,by omega,rfl,rfl,World.ownsRow_nil _ _ _ _,HB.out⟩
      case round=>
       obtain⟨k,hkM,rfl,rfl,hq,hbk⟩:=hrel
       obtain⟨pd,cd,rfl,hcd⟩:=own_slice hq
       by_cases hk:k < M
       ·have hdk:decide ((k:Int) < (M:Int))=true:=zDt (by omega)
        have hk0:(0:Int)≤(k:Int):=by omega
        have hk1:(k:Int) < (M:Int):=by omega
        have hDl:=setOf_len bt k
        have hbz:=bit_zero bt k
        cases htb:bt.testBit k
        ·rw[htb] at hbz
         have HSE:=zN (setOf_no htb)
         generalize setOf bt k=D at *
         have HQ:=zN hq
         have HBK:=zN hbk
         clear hq hbk htb hcd
         go_wp2
         go_roundw
         case rel=>exact⟨k+1,by omega,by go_num,by rw[HSE.out],by rw[HSE.out];exact HQ.out,HBK.out⟩
         case measure=>simp[intOf]<;>omega
        ·rw[htb] at hbz
         have HSE:=zN (setOf_yes htb)
         have hlt:∀ j∈setOf bt k,j < k:=fun j hj=>setOf_lt hj
         have hwr:W9.heap.size≤wr.heap.size:=hbk.size
         by_cases h0:(setOf bt k).length=0
         ·have hD0:setOf bt k=[]:=List.length_eq_zero_iff.1 h0
          rw[hD0] at hq ⊢ HSE
          have HOKE:Hid (okB (relP n l) (setOf bt (k+1))=true):=zN (by rw[HSE.out];rfl)
          have hok0:okB (relP n l) []=true:=rfl
          rw[hok0]
          have hown:(wr.alloc (.cells #[.int .i64 (k:Int)] 3)).ownsRow W9.heap.size 3 1 (.slice pd 0 cd) 0 (qV []):=World.ownsRow.alloc hq _
          have HBK:=zN hbk
          clear hq hbk htb hlt hok0 h0 hD0 hDl hcd
          go_wp2_with (refine RX.wpl_apq (by rfl) elInt _ _ (by rfl) W9.heap.size _ _ _ hown (by rfl) wr.heap.size _ 1 (by rfl) (heap_alloc_new _ _) (by rfl) (by simp[Value.oneCell']) (by omega) (by omega) (by simp;omega) ?_;intro v' w2' hown2 hb2 hg2 hat2)
          have HQ2:Hid (QRow w2' W9.heap.size v' ([] ++ [k])):=zN (QRow.snoc hown2)
          have HB2:Hid (Below W9.heap.size W9 w2'):=zN ((HBK.out.alloc hwr _).trans hb2)
          clear hown2 hb2 hg2 hat2 hown
          go_wp2
          go_roundw
          case rel=>exact⟨k+1,by omega,by go_num,by rw[HOKE.out],by rw[HSE.out];exact HQ2.out,HB2.out⟩
          case measure=>simp[intOf]<;>omega
         ·have hsn:=okB_snoc (relP n l) k (setOf bt k) (by omega)
          have hlast:=hlt _ (List.getElem_mem (by omega:(setOf bt k).length-1 < (setOf bt k).length))
          obtain⟨gq,cq,e1,_,hgq1,hgq2,hqc⟩:=QRow.at_ hq (i:=(setOf bt k).length-1) (u:=(setOf bt k)[(setOf bt k).length-1]'(by omega)) (List.getElem?_eq_getElem (by omega))
          injection e1 with e1 _ e2
          subst e1 e2
          generalize (setOf bt k)[(setOf bt k).length-1]'(by omega)=la at *
          obtain⟨RL,hr1,hr2⟩:=(HA9.out.below (hbk.mono (by omega))).row (i:=la) (by omega) (Nat.le_refl _)
          have hr3:=hr2 k hk
          rw[zDt hlast,Bool.true_and] at hr3
          have HOKE:Hid (okB (relP n l) (setOf bt (k+1))=(okB (relP n l) (setOf bt k) && relP n l la k)):=zN (by rw[HSE.out];exact hsn)
          generalize setOf bt k=D at *
          generalize relP n l la k=pk at *
          obtain⟨m,hm⟩:∃ m,m+1=D.length:=⟨D.length-1,by omega⟩
          have hmi:D.length-1=m:=by omega
          rw[hmi] at hqc
          have hdp:decide ((0:Int) < (D.length:Int))=true:=zDt (by omega)
          have hm0:(0:Int)≤(D.length:Int)-1:=by omega
          have hm2:(D.length:Int)-1 < (D.length:Int):=by omega
          have hla0:(0:Int)≤(la:Int):=by omega
          have hla1:(la:Int) < (M:Int):=by omega
          have HBK:=zN hbk
          have HQ:=zN hq
          have hown:(wr.alloc (.cells #[.int .i64 (k:Int)] 3)).ownsRow W9.heap.size 3 1 (.slice (some ⟨gq,0,none⟩) D.length cd) D.length (qV D):=World.ownsRow.alloc hq _
          clear hq hbk htb hlt hsn hr2
          cases hokk:okB (relP n l) D<;>(
           have HOKK:=zN hokk
           clear hokk
           go_wp2_with (refine RX.wpl_apq (by rfl) elInt _ _ (by rfl) W9.heap.size _ _ _ hown (by rfl) wr.heap.size _ 1 (by rfl) (heap_alloc_new _ _) (by rfl) (by simp[Value.oneCell']) (by omega) (by omega) (by simp;omega) ?_;intro v' w2' hown2 hb2 hg2 hat2)
           have HQ2:Hid (QRow w2' W9.heap.size v' (D ++ [k])):=zN (QRow.snoc hown2)
           have HB2':Hid (Below W9.heap.size W9 w2'):=zN ((HBK.out.alloc hwr _).trans hb2)
           clear hown2 hb2 hg2 hat2 hown
           go_wp2
           go_roundw
           case rel=>exact⟨k+1,by omega,by go_num,by rw[HOKE.out,HOKK.out];rfl,by rw[HSE.out];exact HQ2.out,HB2'.out⟩
           case measure=>simp[intOf]<;>omega)
       ·have hdk:decide ((k:Int) < (M:Int))=false:=zDf (by omega)
        have hkM':k=M:=by omega
        have HBK:=zN hbk
        have HQV:Hid (RdI wr (.slice pd (setOf bt k).length cd) (natI (setOf bt k))):=zN hq.rd
        rw[hkM'] at HQV ⊢
        clear hq hbk hkM' hk hkM hcd
        cases hok:okB (relP n l) (setOf bt M)
        ·have HFN:=zN (found_no (c:=ca) hok)
         clear hok
         go_wp2
         go_roundw
         case rel=>exact⟨bt+1,by omega,by omega,by go_num,by rw[HFN.out,←HFO.out],HBK.out⟩
         case measure=>simp[intOf]<;>omega
        ·have HFYES:=zN (found_yes (c:=ca) hb1 hok)
         obtain⟨hs1,hs2⟩:=set_long hok
         rw[←HCA.out,←HNC.out] at hs1 hs2
         have HLEX:=zN hs2
         have hDM:=setOf_len bt M
         clear hok hs2
         generalize setOf bt M=D at *
         obtain⟨pd',cd',e3,hvd⟩:=HQV.out.at' (natI_len D)
         injection e3 with e3 _ e4
         subst e3 e4
         have HVD:=zN hvd
         clear hvd HQV
         have hgt:decide ((nc:Int) < (D.length:Int))=false:=zDf (by omega)
         by_cases heq:D.length=nc
         ·have hde:((D.length:Int) == (nc:Int))=true:=by rw[beq_iff_eq];omega
          have HEQ:=zN heq
          clear heq
          go_wp2
          generalize wr=W11 at *
          go_loopw [136] (fun v136 wr=>∃ ii:Nat,ii≤nc∧v136=.int .i64 (ii:Int)∧Hid (∀ j (h:j < ca.length) (h2:j < D.length),j < ii→ca[j]=D[j])∧Below W11.heap.size W11 wr) (fun v136 _=>nc-(intOf v136).toNat)
          case atStart=>exact⟨0,by omega,rfl,zN (fun j _ _ h=>by omega),zBr _ _⟩
          case round=>
           obtain⟨ii,hiN,rfl,HPRE,hbi⟩:=hrel
           have HBI:=zN (HBK.out.trans (hbi.mono HBK.out.size))
           have HVI:=zN (HVD.out.below hbi)
           have HBP:=zN hbi
           clear hbi
           by_cases hii:ii < nc
           ·have h1:ii < D.length:=by have:=HEQ.out;omega
            have hdi:decide ((ii:Int) < (D.length:Int))=true:=zDt (by omega)
            have h2:ii < ca.length:=by rw[←HNC.out];exact hii
            obtain⟨bd,od,rfl,_,hcD⟩:=HVI.out.cell (by rw[natI_len];omega)
            obtain⟨bc,oc,rfl,_,hcC⟩:=(HY5.out.below (HB9.out.trans (HBI.out.mono (by have:=HB9.out.size;omega)))).cell (by rw[natI_len];omega)
            have ck:=hcD ii (by rw[natI_len];exact h1)
            have dk:=hcC ii (by rw[natI_len];exact h2)
            have e7:(natI D)[ii]'(by rw[natI_len];exact h1)=(D[ii]:Int):=by simp[natI]
            have e8:(natI ca)[ii]'(by rw[natI_len];exact h2)=(ca[ii]:Int):=by simp[natI]
            rw[e7] at ck
            rw[e8] at dk
            have hlx:ca[ii]≤D[ii]:=lex_at ii ca D h2 h1 (HLEX.out HEQ.out) (fun j hj=>HPRE.out j (by omega) (by omega) hj)
            have HNX:Hid (ca[ii]=D[ii]→∀ j (h:j < ca.length) (h2:j < D.length),j < ii+1→ca[j]=D[j]):=zN (fun he j h3 h4 hj=>by
             by_cases hji:j=ii
             ·subst hji;exact he
             ·exact HPRE.out j h3 h4 (by omega))
            generalize D[ii]=da at *
            generalize ca[ii]=dc at *
            have h3:(0:Int)≤(ii:Int):=by omega
            have h4:(ii:Int) < (D.length:Int):=by omega
            have h5:(ii:Int) < (nc:Int):=by omega
            clear hcD hcC e7 e8
            by_cases hx:da=dc
            ·have hnx:((da:Int) != (dc:Int))=false:=by rw[hx];simp
             have hby:((da:Int) == (dc:Int))=true:=by rw[hx];simp
             have HNY:=zN (HNX.out hx.symm)
             clear HNX hx hlx
             go_wp2_with fail
             refine RX.region RX.fN (fun w'=>w'=_) (by kernel_rfl) (by kernel_rfl) rfl (fun OPS HO QR hQR=>?_)
             repeat (refine zeX (fun R hR=>?_);(first|refine zaX (by first|rfl|(rw[HO.out];rfl)) (by simp only[zA,zB,zC,zD];rfl) ?_|refine zbX (by first|rfl|(rw[HO.out];rfl)) rfl (by first|exact .inl rfl|exact .inr rfl) (by simp only[zE,zF,zG,zH];rfl) (by simp only[zA,zB,zC,zD];rfl) ?_|refine zcX (by first|rfl|(rw[HO.out];rfl)) rfl rfl (by simp only[zE,zF,zG,zH];rfl) (by simp only[zA,zB,zC,zD];rfl) ?_|(refine zdX (by first|rfl|(rw[HO.out];rfl)) rfl rfl rfl ?_;apply zEx;apply zEx;refine⟨fun w' hS K hK=>?_,?_,?_⟩;(focus (subst hS;go_wp2;exact hK _ _ (by simp only[zl,zG,zH];first|exact zf (by omega)|exact zg (by omega)|exact zh (by omega)|exact zi (by omega)|exact zj (by omega)|exact zk (by omega)|exact RX.bneB _|rfl) rfl));(focus (simp only[zA,zB,zC,zD];rfl))));refine hR _ _ ?_;clear hR R)
             refine RX.wpL_nil (hQR _ _ rfl ?_);clear hQR QR HO OPS
             go_wp2
             go_roundw
             case rel=>exact⟨ii+1,by omega,by go_num,zN HNY.out,HBP.out.drew⟩
             case measure=>simp[intOf]<;>omega
            ·have hnx:((da:Int) != (dc:Int))=true:=by simp;omega
             have hby:((da:Int) == (dc:Int))=false:=by rw[beq_eq_false_iff_ne];omega
             have hlt:decide ((da:Int) < (dc:Int))=false:=zDf (by omega)
             have hlt2:decide (da < dc)=false:=zDf (by omega)
             clear HNX hx
             go_wp2_with fail
             refine RX.region RX.fN (fun w'=>w'=_) (by kernel_rfl) (by kernel_rfl) rfl (fun OPS HO QR hQR=>?_)
             repeat (refine zeX (fun R hR=>?_);(first|refine zaX (by first|rfl|(rw[HO.out];rfl)) (by simp only[zA,zB,zC,zD];rfl) ?_|refine zbX (by first|rfl|(rw[HO.out];rfl)) rfl (by first|exact .inl rfl|exact .inr rfl) (by simp only[zE,zF,zG,zH];rfl) (by simp only[zA,zB,zC,zD];rfl) ?_|refine zcX (by first|rfl|(rw[HO.out];rfl)) rfl rfl (by simp only[zE,zF,zG,zH];rfl) (by simp only[zA,zB,zC,zD];rfl) ?_|(refine zdX (by first|rfl|(rw[HO.out];rfl)) rfl rfl rfl ?_;apply zEx;apply zEx;refine⟨fun w' hS K hK=>?_,?_,?_⟩;(focus (subst hS;go_wp2;exact hK _ _ (by simp only[zl,zG,zH];first|exact zf (by omega)|exact zg (by omega)|exact zh (by omega)|exact zi (by omega)|exact zj (by omega)|exact zk (by omega)|exact RX.bneB _|rfl) rfl));(focus (simp only[zA,zB,zC,zD];rfl))));refine hR _ _ ?_;clear hR R)
             refine RX.wpL_nil (hQR _ _ rfl ?_);clear hQR QR HO OPS
             go_wp2_with fail
             refine RX.region RX.fN (fun w'=>w'=_) (by kernel_rfl) (by kernel_rfl) rfl (fun OPS HO QR hQR=>?_)
             repeat (refine zeX (fun R hR=>?_);(first|refine zaX (by first|rfl|(rw[HO.out];rfl)) (by simp only[zA,zB,zC,zD];rfl) ?_|refine zbX (by first|rfl|(rw[HO.out];rfl)) rfl (by first|exact .inl rfl|exact .inr rfl) (by simp only[zE,zF,zG,zH];rfl) (by simp only[zA,zB,zC,zD];rfl) ?_|refine zcX (by first|rfl|(rw[HO.out];rfl)) rfl rfl (by simp only[zE,zF,zG,zH];rfl) (by simp only[zA,zB,zC,zD];rfl) ?_|(refine zdX (by first|rfl|(rw[HO.out];rfl)) rfl rfl rfl ?_;apply zEx;apply zEx;refine⟨fun w' hS K hK=>?_,?_,?_⟩;(focus (subst hS;go_wp2;exact hK _ _ (by simp only[zl,zG,zH];first|exact zf (by omega)|exact zg (by omega)|exact zh (by omega)|exact zi (by omega)|exact zj (by omega)|exact zk (by omega)|exact RX.bneB _|rfl) rfl));(focus (simp only[zA,zB,zC,zD];rfl))));refine hR _ _ ?_;clear hR R)
             refine RX.wpL_nil (hQR _ _ rfl ?_);clear hQR QR HO OPS
             have HBD:Hid (Below W9.heap.size W9 wr.drew.drew):=zN HBI.out.drew.drew
             have HVX:Hid (VecAt wr.drew.drew (some ⟨bd,od,none⟩) (natI D)):=zN (HVI.out.below (zBr _ _).drew.drew)
             cases hfo:fo
             ·have HFY:Hid (foundB (relP n l) M ca (bt+1)=decide (D=ca)):=zN (by rw[HFYES.out,←HFO.out,hfo];rfl)
              clear hfo
              go_wp2_with fail
              refine (kints_gen _ _ (natI D) (natI ca) cd c5 D.length nc wr.drew.drew (natI_len D) ((natI_len ca).trans HNC.out.symm) HVX.out (HY5.out.below (HB9.out.trans (HBD.out.mono (by have:=HB9.out.size;omega)))) (by omega)).mono ?_
              rintro e w20 ⟨rfl,hb20⟩
              rw[decide_natI]
              have HB20:=zN (HBD.out.trans (hb20.mono HBD.out.size))
              clear hb20
              go_wp2
              go_roundw
              case rel=>exact⟨bt+1,by omega,by omega,by go_num,by rw[HFY.out],HB20.out⟩
              case measure=>simp[intOf]<;>omega
             ·have HFY:Hid (foundB (relP n l) M ca (bt+1)=true):=zN (by rw[HFYES.out,←HFO.out,hfo];rfl)
              clear hfo
              go_wp2
              go_roundw
              case rel=>exact⟨bt+1,by omega,by omega,by go_num,by rw[HFY.out],HBD.out⟩
              case measure=>simp[intOf]<;>omega
           ·have hdi:decide ((ii:Int) < (D.length:Int))=false:=zDf (by have:=HEQ.out;omega)
            clear hde
            cases hfo:fo
            ·have HFY:Hid (foundB (relP n l) M ca (bt+1)=decide (D=ca)):=zN (by rw[HFYES.out,←HFO.out,hfo];rfl)
             clear hfo
             go_wp2_with fail
             refine (kints_gen _ _ (natI D) (natI ca) cd c5 D.length nc wr (natI_len D) ((natI_len ca).trans HNC.out.symm) HVI.out (HY5.out.below (HB9.out.trans (HBI.out.mono (by have:=HB9.out.size;omega)))) (by omega)).mono ?_
             rintro e w20 ⟨rfl,hb20⟩
             rw[decide_natI]
             have HB20:=zN (HBI.out.trans (hb20.mono HBI.out.size))
             clear hb20
             go_wp2
             go_roundw
             case rel=>exact⟨bt+1,by omega,by omega,by go_num,by rw[HFY.out],HB20.out⟩
             case measure=>simp[intOf]<;>omega
            ·have HFY:Hid (foundB (relP n l) M ca (bt+1)=true):=zN (by rw[HFYES.out,←HFO.out,hfo];rfl)
             clear hfo
             go_wp2
             go_roundw
             case rel=>exact⟨bt+1,by omega,by omega,by go_num,by rw[HFY.out],HBI.out⟩
             case measure=>simp[intOf]<;>omega
         ·have hde:((D.length:Int) == (nc:Int))=false:=by rw[beq_eq_false_iff_ne];omega
          clear heq
          cases hfo:fo
          ·have HFY:Hid (foundB (relP n l) M ca (bt+1)=decide (D=ca)):=zN (by rw[HFYES.out,←HFO.out,hfo];rfl)
           clear hfo
           go_wp2_with fail
           refine (kints_gen _ _ (natI D) (natI ca) cd c5 D.length nc wr (natI_len D) ((natI_len ca).trans HNC.out.symm) HVD.out (HY5.out.below (HB9.out.trans (HBK.out.mono (by have:=HB9.out.size;omega)))) (by omega)).mono ?_
           rintro e w20 ⟨rfl,hb20⟩
           rw[decide_natI]
           have HB20:=zN (HBK.out.trans (hb20.mono HBK.out.size))
           clear hb20
           go_wp2
           go_roundw
           case rel=>exact⟨bt+1,by omega,by omega,by go_num,by rw[HFY.out],HB20.out⟩
           case measure=>simp[intOf]<;>omega
          ·have HFY:Hid (foundB (relP n l) M ca (bt+1)=true):=zN (by rw[HFYES.out,←HFO.out,hfo];rfl)
           clear hfo
           go_wp2
           go_roundw
           case rel=>exact⟨bt+1,by omega,by omega,by go_num,by rw[HFY.out],HBK.out⟩
           case measure=>simp[intOf]<;>omega
     ·have hdb:decide ((bt:Int) < wrap64 (2 ^ M))=false:=by rw[HWT.out];exact zDf (by omega)
      have hfo:fo=true:=by rw[HFO.out,HCA.out];exact found_all _ _ (by rw[←HTM.out];omega)
      rw[hfo]
      have HBW:=zN (HB5.out.trans ((HB9.out.trans (hb.mono (by have:=HB9.out.size;omega))).mono (by have:=HB5.out.size;omega)))
      clear hfo hb
      go_wp2_with fail
      refine (awake12_any wr (HT.out.below HBW.out)).mono ?_
      rintro e w30 ⟨rfl,hb30⟩
      have HB30:=zN (HBW.out.trans (hb30.mono HBW.out.size))
      clear hb30
      go_wp2
      go_ret
      exact⟨rfl,HB30.out⟩
end Go.Proofs.YtbomggfklfbnkaaGreatDoor
