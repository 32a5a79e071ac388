import Derived.Test.YtbomggfklfbnkaaGreatDoorKTrkU
import Derived.Test.YtbomggfklfbnkaaGreatDoorKRefB
set_option maxRecDepth 100000
set_option maxHeartbeats 8000000
set_option linter.unusedSimpArgs false
set_option linter.unusedVariables false
namespace Go.Proofs.YtbomggfklfbnkaaGreatDoor
open Go.RowKit Go.Grid Go.Maps Go.Sort Go.Shelf Go.Chain
def CloseTo (l:List Rep) (k:Nat):Prop:=∀ i (h:i+1 < l.length),i+1 < k→hopN (plOf l[i]) (plOf l[i+1])≤1
noncomputable instance (l:List Rep) (k:Nat):Decidable (CloseTo l k):=Classical.propDecidable _
noncomputable def closeB (l:List Rep) (k:Nat):Bool:=decide (CloseTo l k)
theorem closeB_one (l:List Rep):closeB l 1=true:=by
 unfold closeB
 rw[decide_eq_true_eq]
 exact fun i _ h=>by omega
theorem closeB_succ (l:List Rep) (k:Nat) (h:k+1 < l.length):closeB l (k+2)=(closeB l (k+1) && decide (hopN (plOf l[k]) (plOf l[k+1])≤1)):=by
 unfold closeB
 rw[Bool.eq_iff_iff,Bool.and_eq_true,decide_eq_true_eq,decide_eq_true_eq,decide_eq_true_eq]
 constructor
 ·intro hc
  exact⟨fun i hi hik=>hc i hi (by omega),hc k h (by omega)⟩
 ·rintro⟨h1,h2⟩ i hi hik
  by_cases e:i=k
  ·subst e;exact h2
  ·exact h1 i hi (by omega)
theorem closeB_all {l:List Rep} {k:Nat} (hk:l.length≤k) (h:closeB l k=true):CloseTo l l.length:=by
 unfold closeB at h
 rw[decide_eq_true_eq] at h
 exact fun i hi _=>h i hi (by omega)
theorem close_full {n:Int} {l:List Rep} (h0:0≤n) (ha:l.Pairwise (fun r s=>r.time < s.time)) (hc:CloseTo l l.length):(chainP (relP n l) l.length).length=l.length:=by
 refine chain_full fun i hi=>?_
 rw[relP_eq (by omega) hi]
 unfold plB
 rw[decide_eq_true_eq]
 have h1:=hc i hi hi
 have h2:=List.pairwise_iff_getElem.1 ha i (i+1) (by omega) hi (by omega)
 have h3:0≤n*(l[i+1].time-l[i].time):=Int.mul_nonneg h0 (by omega)
 exact⟨h2,by omega⟩
theorem faster_law (W:World) (q:Option Addr) (cap:Nat) (L:List Int) (hV:VecAt W q L) (hI:I64L L) (hl:L.length≤cap) (hc:cap≤9223372036854775807) (hT:HasTab W) :
  Calls Tryz.prog 6 #[.slice q L.length cap] W fun e w'=>e=.returned (.bool true)∧Below W.heap.size W w':=by
 go_enter Tryz.func6,Tryz.ntmps6
 go_wp2_with fail
 refine (knew_any q cap L W hV hI hl hc).mono ?_
 rintro e w1 ⟨rfl,hb,b,hblt,hs⟩
 clear hV hI
 have HT:=zN hT
 generalize min L.length 2000=N at *
 obtain⟨g,hg⟩:∃ g,g=W.heap.size:=⟨_,rfl⟩
 rw[←hg] at hs hblt ⊢
 have HG:=zN hg
 clear hg hT hl hc
 go_wp2_with fail
 refine (reports_any true 5 (by omega) w1 g b N 0 hs (fun h0=>by have:=hblt h0;have:=hb.size;have:=HG.out;omega)).mono ?_
 rintro e w2 ⟨v,l,rfl,hrow,hok,hasc,hlen,hg2,i2,hs2⟩
 obtain⟨p,cp,rfl,hcp,hV2,hpb⟩:=hrow.form (fun r hr=>(hok r hr).rdOk)
 replace hb:=hb.grown hg2 hb.size (fun k hk=>by injection hk with hk;have:=HG.out;omega)
 have hpg:∀ a,p=some a→0 < l.length→a.block≠g∧a.block < w2.heap.size:=fun a ha h0=>by
  obtain⟨b',e',h1,h2⟩:=hpb h0
  rw[ha] at e'
  have e2:a=⟨b',0,none⟩:=by injection e'
  have:=hs.lt
  rw[e2];exact⟨by show b'≠g;omega,h2⟩
 have HOK:=zN hok
 have HASC:=zN hasc
 have HPG:=zN hpg
 have HLN:=zN hlen
 clear hg2 hs hrow hok hasc hpb hpg hcp hlen
 clear w1
 go_wp2_with fail
 refine (srcRange_any w2 g b N i2 0 40 hs2 (by omega) (by omega) (by omega)).mono ?_
 rintro e w3 ⟨n,rfl,hn0,hn1,hg3,i3,hs3⟩
 replace hb:=hb.grown hg3 hb.size (fun k hk=>by injection hk with hk;have:=HG.out;omega)
 have hV3:VecR w3 p l:=hV2.gr hg3 (fun a ha h0=>(HPG.out a ha h0).1)
 have hs23:=hg3.size
 have HV3:=zN hV3
 have HB3:=zN hb
 clear hg3 hs2 hV2 hV3 hb
 obtain⟨e1,e2⟩:=chE_one (n:=n) hn0 (by omega) HOK.out HASC.out
 have HC1:=zN (Chain_any n p cp l (by have:=HLN.out;omega) w3 (HT.out.below HB3.out) HV3.out (fun a ha h0=>by have:=(HPG.out a ha h0).2;omega))
 rw[e1,e2] at HC1
 obtain⟨M,hM⟩:∃ M,M=l.length:=⟨_,rfl⟩
 have HM:=zN hM
 have hM5:M≤5:=by rw[hM];exact HLN.out
 rw[←hM] at HC1 ⊢
 obtain⟨ca,hca⟩:∃ ca,ca=chainP (relP n l) M:=⟨_,rfl⟩
 have HCA:=zN hca
 rw[←hca] at HC1
 clear e1 e2 hM hca
 go_wp2_with fail
 refine HC1.out.mono ?_
 rintro e w4 ⟨v1,rfl,hq4,hb4⟩
 obtain⟨p4,c4,rfl,_⟩:=own_slice hq4
 have hs4:=hs3.below hb4
 have HB4:=zN (HB3.out.trans (hb4.mono HB3.out.size))
 have HV4:=zN (HV3.out.below hb4)
 have hs34:=hb4.size
 clear hq4 hb4 hs3 HC1
 go_wp2_with fail
 refine (srcRange_any w4 g b N i3 0 200 hs4 (by omega) (by omega) (by omega)).mono ?_
 rintro e w5 ⟨d,rfl,hd0,hd1,hg5,i5,hs5⟩
 have HB5:=zN (HB4.out.grown hg5 HB4.out.size (fun k hk=>by injection hk with hk;have:=HG.out;omega))
 have HV5:=zN (HV4.out.gr hg5 (fun a ha h0=>(HPG.out a ha h0).1))
 have hs45:=hg5.size
 clear hg5 hs4
 obtain⟨e1,e2⟩:=chE_one (n:=n+d) (by omega) (by omega) HOK.out HASC.out
 have HC2:=zN (Chain_any (n+d) p cp l (by have:=HLN.out;omega) w5 (HT.out.below HB5.out) HV5.out (fun a ha h0=>by have:=(HPG.out a ha h0).2;omega))
 rw[e1,e2] at HC2
 rw[←HM.out] at HC2
 obtain⟨cb,hcb⟩:∃ cb,cb=chainP (relP (n+d) l) M:=⟨_,rfl⟩
 have hle:ca.length≤cb.length:=by
  rw[HCA.out,hcb]
  exact chain_mono (relP_mono (by omega)) M
 rw[←hcb] at HC2
 clear e1 e2 hcb
 go_wp2_with fail
 refine HC2.out.mono ?_
 rintro e w6 ⟨v2,rfl,hq6,hb6⟩
 obtain⟨p6,c6,rfl,_⟩:=own_slice hq6
 have HB6:=zN (HB5.out.trans (hb6.mono HB5.out.size))
 have HV6:=zN (HV5.out.below hb6)
 have hs56:=hb6.size
 obtain⟨la,hla⟩:∃ la,la=ca.length:=⟨_,rfl⟩
 obtain⟨lb,hlb⟩:∃ lb,lb=cb.length:=⟨_,rfl⟩
 rw[←hla,←hlb] at hle ⊢
 have HLA:=zN hla
 have hdl:decide ((lb:Int) < (la:Int))=false:=zDf (by omega)
 clear hq6 hb6 hs5 HC2 hla hlb
 go_wp2
 have hdn:decide (lb < la)=false:=zDf (by omega)
 rw[hdn]
 clear hdn
 have hs26:w2.heap.size≤w6.heap.size:=by omega
 go_loopw [10,11] (fun v10 v11 wr=>∃ k:Nat,1≤k∧(k≤M∨k=1)∧v11=.int .i64 (k:Int)∧v10=.bool (closeB l k)∧Below w6.heap.size w6 wr) (fun _ v11 _=>M-(intOf v11).toNat)
 case atStart=>exact⟨1,Nat.le_refl _,.inr rfl,rfl,by rw[closeB_one],zBr _ _⟩
 case round=>
  obtain⟨k,hk1,hkM,rfl,rfl,hb⟩:=hrel
  by_cases hk:k < M
  ·have hdk:decide ((k:Int) < (M:Int))=true:=zDt (by omega)
   obtain⟨i,rfl⟩:∃ i,k=i+1:=⟨k-1,by omega⟩
   obtain⟨bb,o,rfl,_,hrp⟩:=(HV6.out.below hb).cell (by rw[←HM.out];omega)
   have hri:=hrp i (by rw[←HM.out];omega)
   have hrj:=hrp (i+1) (by rw[←HM.out];omega)
   have hvi:=(HOK.out _ (List.getElem_mem (by rw[←HM.out];omega:i < l.length))).valR.pl
   have hvj:=(HOK.out _ (List.getElem_mem (by rw[←HM.out];omega:i+1 < l.length))).valR.pl
   have hcs:=closeB_succ l i (by rw[←HM.out];omega)
   generalize l[i]'(by rw[←HM.out];omega)=ri at hri hvi hcs
   generalize l[i+1]'(by rw[←HM.out];omega)=rj at hrj hvj hcs
   obtain⟨hpo,a1,a2,a3,a4⟩:=hvi
   obtain⟨hqo,b1,b2,b3,b4⟩:=hvj
   generalize plOf ri=pi at *
   generalize plOf rj=qj at *
   obtain⟨_,_,_,x3,x4,x5,x6,_,_⟩:=hri
   obtain⟨_,_,_,y3,y4,y5,y6,_,_⟩:=hrj
   rw[a1] at x3
   rw[a2] at x4
   rw[a3] at x5
   rw[a4] at x6
   rw[b1] at y3
   rw[b2] at y4
   rw[b3] at y5
   rw[b4] at y6
   have hpv:Hid (pv pi=.agg #[.int .i64 pi.f,.int .i64 pi.a,.int .i64 pi.b,.int .i64 pi.c]):=zN rfl
   have hqv:Hid (pv qj=.agg #[.int .i64 qj.f,.int .i64 qj.a,.int .i64 qj.b,.int .i64 qj.c]):=zN rfl
   have HPO:=zN hpo
   have HQO:=zN hqo
   have HCS:=zN hcs
   have hi0:(0:Int)≤(i:Int):=by omega
   have hi1:(i:Int) < (M:Int):=by omega
   have hj1:(i:Int)+1 < (M:Int):=by omega
   have HB:=zN hb
   clear hrp a1 a2 a3 a4 b1 b2 b3 b4 hpo hqo hcs hb
   go_wp2_with fail
   rw[←hpv.out]
   refine (rnearest_any 8 (by omega) (by omega) pi HPO.out wr).mono ?_
   rintro e w7 ⟨T1,rfl,hT1,hb7⟩
   rw[nearN_eq hT1]
   replace y3:=zP hb7 y3
   replace y4:=zP hb7 y4
   replace y5:=zP hb7 y5
   replace y6:=zP hb7 y6
   have HB7:=zN (HB.out.trans (hb7.mono HB.out.size))
   clear hT1 hb7 x3 x4 x5 x6
   go_wp2_with fail
   rw[←hqv.out]
   refine (rnearest_any 8 (by omega) (by omega) qj HQO.out w7).mono ?_
   rintro e w8 ⟨T2,rfl,hT2,hb8⟩
   rw[nearN_eq hT2]
   have HB8:=zN (HB7.out.trans (hb8.mono HB7.out.size))
   clear hT2 hb8 y3 y4 y5 y6
   go_wp2_with fail
   refine (rhops_at 8 (nearN pi) (nearN qj) (by omega) (by omega) (nearN_lt HPO.out) (nearN_lt HQO.out) w8).mono ?_
   rintro e w9 ⟨rfl,_,hb9⟩
   rw[←hopN_eq HPO.out]
   have HB9:=zN (HB8.out.trans (hb9.mono HB8.out.size))
   clear hb9
   generalize hopN pi qj=h at *
   cases hcl:closeB l (i+1)
   ·have HR:Hid (closeB l (i+2)=false):=zN (by rw[HCS.out,hcl];rfl)
    go_wp2
    go_roundw
    case rel=>
     exact⟨i+2,by omega,.inl (by omega),by first|go_num|(congr 1;omega),by rw[HR.out],HB9.out⟩
    case measure=>simp[intOf]<;>omega
   ·have HR:Hid (closeB l (i+2)=decide (h≤1)):=zN (by rw[HCS.out,hcl];rfl)
    go_wp2
    go_roundw
    case rel=>
     exact⟨i+2,by omega,.inl (by omega),by first|go_num|(congr 1;omega),by rw[HR.out],HB9.out⟩
    case measure=>simp[intOf]<;>omega
  ·have hdk:decide ((k:Int) < (M:Int))=false:=zDf (by omega)
   have HTW:=zN (HT.out.below (HB6.out.trans (hb.mono HB6.out.size)))
   have HBW:=zN (HB6.out.trans (hb.mono HB6.out.size))
   clear hb
   cases hcl:closeB l k
   ·go_wp2_with fail
    refine (awake12_any wr HTW.out).mono ?_
    rintro e w7 ⟨rfl,hb7⟩
    have HB7:=zN (HBW.out.trans (hb7.mono HBW.out.size))
    clear hb7
    go_wp2
    go_ret
    exact⟨rfl,HB7.out⟩
   ·have hlm:la=M:=by
     rw[HLA.out,HCA.out,HM.out]
     exact close_full hn0 HASC.out (closeB_all (by have:=HM.out;omega) hcl)
    have hde:((la:Int) == (M:Int))=true:=by rw[beq_iff_eq];omega
    go_wp2_with fail
    refine (awake12_any wr HTW.out).mono ?_
    rintro e w7 ⟨rfl,hb7⟩
    have HB7:=zN (HBW.out.trans (hb7.mono HBW.out.size))
    clear hb7
    go_wp2
    go_ret
    exact⟨rfl,HB7.out⟩
end Go.Proofs.YtbomggfklfbnkaaGreatDoor
