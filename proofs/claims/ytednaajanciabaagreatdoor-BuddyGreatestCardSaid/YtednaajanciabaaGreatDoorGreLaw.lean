import Derived.Test.YtednaajanciabaaGreatDoorKBAwk
import Derived.Test.YtednaajanciabaaGreatDoorKBCtl
import Derived.Test.YtednaajanciabaaGreatDoorBGreP
import Derived.Deep.CutBlock
set_option maxRecDepth 100000
set_option maxHeartbeats 8000000
set_option linter.unusedSimpArgs false
set_option linter.unusedVariables false
namespace Go.Proofs.YtednaajanciabaaGreatDoor
open Go.RowKit Go.Grid Go.Buddy
theorem has_succG {A:List I2} {t:I2} {j:Nat} (h:j < A.length):(A.take (j+1)).contains t=((A.take j).contains t || decide (A[j]=t)):=by
 rw[List.take_succ_eq_append_getElem h,List.contains_eq_mem,List.contains_eq_mem,Bool.eq_iff_iff,Bool.or_eq_true,decide_eq_true_eq,decide_eq_true_eq,decide_eq_true_eq,List.mem_append,List.mem_singleton]
 exact or_congr Iff.rfl eq_comm
theorem gre_law (W:World) (q:Option Addr) (cap:Nat) (Z:List Int) (q2:Option Addr) (cap2:Nat) (Z2:List Int) (hV:VecAt W q Z) (hI:I64L Z) (hl:Z.length≤cap) (hc:cap≤9223372036854775807) (hV2:VecAt W q2 Z2) (hI2:I64L Z2) (hl2:Z2.length≤cap2) (hc2:cap2≤9223372036854775807) (hT:HasTab W) (hB:HasBnd W) :
  Calls Tryz.prog 3 #[.slice q Z.length cap,.slice q2 Z2.length cap2] W fun e w'=>e=.returned (.bool true)∧Below W.heap.size W w':=by
 go_enter Tryz.func3,Tryz.ntmps3
 go_wp2_with fail
 refine (knew_any q cap Z W hV hI hl hc).mono ?_
 rintro e w1 ⟨rfl,hb,b,hblt,hs⟩
 clear hV hI
 have HV2:=zN hV2
 have HI2:=zN hI2
 have HL2:=zN hl2
 have HC2:=zN hc2
 clear hV2 hI2 hl2 hc2
 have HT:=zN hT
 have HBN:=zN hB
 generalize min Z.length 2000=N at *
 obtain⟨g,hg⟩:∃ g,g=W.heap.size:=⟨_,rfl⟩
 rw[←hg] at hs hblt ⊢
 have HG:=zN hg
 have HB1:=zN hb
 have HBL:=zN hblt
 have hg1:=hs.lt
 clear hg hT hB hl hc hb hblt
 go_wp2_with fail
 refine (crowd_any w1 g b N 0 hs 9 (by omega) 14000000 (by omega) (by omega)).mono ?_
 rintro e w2 ⟨v,X,rfl,hrow,hok,hlen,hg2,hs2⟩
 obtain⟨p,cp,rfl,hcp,_,hpb⟩:=hrow.form
 have HB2:=zN (HB1.out.grown hg2 HB1.out.size (fun k hk=>by injection hk with hk;have:=HG.out;omega))
 have hsz2:=hg2.size
 have HROW:=zN hrow
 have HCO:=zN hok
 have HFX:Hid (∀ x∈X,vaB x.1=true∧valE x.2=0):=zN (fun x hx=>⟨(hok x hx).va,(hok x hx).ve⟩)
 have HPB:=zN hpb
 obtain⟨m,hm⟩:∃ m,m=X.length:=⟨_,rfl⟩
 have hmN:m≤9:=by omega
 rw[←hm] at HROW HPB hcp ⊢
 have HXM:=zN hm.symm
 obtain⟨ix,hsx⟩:=hs2
 clear hrow hok hlen hg2 hs hpb hm
 go_wp2_with fail
 refine (control_any w2 g b N ix hsx).mono ?_
 rintro e w6 ⟨kc,rfl,hko,hg6,i6,hs6⟩
 have HB6:=zN (HB2.out.grown hg6 HB2.out.size (fun k hk=>by injection hk with hk;have:=HG.out;omega))
 have HR6:=zN (HROW.out.kept (some g) hg6 (fun k e=>.inl (by injection e with e;omega)))
 have HKO:=zN hko
 have HS6:=zN hs6
 have hsz6:w2.heap.size≤w6.heap.size:=hg6.size
 clear hko hg6 hsx HROW HB2 hs6
 have HZN:=zN (CtlAt.new w6 ⟨0,fun _=>0,fun _=>0,0,fun _=>0,0,0,0⟩)
 have HZB:Hid (Below w6.heap.size w6 (w6.alloc (.cells #[.int .i64 0,.int .i64 0,.int .i64 0,.int .i64 0,.int .i64 0,.int .i64 0,.int .i64 0,.int .i64 0,.int .i64 0,.int .i64 0,.int .i64 0,.int .i64 0,.int .i64 0,.int .i64 0,.int .i64 0,.int .i64 0,.int .i64 0,.int .i64 0,.int .i64 0,.int .i64 0,.int .i64 0,.int .i64 0,.int .i64 0,.int .i64 0,.int .i64 0,.int .i64 0,.int .i64 0,.int .i64 0,.int .i64 0,.int .i64 0,.int .i64 0,.int .i64 0,.int .i64 0,.int .i64 0,.int .i64 0,.int .i64 0,.int .i64 0,.int .i64 0,.int .i64 0,.int .i64 0,.int .i64 0] 29))):=zN ((zBr _ _).alloc (Nat.le_refl _) _)
 go_wp2_with (refine wpl_storeC (by rfl) (.tmp 7) (.tmp 33) (by rfl) w6.heap.size _ kc (by rfl) (by rfl) HZN.out ?_;refine Hid.out ?_)
 refine zN ?_
 have HC7:Hid (CtlAt ((w6.alloc (.cells #[.int .i64 0,.int .i64 0,.int .i64 0,.int .i64 0,.int .i64 0,.int .i64 0,.int .i64 0,.int .i64 0,.int .i64 0,.int .i64 0,.int .i64 0,.int .i64 0,.int .i64 0,.int .i64 0,.int .i64 0,.int .i64 0,.int .i64 0,.int .i64 0,.int .i64 0,.int .i64 0,.int .i64 0,.int .i64 0,.int .i64 0,.int .i64 0,.int .i64 0,.int .i64 0,.int .i64 0,.int .i64 0,.int .i64 0,.int .i64 0,.int .i64 0,.int .i64 0,.int .i64 0,.int .i64 0,.int .i64 0,.int .i64 0,.int .i64 0,.int .i64 0,.int .i64 0,.int .i64 0,.int .i64 0] 29)).setCells w6.heap.size 0 (ctlL kc)) w6.heap.size kc):=zN (HZN.out.store kc)
 have HB7:Hid (Below w6.heap.size w6 ((w6.alloc (.cells #[.int .i64 0,.int .i64 0,.int .i64 0,.int .i64 0,.int .i64 0,.int .i64 0,.int .i64 0,.int .i64 0,.int .i64 0,.int .i64 0,.int .i64 0,.int .i64 0,.int .i64 0,.int .i64 0,.int .i64 0,.int .i64 0,.int .i64 0,.int .i64 0,.int .i64 0,.int .i64 0,.int .i64 0,.int .i64 0,.int .i64 0,.int .i64 0,.int .i64 0,.int .i64 0,.int .i64 0,.int .i64 0,.int .i64 0,.int .i64 0,.int .i64 0,.int .i64 0,.int .i64 0,.int .i64 0,.int .i64 0,.int .i64 0,.int .i64 0,.int .i64 0,.int .i64 0,.int .i64 0,.int .i64 0] 29)).setCells w6.heap.size 0 (ctlL kc))):=zN (below_setC HZB.out (Nat.le_refl _) _)
 generalize ((w6.alloc (.cells #[.int .i64 0,.int .i64 0,.int .i64 0,.int .i64 0,.int .i64 0,.int .i64 0,.int .i64 0,.int .i64 0,.int .i64 0,.int .i64 0,.int .i64 0,.int .i64 0,.int .i64 0,.int .i64 0,.int .i64 0,.int .i64 0,.int .i64 0,.int .i64 0,.int .i64 0,.int .i64 0,.int .i64 0,.int .i64 0,.int .i64 0,.int .i64 0,.int .i64 0,.int .i64 0,.int .i64 0,.int .i64 0,.int .i64 0,.int .i64 0,.int .i64 0,.int .i64 0,.int .i64 0,.int .i64 0,.int .i64 0,.int .i64 0,.int .i64 0,.int .i64 0,.int .i64 0,.int .i64 0,.int .i64 0] 29)).setCells w6.heap.size 0 (ctlL kc))=w7 at *
 have HBW7:=zN (HB6.out.trans (HB7.out.mono HB6.out.size))
 have HR7:=zN (HR6.out.below HB7.out)
 have HS7:=zN (HS6.out.below HB7.out)
 have hsz7:=HB7.out.size
 obtain⟨RB,hRB⟩:∃ RB,RB=w6.heap.size:=⟨_,rfl⟩
 rw[←hRB] at HC7 ⊢
 have HRB:=zN hRB
 have hgRB:g < RB:=by have:=HS6.out.lt;omega
 have hRW:w2.heap.size≤RB:=by omega
 clear hRB HZN HZB HB6 HR6 HS6 HB7
 have hC7:=HC7.out
 obtain⟨px,cx,ex,_,hVX,_⟩:=HR7.out.form
 rw[HXM.out] at ex
 injection ex with e1 _ e3
 subst e1 e3
 have HVX:=zN hVX
 have HEX:=zN (chkE_ok HKO.out HFX.out)
 have HCK:=zN (bcheck_any p cp m X HXM.out (by omega) kc w7 (HT.out.below HBW7.out) (HBN.out.below HBW7.out) HVX.out)
 rw[HEX.out] at HCK
 clear hVX
 go_wp2_with (first|(refine wpl_loadC (by rfl) (.tmp 7) (by rfl) RB kc (by rfl) hC7 ?_;refine Hid.out ?_))
 refine zN ?_
 go_wp2_with fail
 refine HCK.out.mono ?_
 rintro e w8 ⟨v8,rfl,hb8,hF8⟩
 obtain⟨pa,ca,rfl,hca⟩:=hF8.slice
 have HFA:=zN hF8
 have HB8:=zN (HBW7.out.trans (hb8.mono HBW7.out.size))
 have HC8:=zN (HC7.out.below hb8)
 have HV8:=zN (HVX.out.below hb8)
 have HCL:=zN (fun v=>mem_chkL (v:=v) HEX.out)
 obtain⟨A,hA⟩:∃ A,A=chkL kc X:=⟨_,rfl⟩
 rw[←hA] at HFA hca HCL ⊢
 obtain⟨na,hna⟩:∃ na,na=A.length:=⟨_,rfl⟩
 have hna9:na≤1000000:=by
  rw[hna,hA]
  unfold chkL
  split
  ·have h1:=outC_len kc.fr.toNat X kc.bd 12
   have h2:(sort2 (outC kc.fr.toNat X kc.bd 12)).length=(outC kc.fr.toNat X kc.bd 12).length:=(List.mergeSort_perm _ _).length_eq
   rw[HXM.out] at h1
   omega
  ·simp
 rw[←hna] at HFA hca ⊢
 have HNA:=zN hna.symm
 clear hA hna hb8 hF8 HCK HVX HC7 HR7 HBW7 hC7 HS7
 obtain⟨n,hn⟩:∃ n:Nat,kc.fr=(n:Int):=⟨kc.fr.toNat,by have:=HKO.out.fr.1;omega⟩
 have hn1:1≤n:=by have:=HKO.out.fr.1;omega
 have hn8:n≤8:=by have:=HKO.out.fr.2;omega
 have HNF:=zN hn
 have c38:=HC8.out.c38
 rw[hn] at c38
 clear hn
 go_wp2_with fail
 refine (rclose_any n hn1 hn8 p cp m X HXM.out (by omega) w8 HV8.out (fun x hx=>(HFX.out x hx).1)).mono ?_
 rintro e w9 ⟨C,rfl,hN,hC,hb9⟩
 have HA9:=zN (AroAt.of_next hN)
 have HB9:=zN (HB8.out.trans (hb9.mono HB8.out.size))
 have HC9:=zN (HC8.out.below hb9)
 have HV9:=zN (HV8.out.below hb9)
 have HFA9:=zN (HFA.out.below hb9)
 clear hb9 hN hC c38 HC8 HV8 HFA HB8
 go_wp2_with fail
 refine (knew_any q2 cap2 Z2 w9 (HV2.out.below HB9.out) HI2.out HL2.out HC2.out).mono ?_
 rintro e w10 ⟨rfl,hb10,b2,hblt2,hs10⟩
 obtain⟨g2,hg2⟩:∃ g2,g2=w9.heap.size:=⟨_,rfl⟩
 generalize min Z2.length 2000=N2 at *
 rw[←hg2] at hs10 hblt2 ⊢
 have HBL2:=zN hblt2
 have HS10:=zN hs10
 have HBT:=zN hb10
 have hgg2:w9.heap.size≤g2:=by omega
 clear hg2 hb10 hblt2 hs10 HV2 HI2 HL2 HC2
 have HGC:Hid (∀ c,c < 12→(kc.bd c:Int)≥0):=zN (fun c hc=>by rcases HKO.out.bd c hc with h|h|h|h<;>omega)
 have hmL:=run_make_row' (P:=Tryz.prog) 37 4 (.bool false) 1 Tryz.underlying37 (by kernel_rfl) rfl .i64 .i64 m (by omega) (by omega)
 have hmN:=run_make_row' (P:=Tryz.prog) 35 22 (.slice none 0 0) 24 Tryz.underlying35 (by kernel_rfl) rfl .i64 .i64 m (by omega) (by omega)
 go_wp2
 go_loopw [12] (fun v12 wr=>∃ c:Nat,1≤c∧c≤12∧v12=.int .i64 (c:Int)∧Hid (Below w9.heap.size w9 wr∧∃ j,SrcAt wr g2 b2 N2 j)) (fun v12 _=>12-(intOf v12).toNat)
 case atStart=>exact⟨1,by omega,by omega,rfl,zN ⟨HBT.out,_,HS10.out⟩⟩
 case round=>
  clear HBT HS10
  obtain⟨c,hc1,hc12,rfl,HH⟩:=hrel
  by_cases hc:c < 12
  ·have hdc:decide ((c:Int)≤11)=true:=zDt (by omega)
   have hc0:(0:Int)≤(c:Int):=by omega
   have hcI:(c:Int) < 12:=by omega
   have HG0:=zN (GreS.made (m:=m) (by omega) HH.out.1 HH.out.2 hgg2)
   have HAL:Hid (∀ i,aroL n X (c:Int) i=if fB (bat X i).2 (c:Int) then (cloL n X i).filter (fun j=>fB (bat X j).2 (c:Int)) else []):=zN (fun i=>aroL_clo n X c i)
   go_wp2
   refine absW (F:=fun w'=>Hid (GreS w9 w' wr.heap.size m g2 b2 N2 (fun _=>false) (fun _=>[]))) HG0 ?_
   rintro w11 HG1
   obtain⟨LB,hLB⟩:∃ LB,LB=wr.heap.size:=⟨_,rfl⟩
   obtain⟨NB,hNB⟩:∃ NB,NB=LB+1:=⟨_,rfl⟩
   rw[←hLB] at HG1 ⊢
   have HNB:=zN hNB
   rw[←hNB]
   clear HG0 HH hLB hNB
   clear wr
   go_loopw [60] (fun v60 wx=>∃ i:Nat,i≤m∧v60=.int .i64 (i:Int)∧Hid (GreS w9 wx LB m g2 b2 N2 (fun j=>decide (j < i) && fB (bat X j).2 (c:Int)) (fun j=>if j < i then natI (aroL n X (c:Int) j) else []))) (fun v60 _=>m-(intOf v60).toNat)
   case atStart=>exact⟨0,by omega,rfl,zN (HG1.out.congr (fun j _=>by simp) (fun j _=>by simp))⟩
   case round=>
    clear HG1
    obtain⟨i,him,rfl,HG⟩:=hrel
    by_cases hi:i < m
    ·have hdi:decide ((i:Int) < (m:Int))=true:=zDt (by omega)
     have hi0:(0:Int)≤(i:Int):=by omega
     have hi1:(i:Int) < (m:Int):=by omega
     have hiX:i < X.length:=by rw[HXM.out];exact hi
     have hVw:=HV9.out.below HG.out.bl
     obtain⟨bb,o,rfl,hbbl,hrp⟩:=HV9.out.cell (by omega)
     have HRP:=zN hrp
     have hri:=(hrp i hiX).below HG.out.bl
     have hok:=hVw.r _ (List.getElem_mem hiX)
     rw[←bat_eq hiX] at hri hok
     obtain⟨x,hx⟩:∃ x,x=bat X i:=⟨_,rfl⟩
     rw[←hx] at hri hok
     obtain⟨qx,cq,hrd,hR⟩:=hok.ex
     obtain⟨nr,hnr⟩:∃ nr,nr=x.2.length:=⟨_,rfl⟩
     have hnr9:nr≤1000000000:=by rw[hnr];exact hok.len
     obtain⟨c0,c1,c2,c3,c4,c5,c6,c7,_⟩:=hri
     rw[hrd,←hnr] at c7
     have HC:=zN (rfind04_any qx x.2 cq nr (c:Int) wr hnr.symm hR hnr9)
     obtain⟨fi,hfi⟩:∃ fi,fi=fB x.2 (c:Int):=⟨_,rfl⟩
     rw[←hfi] at HC
     have HFI:Hid (fB (bat X i).2 (c:Int)=fi):=zN (by rw[hfi,hx])
     have z0:=(HG.out.left.at_ hi).1
     have z1:=(HG.out.left.at_ hi).2
     have HG2:=zN (HG.out.set hi fi)
     obtain⟨pc,cc,y0,hc2⟩:=AroAt.rdG HA9.out hi
     rw[cloR_eq] at y0 hc2
     rw[natI_len] at y0 hc2
     have y1:=zP HG.out.bl y0
     have hClt:C < LB:=by have h1:=HA9.out.lt;have h2:=HG.out.gl;omega
     have HAI:=HAL.out i
     rw[HFI.out] at HAI
     have HAI:=zN HAI
     obtain⟨D,hD⟩:∃ D,D=cloL n X i:=⟨_,rfl⟩
     have HDL:Hid (∀ j∈D,j < m):=zN (fun j hj=>by rw[hD] at hj;rw[←HXM.out];exact cloL_lt hj)
     have hDn:D.length≤m:=by rw[hD,←HXM.out];exact filt_le _ _
     rw[←hD] at y1 hc2 HAI
     obtain⟨d,hd⟩:∃ d,d=D.length:=⟨_,rfl⟩
     rw[←hd] at y1 hc2 hDn
     have HD:=zN hd.symm
     have HC2:=zN hc2
     obtain⟨S1,hS1⟩:∃ S1:Nat→Bool,S1=(fun t=>if t=i then fi else decide (t < i) && fB (bat X t).2 (c:Int)):=⟨_,rfl⟩
     rw[←hS1] at HG2
     have HS1:=zN hS1
     obtain⟨ls0,hls0⟩:∃ ls0:Nat→List Int,ls0=(fun j=>if j < i then natI (aroL n X (c:Int) j) else []):=⟨_,rfl⟩
     rw[←hls0] at HG2
     have HLS:=zN hls0
     have HSI:Hid (S1 i=fi):=zN (by rw[hS1];simp)
     have hLw:=HG.out.left.blk.2
     clear hVw hrp hok hx hrd hR hnr hfi c0 c1 c2 c3 c4 c5 c6 y0 hc2 hD hd hS1 hls0 HG
     go_wp2_with fail
     refine HC.out.mono ?_
     rintro e w12 ⟨rfl,hw12⟩
     rw[←hw12]
     clear HC c7 hw12
     go_wp2
     go_loopw [81] (fun v81 wy=>∃ k:Nat,k≤d∧v81=.int .i64 (k:Int)∧Hid (GreS w9 wy LB m g2 b2 N2 S1 (setTo ls0 i (natI (if fi=true then (D.take k).filter (fun j=>fB (bat X j).2 (c:Int)) else []))))) (fun v81 _=>d-(intOf v81).toNat)
     case atStart=>exact⟨0,by omega,rfl,zN (HG2.out.congr (fun _ _=>rfl) (fun j _=>by
      unfold setTo
      by_cases e:j=i
      ·rw[if_pos e,HLS.out,e];simp[natI]
      ·rw[if_neg e]))⟩
     case round=>
      clear HG2 z0 z1 y1
      obtain⟨k,hkn,rfl,HG⟩:=hrel
      by_cases hk:k < d
      ·have hdk:decide ((k:Int) < (d:Int))=true:=zDt (by omega)
       have hk0:(0:Int)≤(k:Int):=by omega
       have hk1:(k:Int) < (d:Int):=by omega
       have hkD:k < D.length:=by rw[HD.out];exact hk
       have hRd:VecAt w9 pc (natI D):=by
        obtain⟨p2,c2,e2,_,h2⟩:=HC2.out
        injection e2 with e3 e4 e5
        rw[e3];exact h2
       obtain⟨cb,co,rfl,hcbl,hcc⟩:=hRd.cell (by rw[natI_len];omega)
       have hcD:=zP HG.out.bl (hcc k (by rw[natI_len];exact hkD))
       have ecD:(natI D)[k]'(by rw[natI_len];exact hkD)=((D[k]:Nat):Int):=by simp[natI]
       rw[ecD] at hcD
       have HFS:=zN (filtT_succ (f:=fun j=>fB (bat X j).2 (c:Int)) hkD)
       have hjm:=HDL.out _ (List.getElem_mem hkD)
       obtain⟨j,hj⟩:∃ j,j=D[k]:=⟨_,rfl⟩
       rw[←hj] at hcD HFS hjm
       have hj0:(0:Int)≤(j:Int):=by omega
       have hj1:(j:Int) < (m:Int):=by omega
       have hjX:j < X.length:=by rw[HXM.out];exact hjm
       have hVw:=HV9.out.below HG.out.bl
       have hrk:=(HRP.out j hjX).below HG.out.bl
       have hok:=hVw.r _ (List.getElem_mem hjX)
       rw[←bat_eq hjX] at hrk hok
       obtain⟨rk,hrke⟩:∃ rk,rk=bat X j:=⟨_,rfl⟩
       rw[←hrke] at hrk hok HFS
       obtain⟨qk,ck,hrd,hRk⟩:=hok.ex
       obtain⟨nk,hnk⟩:∃ nk,nk=rk.2.length:=⟨_,rfl⟩
       have hnk9:nk≤1000000000:=by rw[hnk];exact hok.len
       obtain⟨y0,y1,y2,y3,y4,y5,y6,y7,_⟩:=hrk
       rw[hrd,←hnk] at y7
       have HC:=zN (rfind04_any qk rk.2 ck nk (c:Int) wr hnk.symm hRk hnk9)
       obtain⟨fk,hfk⟩:∃ fk,fk=fB rk.2 (c:Int):=⟨_,rfl⟩
       rw[←hfk] at HC HFS
       have z0:=(HG.out.left.at_ hi).1
       rw[HSI.out] at z0
       have HTl:Hid (((D.take k).filter (fun j=>fB (bat X j).2 (c:Int))).length≤100000):=zN (by
        have h1:=filtT_le (fun j=>fB (bat X j).2 (c:Int)) D k
        have h2:=HD.out
        omega)
       clear hVw hok hrke hrd hRk hnk hfk hj ecD hcc hRd y0 y1 y2 y3 y4 y5 y6
       go_wp2_with fail
       refine HC.out.mono ?_
       rintro e w13 ⟨rfl,hw13⟩
       rw[←hw13]
       clear HC y7 hcD hw13
       cases fk with
       |false=>
        have HF:Hid ((D.take (k+1)).filter (fun j=>fB (bat X j).2 (c:Int))=(D.take k).filter (fun j=>fB (bat X j).2 (c:Int))):=zN (by rw[HFS.out,if_neg (by simp),List.append_nil])
        go_wp2
        go_roundw
        case rel=>exact⟨k+1,by omega,by go_num,zN (by rw[HF.out];exact HG.out)⟩
        case measure=>simp[intOf]<;>omega
       |true=>
        have HF:Hid ((D.take (k+1)).filter (fun j=>fB (bat X j).2 (c:Int))=(D.take k).filter (fun j=>fB (bat X j).2 (c:Int)) ++ [j]):=zN (by rw[HFS.out,if_pos rfl])
        cases fi with
        |false=>
         go_wp2
         go_roundw
         case rel=>exact⟨k+1,by omega,by go_num,zN (HG.out.congr (fun _ _=>rfl) (fun _ _=>by rw[if_neg (by simp),if_neg (by simp)]))⟩
         case measure=>simp[intOf]<;>omega
        |true=>
         obtain⟨T,hT⟩:∃ T,T=(D.take k).filter (fun j=>fB (bat X j).2 (c:Int)):=⟨_,rfl⟩
         have hTl:=HTl.out
         have HG3:=HG.out
         rw[if_pos rfl,←hT] at HG3
         rw[←hT] at hTl HF
         have hws:LB+1+1≤wr.heap.size:=by have:=HG3.near.lt;omega
         obtain⟨vs,hr,ho,hd⟩:=HG3.near
         obtain⟨pa3,ca3,hva,hca3⟩:=own_slice (ho i hi)
         have kc:=hr.cell hi
         have kf:=hr.frozen i
         have hoa:=ho i hi
         have els:setTo ls0 i (natI T) i=natI T:=by unfold setTo;rw[if_pos rfl]
         rw[els,natI_len] at hva hca3 hoa
         rw[hva] at kc hoa
         obtain⟨la,hla⟩:∃ la,la=T.length:=⟨_,rfl⟩
         rw[←hla] at kc hoa hva hca3 hTl
         have HXA:=zN (And.intro hr (And.intro ho hd))
         have HLA:=zN (And.intro hva (And.intro hla els))
         have HG3:=zN HG3
         have hClb:LB+1 < wr.heap.size:=by omega
         have HWS:=zN hws
         rw[←HNB.out] at kc kf
         have hNl:NB < wr.heap.size:=by rw[HNB.out];exact hClb
         have hNe:NB=LB+1:=HNB.out
         have HNE:=zN hNe
         clear HG hT HTl hr ho hd hva hla els hNe
         go_wp2_with (refine RX.wpl_app (by rfl) elIn _ _ (by rfl) (LB+1+1) _ _ _ (World.ownsRow.alloc hoa _) (by rfl) wr.heap.size _ 1 (by rfl) (heap_alloc_new _ _) (by rfl) (by simp[Value.oneCell']) (by omega) (by omega) (by simp;omega) ?_;intro vq w4 hown4 hb4 hg4 hat4;have hg5:wr.grownBy w4 (Value.slice pa3 la ca3).ownBlock:=(World.grownBy_alloc wr _ _).trans hg4;have hnC:some NB≠(Value.slice pa3 la ca3).ownBlock:=(fun e=>by have:=(World.ownsRow.lt hoa NB e.symm).1;have:=HNE.out;omega);have y0:=hg5.cell kc hnC;have y1:w4.frozen? ⟨NB,i,none⟩=false:=(zFb (hg5.block NB hNl hnC)).trans kf;obtain⟨pq,cq,hvq,_⟩:=own_slice hown4;subst hvq;have HW4:=zN (And.intro hown4 (And.intro hb4 (And.intro hg5 hat4)));clear hown4 hb4 hg4 hg5 hat4 kc kf hoa hnC)
         have HNN:Hid (GreS w9 (w4.setCell ⟨NB,i,none⟩ (.slice pq (la+1) cq)) LB m g2 b2 N2 S1 (setTo ls0 i (natI (if true=true then (D.take (k+1)).filter (fun j=>fB (bat X j).2 (c:Int)) else [])))):=zN (by
          obtain⟨e1,e2,els⟩:=HLA.out
          obtain⟨q1,q2,q3⟩:=HXA.out
          obtain⟨o1,o2,o3,o4⟩:=HW4.out
          rw[HF.out,HNE.out]
          have hb:Below (LB+1+1) wr w4:=(((zBr wr.heap.size wr).alloc (Nat.le_refl _) _).mono HWS.out).trans o2
          have h:=GreS.push HG3.out q1 q2 q3 hi (x:=(j:Int)) (v':=.slice pq (la+1) cq) (b0:=(wr.alloc (.cells #[.int .i64 (j:Int)] 3)).heap.size) (by rw[e1];exact o3) (by rw[els,natI_len,←e2];exact o1) (by rw[e1];exact o4) (by simp) hb
          exact h.congr (fun _ _=>rfl) (fun t _=>by
           unfold addTo
           by_cases e:t=i
           ·subst e;rw[if_pos rfl,els];unfold setTo;rw[if_pos rfl,if_pos rfl];simp[natI]
           ·rw[if_neg e];unfold setTo;rw[if_neg e,if_neg e]))
         clear HW4 HXA HLA
         go_wp2
         go_roundw
         case rel=>exact⟨k+1,by omega,by go_num,HNN⟩
         case measure=>simp[intOf]<;>omega
      ·have hdk:decide ((k:Int) < (d:Int))=false:=zDf (by omega)
       obtain rfl:k=d:=by omega
       have HGN:Hid (GreS w9 wr LB m g2 b2 N2 (fun j=>decide (j < i+1) && fB (bat X j).2 (c:Int)) (fun j=>if j < i+1 then natI (aroL n X (c:Int) j) else [])):=zN (HG.out.congr (fun j _=>by
        rw[HS1.out]
        by_cases e:j=i
        ·subst e;simp only[if_pos];rw[zDt (by omega),HFI.out];rfl
        ·simp only[if_neg e]
         have:decide (j < i+1)=decide (j < i):=by rw[decide_eq_decide];omega
         rw[this]) (fun j _=>by
        unfold setTo
        by_cases e:j=i
        ·subst e
         rw[if_pos rfl,if_pos (show j < j+1 by omega),HAI.out,List.take_of_length_le (by rw[HD.out];exact Nat.le_refl _)]
        ·rw[if_neg e,HLS.out]
         by_cases h2:j < i
         ·simp only[if_pos h2,if_pos (show j < i+1 by omega)]
         ·simp only[if_neg h2,if_neg (show ¬ j < i+1 by omega)]))
       clear HG
       go_wp2
       go_roundw
       case rel=>exact⟨i+1,by omega,by go_num,HGN⟩
       case measure=>simp[intOf]<;>omega
    ·have hdi:decide ((i:Int) < (m:Int))=false:=zDf (by omega)
     obtain rfl:i=m:=by omega
     have HG1:Hid (GreS w9 wr LB i g2 b2 N2 (fun j=>fB (bat X j).2 (c:Int)) (fun j=>natI (aroL n X (c:Int) j))):=zN (HG.out.congr (fun j hj=>by rw[zDt hj];rfl) (fun j hj=>by rw[if_pos hj]))
     clear HG
     obtain⟨lim,hlim⟩:∃ lim,lim=kc.bd c:=⟨_,rfl⟩
     have HLM:=zN hlim
     have HPO:Hid (PanOk (panB n X lim c)):=zN (panB_ok (by rw[HXM.out];omega) (fun x hx=>(HFX.out x hx).2))
     have HPD:Hid ((panB n X lim c).n=i∧∀ j,(panB n X lim c).pr j=fB (bat X j).2 (c:Int)):=zN ⟨HXM.out,fun _=>rfl⟩
     have HSU:Hid (∀ S j,supB X (aroL n X (c:Int) j) S j (c:Int) lim=Go.Buddy.stands (panB n X lim c) S j):=zN (fun S j=>supB_stands n X S j c lim)
     have HAR:Hid (∀ j,(∀ k∈aroL n X (c:Int) j,k < i)∧(aroL n X (c:Int) j).length≤100000):=zN (fun j=>⟨fun k hk=>by rw[←HXM.out];exact aroL_lt hk,by have h:=aroL_len n X (c:Int) j;rw[HXM.out] at h;omega⟩)
     have HBF:Hid (∀ j,badF n X kc.bd c j=(!(lim == 0) && rej (panB n X lim c) j)):=zN (fun j=>by unfold badF;rw[hlim])
     obtain⟨P,hP⟩:∃ P,P=panB n X lim c:=⟨_,rfl⟩
     rw[←hP] at HPO HPD HBF
     have HSU2:Hid (∀ S j,supB X (aroL n X (c:Int) j) S j (c:Int) lim=Go.Buddy.stands P S j):=zN (fun S j=>by rw[hP];exact HSU.out S j)
     have HG2:Hid (GreS w9 wr LB i g2 b2 N2 P.pr (fun j=>natI (aroL n X (c:Int) j))):=zN (HG1.out.congr (fun j _=>(HPD.out.2 j).symm) (fun _ _=>rfl))
     clear HG1 HSU hP hlim
     generalize wr=w21 at *
     have hcb:=HC9.out.bd c hc
     rw[←HLM.out] at hcb
     have hwl:=HG2.out.bl.size
     go_upto_block 6 with fail
     go_cut [20,21] from 114 to 160 (fun v20 v21 wx=>Hid (∃ S,GreS w9 wx LB i g2 b2 N2 S (fun j=>natI (aroL n X (c:Int) j))∧∀ j,j < i→badF n X kc.bd c j=(P.pr j && !S j)))
     case first=>
      go_wp2_with fail
      go_loopw [20] (fun v20 wx=>∃ S:Nat→Bool,Hid (GreS w9 wx LB i g2 b2 N2 S (fun j=>natI (aroL n X (c:Int) j))∧Keeps P S∧(lim≤0→∀ j,j < i→S j=P.pr j))) (fun v20 wx=>cntB i (celV wx (.slice (some ⟨LB,0,none⟩) i i)))
      case atStart=>exact⟨P.pr,zN ⟨HG2.out,Keeps.start P,fun _ _ _=>rfl⟩⟩
      case round=>
       clear HG2
       obtain⟨S,HG⟩:=hrel
       have zb:=zP HG.out.1.bl hcb
       by_cases hl:lim > 0
       ·have hdl:decide (lim > 0)=true:=zDt hl
        have HLP:=zN hl
        clear hl
        generalize wr=w22 at *
        go_wp2
        go_loopw [121,20] (fun v121 v20 wy=>∃ j:Nat,j≤i∧v121=.int .i64 (j:Int)∧Hid (QRow wy w22.heap.size v20 ((List.range j).filter (fun t=>S t && !Go.Buddy.stands P S t))∧Below w22.heap.size w22 wy)) (fun v121 _ _=>i-(intOf v121).toNat)
        case atStart=>exact⟨0,by omega,rfl,zN ⟨QRow.nil _ _,zBr _ _⟩⟩
        case round=>
         obtain⟨j,hji,rfl,HQ⟩:=hrel
         obtain⟨p20,c20,rfl,hc20⟩:=own_slice HQ.out.1
         have HQR:=zN HQ.out.1
         obtain⟨lb,hlb⟩:∃ lb,lb=((List.range j).filter (fun t=>S t && !Go.Buddy.stands P S t)).length:=⟨_,rfl⟩
         rw[←hlb] at hc20 HQR ⊢
         have HLB:=zN hlb
         replace HQ:Hid (Below w22.heap.size w22 wr):=zN HQ.out.2
         clear hlb
         by_cases hj:j < i
         ·have hdj:decide ((j:Int) < (i:Int))=true:=zDt (by omega)
          have hj0:(0:Int)≤(j:Int):=by omega
          have hj1:(j:Int) < (i:Int):=by omega
          have HGW:=zN (HG.out.1.below HQ.out)
          have z0:=(HGW.out.left.at_ hj).1
          have zl:=zP HGW.out.bl hcb
          obtain⟨pn,cn,z2,hrn⟩:=AroAt.rdG (AroAt.of_next HGW.out.near) hj
          rw[←HNB.out] at z2
          rw[natI_len] at z2 hrn
          have HFI2:=zN (filt_succ (fun t=>S t && !Go.Buddy.stands P S t) j)
          obtain⟨sj,hsj⟩:∃ sj,sj=S j:=⟨_,rfl⟩
          rw[←hsj] at z0 HFI2
          clear hsj
          have hSS:wr.drew.cell? ⟨LB,j,none⟩=some (.bool sj)∧wr.drew.cell? ⟨NB,j,none⟩=some (.slice pn (aroL n X (c:Int) j).length cn)∧wr.drew.cell? ⟨RB,26+c,none⟩=some (.int .i64 lim):=⟨z0,z2,zl⟩
          cases sj with
          |false=>
           have HN2:Hid (QRow wr.drew w22.heap.size (.slice p20 lb c20) ((List.range (j+1)).filter (fun t=>S t && !Go.Buddy.stands P S t))∧Below w22.heap.size w22 wr.drew):=zN ⟨by
            rw[HFI2.out,Bool.false_and,if_neg (by simp),List.append_nil]
            exact own_below HQR.out (zBd (zBr _ _)),HQ.out.drew⟩
           clear z0 z2 zl
           go_wp2_with fail
           refine RX.region RX.fN (fun w'=>w'.cell? ⟨LB,j,none⟩=some (.bool false)∧w'.cell? ⟨NB,j,none⟩=some (.slice pn (aroL n X (c:Int) j).length cn)∧w'.cell? ⟨RB,26+c,none⟩=some (.int .i64 lim)) (by kernel_rfl) (by kernel_rfl) (hSS) (fun OPS HO QR hQR=>?_)
           repeat (refine zeX (fun R hR=>?_);(first|refine zaX (by first|rfl|(rw[HO.out];rfl)) (by simp only[zA,zB,zC,zD];rfl) ?_|refine zbX (by first|rfl|(rw[HO.out];rfl)) rfl (by first|exact .inl rfl|exact .inr rfl) (by simp only[zE,zF,zG,zH];rfl) (by simp only[zA,zB,zC,zD];rfl) ?_|refine zcX (by first|rfl|(rw[HO.out];rfl)) rfl rfl (by simp only[zE,zF,zG,zH];rfl) (by simp only[zA,zB,zC,zD];rfl) ?_|(refine zdX (by first|rfl|(rw[HO.out];rfl)) rfl rfl rfl ?_;apply zEx;apply zEx;refine⟨fun w' hS K hK=>?_,?_,?_⟩;(focus ((obtain⟨z0,z1,z2⟩:=hS);go_wp2;exact hK _ _ (by simp only[zl,zG,zH];first|exact zf (by omega)|exact zg (by omega)|exact zh (by omega)|exact zi (by omega)|exact zj (by omega)|exact zk (by omega)|exact RX.bneB _|rfl) rfl));(focus (simp only[zA,zB,zC,zD];rfl))));refine hR _ _ ?_;clear hR R)
           refine RX.wpL_nil (hQR _ _ (hSS) ?_);clear hQR QR HO OPS
           clear hSS
           go_wp2
           go_roundw
           case rel=>exact⟨j+1,by omega,by go_num,HN2⟩
           case measure=>simp[intOf]<;>omega
          |true=>
           have HGD:=zN (HGW.out.below (zBd (zBr _ _)))
           have HNC:=rsupp_any p cp i X HXM.out (by omega) (fun x hx=>(HFX.out x hx).2) (aroL n X (c:Int) j) (HAR.out j).1 (HAR.out j).2 _ LB i S j hj (c:Int) lim wr.drew (HV9.out.below HGD.out.bl) (hrn.below (zBd (zBr _ _))) (fun t ht=>(HGD.out.left.at_ ht).1)
           rw[HSU2.out] at HNC
           have HNC:=zN HNC
           clear z0 z2 zl hrn
           go_wp2_with fail
           refine RX.region RX.fN (fun w'=>w'.cell? ⟨LB,j,none⟩=some (.bool true)∧w'.cell? ⟨NB,j,none⟩=some (.slice pn (aroL n X (c:Int) j).length cn)∧w'.cell? ⟨RB,26+c,none⟩=some (.int .i64 lim)) (by kernel_rfl) (by kernel_rfl) (hSS) (fun OPS HO QR hQR=>?_)
           repeat (refine zeX (fun R hR=>?_);(first|refine zaX (by first|rfl|(rw[HO.out];rfl)) (by simp only[zA,zB,zC,zD];rfl) ?_|refine zbX (by first|rfl|(rw[HO.out];rfl)) rfl (by first|exact .inl rfl|exact .inr rfl) (by simp only[zE,zF,zG,zH];rfl) (by simp only[zA,zB,zC,zD];rfl) ?_|refine zcX (by first|rfl|(rw[HO.out];rfl)) rfl rfl (by simp only[zE,zF,zG,zH];rfl) (by simp only[zA,zB,zC,zD];rfl) ?_|(refine zdX (by first|rfl|(rw[HO.out];rfl)) rfl rfl rfl ?_;apply zEx;apply zEx;refine⟨fun w' hS K hK=>?_,?_,?_⟩;(focus ((obtain⟨z0,z1,z2⟩:=hS);go_wp2;exact hK _ _ (by simp only[zl,zG,zH];first|exact zf (by omega)|exact zg (by omega)|exact zh (by omega)|exact zi (by omega)|exact zj (by omega)|exact zk (by omega)|exact RX.bneB _|rfl) rfl));(focus (simp only[zA,zB,zC,zD];rfl))));refine hR _ _ ?_;clear hR R)
           refine zeX (fun R hR=>?_)
           refine zgX (by first|rfl|(rw[HO.out];rfl)) rfl (fun K hK=>?_)
           go_wp2_with fail
           refine HNC.out.mono ?_
           rintro e w23 ⟨rfl,hb23⟩
           have hS23:w23.cell? ⟨LB,j,none⟩=some (.bool true)∧w23.cell? ⟨NB,j,none⟩=some (.slice pn (aroL n X (c:Int) j).length cn)∧w23.cell? ⟨RB,26+c,none⟩=some (.int .i64 lim):=⟨zP hb23 hSS.1,zP hb23 hSS.2.1,zP hb23 hSS.2.2⟩
           obtain⟨sb,hsb⟩:∃ sb,sb=Go.Buddy.stands P S j:=⟨_,rfl⟩
           rw[←hsb] at HFI2 ⊢
           have HQ23:=zN (own_below (own_below HQR.out (zBd (zBr _ _))) hb23)
           have HB23:Hid (Below w22.heap.size w22 w23):=zN (HQ.out.drew.trans (hb23.mono HQ.out.drew.size))
           clear hSS HNC hsb hb23
           refine hK _ _ ⟨hS23,hR _ _ ?_⟩;clear hK K hR R
           repeat (refine zeX (fun R hR=>?_);(first|refine zaX (by first|rfl|(rw[HO.out];rfl)) (by simp only[zA,zB,zC,zD];rfl) ?_|refine zbX (by first|rfl|(rw[HO.out];rfl)) rfl (by first|exact .inl rfl|exact .inr rfl) (by simp only[zE,zF,zG,zH];rfl) (by simp only[zA,zB,zC,zD];rfl) ?_|refine zcX (by first|rfl|(rw[HO.out];rfl)) rfl rfl (by simp only[zE,zF,zG,zH];rfl) (by simp only[zA,zB,zC,zD];rfl) ?_|(refine zdX (by first|rfl|(rw[HO.out];rfl)) rfl rfl rfl ?_;apply zEx;apply zEx;refine⟨fun w' hS K hK=>?_,?_,?_⟩;(focus ((obtain⟨z0,z1,z2⟩:=hS);go_wp2;exact hK _ _ (by simp only[zl,zG,zH];first|exact zf (by omega)|exact zg (by omega)|exact zh (by omega)|exact zi (by omega)|exact zj (by omega)|exact zk (by omega)|exact RX.bneB _|rfl) rfl));(focus (simp only[zA,zB,zC,zD];rfl))));refine hR _ _ ?_;clear hR R)
           refine RX.wpL_nil (hQR _ _ (hS23) ?_);clear hQR QR HO OPS
           clear hS23
           cases sb with
           |true=>
            have HN2:Hid (QRow w23 w22.heap.size (.slice p20 lb c20) ((List.range (j+1)).filter (fun t=>S t && !Go.Buddy.stands P S t))∧Below w22.heap.size w22 w23):=zN ⟨by
             rw[HFI2.out,if_neg (by simp),List.append_nil]
             exact HQ23.out,HB23.out⟩
            go_wp2
            go_roundw
            case rel=>exact⟨j+1,by omega,by go_num,HN2⟩
            case measure=>simp[intOf]<;>omega
           |false=>
            obtain⟨T,hT⟩:∃ T,T=(List.range j).filter (fun t=>S t && !Go.Buddy.stands P S t):=⟨_,rfl⟩
            have HF:Hid ((List.range (j+1)).filter (fun t=>S t && !Go.Buddy.stands P S t)=T ++ [j]):=zN (by rw[HFI2.out,if_pos (by rfl),hT])
            have hTl:T.length≤j:=by rw[hT];exact Nat.le_trans (List.length_filter_le _ _) (by rw[List.length_range];exact Nat.le_refl _)
            have hlT:lb=T.length:=by rw[HLB.out,hT]
            have hrow3:w23.ownsRow w22.heap.size 3 1 (.slice p20 lb c20) lb (qV T):=by
             have h:=HQ23.out
             rw[←hT] at h
             rw[←hlT] at h
             exact h
            have HLT:=zN hlT
            have hlb9:lb≤100000:=by omega
            have hs3:=HB23.out.size
            clear hT hTl hlT HQ23 HFI2
            go_wp2_with (refine RX.wpl_app (by rfl) elIn _ _ (by rfl) w22.heap.size _ _ _ (World.ownsRow.alloc hrow3 _) (by rfl) w23.heap.size _ 1 (by rfl) (heap_alloc_new _ _) (by rfl) (by simp[Value.oneCell']) (by omega) (by omega) (by simp;omega) ?_;intro vq w4 hown4 hb4 hg4 hat4;clear hat4)
            have HB4:=zN (HB23.out.trans (((zBr _ _).alloc (by omega) _).trans hb4))
            have HQ4:Hid (QRow w4 w22.heap.size vq (T ++ [j])):=zN (QRow.snoc (by rw[←HLT.out];exact hown4))
            clear hown4 hb4 hg4 hrow3
            go_wp2
            go_roundw
            case rel=>exact⟨j+1,by omega,by go_num,by rw[HF.out];exact zN ⟨HQ4.out,HB4.out⟩⟩
            case measure=>simp[intOf]<;>omega
         ·have hdj:decide ((j:Int) < (i:Int))=false:=zDf (by omega)
          obtain rfl:i=j:=by omega
          have HGW:=zN (HG.out.1.below HQ.out)
          by_cases hl0:lb=0
          ·have hz0:((lb:Int) == 0)=true:=by rw[hl0];rfl
           have HX2:Hid (∃ S,GreS w9 wr LB i g2 b2 N2 S (fun j=>natI (aroL n X (c:Int) j))∧∀ j,j < i→badF n X kc.bd c j=(P.pr j && !S j)):=zN ⟨S,HGW.out,fun j hj=>by
            have h1:∀ t,t < P.n→S t=true→Go.Buddy.stands P S t=true:=fun t ht hs=>by
             rw[HPD.out.1] at ht
             cases h2:Go.Buddy.stands P S t with
             |true=>rfl
             |false=>
              have h3:t∈(List.range i).filter (fun t=>S t && !Go.Buddy.stands P S t):=List.mem_filter.2 ⟨List.mem_range.2 ht,by simp only[hs,h2];rfl⟩
              have h4:=List.length_pos_of_mem h3
              have h5:=HLB.out
              omega
            have h6:=HG.out.2.1.fin h1 j (by rw[HPD.out.1];exact hj)
            have h7:(lim == 0)=false:=beq_eq_false_iff_ne.2 (by have:=HLP.out;omega)
            rw[HBF.out,h7,h6]
            unfold rej
            rfl⟩
           clear hl0 HGW HG
           go_wp2
           go_meet
           case rel=>exact HX2
          ·have hz0:((lb:Int) == 0)=false:=beq_eq_false_iff_ne.2 (by omega)
           have hl1:(1:Int)≤(lb:Int):=by omega
           have hl9:lb≤i:=by rw[HLB.out];exact Nat.le_trans (List.length_filter_le _ _) (by rw[List.length_range];exact Nat.le_refl _)
           obtain⟨jj,hjj⟩:=HGW.out.src
           have HNC:=zN (srcN_any wr g2 b2 N2 jj (lb:Int) hjj hl1 (by omega))
           obtain⟨BL,hBL⟩:∃ BL,BL=(List.range i).filter (fun t=>S t && !Go.Buddy.stands P S t):=⟨_,rfl⟩
           rw[←hBL] at HQR HLB
           have HBL:=zN hBL
           obtain⟨gb,cb,e0,_,_,_,_⟩:=own_cells HQR.out (by rw[←HLB.out];omega)
           injection e0 with e1 e2 e3
           subst e1 e3
           clear e2 hBL hjj hl0
           go_wp2_with fail
           refine HNC.out.mono ?_
           rintro e w24 ⟨x,rfl,hx0,hx1,hg24,hs24⟩
           obtain⟨xn,rfl⟩:∃ xn:Nat,x=(xn:Int):=⟨x.toNat,by omega⟩
           have hxl:xn < lb:=by omega
           have hsz:g2 < w22.heap.size:=by have h1:=HG.out.1.gl.2.1;have h2:=HG.out.1.near.lt;omega
           have hQ24:=HQR.out.kept hg24 (fun k hk=>by injection hk with hk;omega)
           obtain⟨u,hu⟩:∃ u,BL[xn]?=some u:=⟨_,List.getElem?_eq_getElem (by rw[←HLB.out];exact hxl)⟩
           obtain⟨gc,cc,e0,_,_,_,hcu⟩:=hQ24.at_ hu
           have e4:some gb=some gc:=congrArg Value.ownBlock e0
           injection e4 with e4
           subst e4
           clear e0
           have hum:=List.mem_of_getElem? hu
           rw[HBL.out] at hum
           have hum:=List.mem_filter.1 hum
           have hui:u < i:=List.mem_range.1 hum.1
           have hus:S u=true∧Go.Buddy.stands P S u=false:=by
            have h:=hum.2
            rw[Bool.and_eq_true,Bool.not_eq_true'] at h
            exact h
           have HUS:=zN hus
           have hu0:(0:Int)≤(u:Int):=by omega
           have hu1:(u:Int) < (i:Int):=by omega
           have HGP:=zN (HGW.out.pick hg24 hs24)
           have z0:=(HGP.out.left.at_ hui).1
           have z1:=(HGP.out.left.at_ hui).2
           rw[hus.1] at z0
           have HGN:=zN (HGP.out.set hui false)
           have HKN:Hid (Keeps P (fun k=>if k=u then false else S k)):=zN (HG.out.2.1.drop HPO.out.cl (fun t ht h=>by
            by_cases e:t=u
            ·simp[e] at h
            ·simpa[e] using h) (fun t ht h1 h2=>by
            by_cases e:t=u
            ·rw[e];exact HUS.out.2
            ·simp[e,h1] at h2))
           have HCT:Hid (cntB i (fun k=>if k=u then false else S k) < cntB i S):=zN (cntB_lt i (fun t ht h=>by
            by_cases e:t=u
            ·simp[e] at h
            ·simpa[e] using h) u hui HUS.out.1 (by simp))
           clear hum hus hQ24 hu hg24 hs24 HGP HNC HQR HGW HQ hxl hsz
           go_wp2
           go_roundw
           case rel=>exact⟨_,zN ⟨HGN.out,HKN.out,fun h=>absurd h (by have:=HLP.out;omega)⟩⟩
           case measure=>rw[celV_eq HG.out.1.left,celV_eq HGN.out.left];exact HCT.out
       ·have hdl:decide (lim > 0)=false:=zDf hl
        have HX2:Hid (∃ S,GreS w9 wr LB i g2 b2 N2 S (fun j=>natI (aroL n X (c:Int) j))∧∀ j,j < i→badF n X kc.bd c j=(P.pr j && !S j)):=zN ⟨S,HG.out.1,fun j hj=>by
         have h0:=HGC.out c hc
         rw[←HLM.out] at h0
         have e:lim=0:=by omega
         rw[HBF.out,HG.out.2.2 (by omega) j hj,e]
         simp⟩
        clear hl
        go_wp2
        go_meet
        case rel=>exact HX2
     case rest=>
      obtain⟨S,hG,hbf⟩:=hcut.out
      have HGR:=zN hG
      have HBS:=zN hbf
      clear hG hbf hcut HG2
      generalize wc=W2 at *
      go_wp2
      go_loopw [163] (fun v163 wx=>∃ r:Nat,r≤i∧v163=.int .i64 (r:Int)∧Hid (Below W2.heap.size W2 wx)) (fun v163 _=>i-(intOf v163).toNat)
      case atStart=>exact⟨0,by omega,rfl,zN (zBr _ _)⟩
      case round=>
       obtain⟨r,hri,rfl,HB⟩:=hrel
       by_cases hr:r < i
       ·have hdr:decide ((r:Int) < (i:Int))=true:=zDt (by omega)
        have hr0:(0:Int)≤(r:Int):=by omega
        have hr1:(r:Int) < (i:Int):=by omega
        have hrX:r < X.length:=by rw[HXM.out];exact hr
        have HBW:=zN (HGR.out.bl.trans (HB.out.mono HGR.out.bl.size))
        have hVw:=HV9.out.below HBW.out
        obtain⟨bb,o,rfl,hbbl,hrp⟩:=HV9.out.cell (by omega)
        have hrr:=(hrp r hrX).below HBW.out
        have hok:=hVw.r _ (List.getElem_mem hrX)
        rw[←bat_eq hrX] at hrr hok
        have hpr:=HPD.out.2 r
        have HLR:=zN ((HGR.out.below HB.out).left.at_ hr).1
        obtain⟨x,hx⟩:∃ x,x=bat X r:=⟨_,rfl⟩
        rw[←hx] at hrr hok hpr
        obtain⟨qx,cq,hrd,hR⟩:=hok.ex
        obtain⟨nr,hnr⟩:∃ nr,nr=x.2.length:=⟨_,rfl⟩
        have hnr9:nr≤1000000000:=by rw[hnr];exact hok.len
        obtain⟨c0,c1,c2,c3,c4,c5,c6,c7,_⟩:=hrr
        rw[hrd,←hnr] at c7
        have HC:=zN (rfind04_any qx x.2 cq nr (c:Int) wr hnr.symm hR hnr9)
        obtain⟨fr,hfr⟩:∃ fr,fr=fB x.2 (c:Int):=⟨_,rfl⟩
        rw[←hfr] at HC hpr
        have hbfr:=HBS.out r hr
        rw[hpr] at hbfr
        obtain⟨sr,hsr⟩:∃ sr,sr=S r:=⟨_,rfl⟩
        rw[←hsr] at hbfr HLR
        have HBR:=zN hbfr
        have HT1:Hid ((A.take na).contains ((r:Int),(c:Int))=(fr && !sr)):=zN (by
         rw[List.take_of_length_le (by rw[HNA.out];exact Nat.le_refl _),List.contains_eq_mem,←HBR.out,Bool.eq_iff_iff,decide_eq_true_eq,HCL.out]
         constructor
         ·rintro⟨i',e',h1,h2,h3,h4⟩
          injection h4 with h5 h6
          have h5':i'=r:=by omega
          have h6':e'=c:=by omega
          subst h5' h6'
          rw[HNF.out,Int.toNat_natCast] at h3
          exact h3
         ·intro h
          exact⟨r,c,hrX,hc,by rw[HNF.out,Int.toNat_natCast];exact h,rfl⟩)
        clear hVw hrp hok hx hrd hR hnr hpr hfr hbfr hsr HBR c0 c1 c2 c3 c4 c5 c6
        go_wp2_with fail
        refine HC.out.mono ?_
        rintro e w12 ⟨rfl,hw12⟩
        rw[←hw12]
        clear HC c7 hw12
        generalize wr=W3 at *
        go_wp2
        go_loopw [178,25] (fun v178 v25 wy=>∃ k:Nat,k≤na∧v178=.int .i64 (k:Int)∧v25=.bool ((A.take k).contains ((r:Int),(c:Int)))∧Hid (Below W3.heap.size W3 wy)) (fun v178 _ _=>na-(intOf v178).toNat)
        case atStart=>exact⟨0,by omega,rfl,rfl,zN (zBr _ _)⟩
        case round=>
         obtain⟨k,hkn,rfl,rfl,HBJ⟩:=hrel
         by_cases hk:k < na
         ·have hdk:decide ((k:Int) < (na:Int))=true:=zDt (by omega)
          have hk0:(0:Int)≤(k:Int):=by omega
          have hk1:(k:Int) < (na:Int):=by omega
          have hkA:k < A.length:=by rw[HNA.out];exact hk
          obtain⟨ba,oa,rfl,_,hsa⟩:=HFA9.out.cell (by omega)
          obtain⟨a0,a1,a2⟩:=hsa k hkA
          have HBJ1:=zN (HBW.out.trans (HBJ.out.mono HBW.out.size))
          have x0:=zP HBJ1.out a0
          have x1:=zP HBJ1.out a1
          have x2:=zP HBJ1.out a2
          have HS:=zN (has_succG (t:=((r:Int),(c:Int))) hkA)
          obtain⟨f,hf⟩:∃ f,f=A[k]:=⟨_,rfl⟩
          rw[←hf] at x0 x1 HS
          obtain⟨fb,hfb⟩:∃ fb,fb=(A.take k).contains ((r:Int),(c:Int)):=⟨_,rfl⟩
          rw[←hfb] at HS ⊢
          have HBN2:Hid (Below W3.heap.size W3 (wr.alloc (.cells #[.int .i64 f.1,.int .i64 f.2,.int .i64 6] 48))):=zN (HBJ.out.alloc HBJ.out.size _)
          clear hsa a0 a1 a2 hf hfb
          cases fb with
          |true=>
           have HN:Hid ((A.take (k+1)).contains ((r:Int),(c:Int))=true):=zN (by rw[HS.out];rfl)
           go_wp2
           go_roundw
           case rel=>exact⟨k+1,by omega,by go_num,by rw[HN.out],HBN2⟩
           case measure=>simp[intOf]<;>omega
          |false=>
           by_cases h1:f.1=(r:Int)
           ·by_cases h2:f.2=(c:Int)
            ·have HN:Hid ((A.take (k+1)).contains ((r:Int),(c:Int))=true):=zN (by
              rw[HS.out,zDt (show f=((r:Int),(c:Int)) from Prod.ext h1 h2)];rfl)
             rw[h1] at x0 HBN2
             rw[h2] at x1 HBN2
             clear h1 h2
             go_wp2
             go_roundw
             case rel=>exact⟨k+1,by omega,by go_num,by rw[HN.out],HBN2⟩
             case measure=>simp[intOf]<;>omega
            ·have HN:Hid ((A.take (k+1)).contains ((r:Int),(c:Int))=false):=zN (by
              rw[HS.out,zDf (fun e=>h2 (by rw[e]))];rfl)
             have hb2:(f.2 == (c:Int))=false:=beq_eq_false_iff_ne.2 h2
             rw[h1] at x0 HBN2
             clear h1 h2
             go_wp2
             go_roundw
             case rel=>exact⟨k+1,by omega,by go_num,by rw[HN.out],HBN2⟩
             case measure=>simp[intOf]<;>omega
           ·have HN:Hid ((A.take (k+1)).contains ((r:Int),(c:Int))=false):=zN (by
             rw[HS.out,zDf (fun e=>h1 (by rw[e]))];rfl)
            have hb1:(f.1 == (r:Int))=false:=beq_eq_false_iff_ne.2 h1
            clear h1
            go_wp2
            go_roundw
            case rel=>exact⟨k+1,by omega,by go_num,by rw[HN.out],HBN2⟩
            case measure=>simp[intOf]<;>omega
         ·have hdk:decide ((k:Int) < (na:Int))=false:=zDf (by omega)
          obtain rfl:na=k:=by omega
          rw[HT1.out]
          have HBZ:=zN (HB.out.trans (HBJ.out.mono HB.out.size))
          have z0:=zP HBJ.out HLR.out
          cases fr with
          |false=>
           go_wp2
           go_roundw
           case rel=>exact⟨r+1,by omega,by go_num,HBZ⟩
           case measure=>simp[intOf]<;>omega
          |true=>
           cases sr with
           |false=>
            go_wp2
            go_roundw
            case rel=>exact⟨r+1,by omega,by go_num,HBZ⟩
            case measure=>simp[intOf]<;>omega
           |true=>
            go_wp2
            go_roundw
            case rel=>exact⟨r+1,by omega,by go_num,HBZ⟩
            case measure=>simp[intOf]<;>omega
       ·have hdr:decide ((r:Int) < (i:Int))=false:=zDf (by omega)
        have HGE:=zN (HGR.out.below HB.out)
        go_wp2
        go_roundw
        case rel=>exact⟨c+1,by omega,by omega,by go_num,zN ⟨HGE.out.bl,HGE.out.src⟩⟩
        case measure=>simp[intOf]<;>omega
  ·have hdc:decide ((c:Int)≤11)=false:=zDf (by omega)
   have HBZ:=zN (HB9.out.trans (HH.out.1.mono HB9.out.size))
   clear HH
   go_wp2_with fail
   refine (awake18_any wr (HT.out.below HBZ.out) (HBN.out.below HBZ.out)).mono ?_
   rintro e w20 ⟨rfl,hb20⟩
   have HB20:=zN (HBZ.out.trans (hb20.mono HBZ.out.size))
   clear hb20
   go_wp2
   go_ret
   exact⟨rfl,HB20.out⟩
end Go.Proofs.YtednaajanciabaaGreatDoor
