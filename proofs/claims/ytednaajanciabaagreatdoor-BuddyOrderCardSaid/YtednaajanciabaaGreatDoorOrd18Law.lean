import Derived.Test.YtednaajanciabaaGreatDoorKBAwk
import Derived.Test.YtednaajanciabaaGreatDoorKBCtl
import Derived.Test.YtednaajanciabaaGreatDoorBOrdP
set_option maxRecDepth 100000
set_option maxHeartbeats 8000000
set_option linter.unusedSimpArgs false
set_option linter.unusedVariables false
namespace Go.Proofs.YtednaajanciabaaGreatDoor
open Go.RowKit Go.Grid Go.Buddy
theorem has_succ {A:List I2} {t:I2} {j:Nat} (h:j < A.length):(A.take (j+1)).contains t=((A.take j).contains t || decide (A[j]=t)):=by
 rw[List.take_succ_eq_append_getElem h,List.contains_eq_mem,List.contains_eq_mem,Bool.eq_iff_iff,Bool.or_eq_true,decide_eq_true_eq,decide_eq_true_eq,decide_eq_true_eq,List.mem_append,List.mem_singleton]
 exact or_congr Iff.rfl eq_comm
theorem ord18_law (W:World) (q:Option Addr) (cap:Nat) (Z:List Int) (hV:VecAt W q Z) (hI:I64L Z) (hl:Z.length≤cap) (hc:cap≤9223372036854775807) (hT:HasTab W) (hB:HasBnd W) :
  Calls Tryz.prog 4 #[.slice q Z.length cap] W fun e w'=>e=.returned (.bool true)∧Below W.heap.size W w':=by
 go_enter Tryz.func4,Tryz.ntmps4
 go_wp2_with fail
 refine (knew_any q cap Z W hV hI hl hc).mono ?_
 rintro e w1 ⟨rfl,hb,b,hblt,hs⟩
 clear hV hI
 have HT:=zN hT
 have HBN:=zN hB
 generalize min Z.length 2000=N at *
 obtain⟨g,hg⟩:∃ g,g=W.heap.size:=⟨_,rfl⟩
 rw[←hg] at hs hblt ⊢
 have HG:=zN hg
 have HB1:=zN hb
 have HBL:=zN hblt
 have hg1:=hs.lt
 clear hg hT hB hl hc hb hblt
 go_wp2_with fail
 refine (crowd_any w1 g b N 0 hs 9 (by omega) 14000000 (by omega) (by omega)).mono ?_
 rintro e w2 ⟨v,X,rfl,hrow,hok,hlen,hg2,hs2⟩
 obtain⟨p,cp,rfl,hcp,_,hpb⟩:=hrow.form
 have HB2:=zN (HB1.out.grown hg2 HB1.out.size (fun k hk=>by injection hk with hk;have:=HG.out;omega))
 have hsz2:=hg2.size
 have HROW:=zN hrow
 have HCO:=zN hok
 have HFX:Hid (∀ x∈X,vaB x.1=true∧valE x.2=0):=zN (fun x hx=>⟨(hok x hx).va,(hok x hx).ve⟩)
 have HPB:=zN hpb
 obtain⟨m,hm⟩:∃ m,m=X.length:=⟨_,rfl⟩
 have hmN:m≤9:=by omega
 rw[←hm] at HROW HPB hcp ⊢
 have HXM:=zN hm.symm
 obtain⟨ix,hsx⟩:=hs2
 clear hrow hok hlen hg2 hs hpb hm
 go_wp2_with fail
 refine (control_any w2 g b N ix hsx).mono ?_
 rintro e w6 ⟨kc,rfl,hko,hg6,i6,hs6⟩
 have HB6:=zN (HB2.out.grown hg6 HB2.out.size (fun k hk=>by injection hk with hk;have:=HG.out;omega))
 have HR6:=zN (HROW.out.kept (some g) hg6 (fun k e=>.inl (by injection e with e;omega)))
 have HKO:=zN hko
 have HS6:=zN hs6
 have hsz6:w2.heap.size≤w6.heap.size:=hg6.size
 clear hko hg6 hsx HROW HB2 hs6
 have HZN:=zN (CtlAt.new w6 ⟨0,fun _=>0,fun _=>0,0,fun _=>0,0,0,0⟩)
 have HZB:Hid (Below w6.heap.size w6 (w6.alloc (.cells #[.int .i64 0,.int .i64 0,.int .i64 0,.int .i64 0,.int .i64 0,.int .i64 0,.int .i64 0,.int .i64 0,.int .i64 0,.int .i64 0,.int .i64 0,.int .i64 0,.int .i64 0,.int .i64 0,.int .i64 0,.int .i64 0,.int .i64 0,.int .i64 0,.int .i64 0,.int .i64 0,.int .i64 0,.int .i64 0,.int .i64 0,.int .i64 0,.int .i64 0,.int .i64 0,.int .i64 0,.int .i64 0,.int .i64 0,.int .i64 0,.int .i64 0,.int .i64 0,.int .i64 0,.int .i64 0,.int .i64 0,.int .i64 0,.int .i64 0,.int .i64 0,.int .i64 0,.int .i64 0,.int .i64 0] 29))):=zN ((zBr _ _).alloc (Nat.le_refl _) _)
 go_wp2_with (refine wpl_storeC (by rfl) (.tmp 5) (.tmp 24) (by rfl) w6.heap.size _ kc (by rfl) (by rfl) HZN.out ?_;refine Hid.out ?_)
 refine zN ?_
 have HC7:Hid (CtlAt ((w6.alloc (.cells #[.int .i64 0,.int .i64 0,.int .i64 0,.int .i64 0,.int .i64 0,.int .i64 0,.int .i64 0,.int .i64 0,.int .i64 0,.int .i64 0,.int .i64 0,.int .i64 0,.int .i64 0,.int .i64 0,.int .i64 0,.int .i64 0,.int .i64 0,.int .i64 0,.int .i64 0,.int .i64 0,.int .i64 0,.int .i64 0,.int .i64 0,.int .i64 0,.int .i64 0,.int .i64 0,.int .i64 0,.int .i64 0,.int .i64 0,.int .i64 0,.int .i64 0,.int .i64 0,.int .i64 0,.int .i64 0,.int .i64 0,.int .i64 0,.int .i64 0,.int .i64 0,.int .i64 0,.int .i64 0,.int .i64 0] 29)).setCells w6.heap.size 0 (ctlL kc)) w6.heap.size kc):=zN (HZN.out.store kc)
 have HB7:Hid (Below w6.heap.size w6 ((w6.alloc (.cells #[.int .i64 0,.int .i64 0,.int .i64 0,.int .i64 0,.int .i64 0,.int .i64 0,.int .i64 0,.int .i64 0,.int .i64 0,.int .i64 0,.int .i64 0,.int .i64 0,.int .i64 0,.int .i64 0,.int .i64 0,.int .i64 0,.int .i64 0,.int .i64 0,.int .i64 0,.int .i64 0,.int .i64 0,.int .i64 0,.int .i64 0,.int .i64 0,.int .i64 0,.int .i64 0,.int .i64 0,.int .i64 0,.int .i64 0,.int .i64 0,.int .i64 0,.int .i64 0,.int .i64 0,.int .i64 0,.int .i64 0,.int .i64 0,.int .i64 0,.int .i64 0,.int .i64 0,.int .i64 0,.int .i64 0] 29)).setCells w6.heap.size 0 (ctlL kc))):=zN (below_setC HZB.out (Nat.le_refl _) _)
 generalize ((w6.alloc (.cells #[.int .i64 0,.int .i64 0,.int .i64 0,.int .i64 0,.int .i64 0,.int .i64 0,.int .i64 0,.int .i64 0,.int .i64 0,.int .i64 0,.int .i64 0,.int .i64 0,.int .i64 0,.int .i64 0,.int .i64 0,.int .i64 0,.int .i64 0,.int .i64 0,.int .i64 0,.int .i64 0,.int .i64 0,.int .i64 0,.int .i64 0,.int .i64 0,.int .i64 0,.int .i64 0,.int .i64 0,.int .i64 0,.int .i64 0,.int .i64 0,.int .i64 0,.int .i64 0,.int .i64 0,.int .i64 0,.int .i64 0,.int .i64 0,.int .i64 0,.int .i64 0,.int .i64 0,.int .i64 0,.int .i64 0] 29)).setCells w6.heap.size 0 (ctlL kc))=w7 at *
 have HBW7:=zN (HB6.out.trans (HB7.out.mono HB6.out.size))
 have HR7:=zN (HR6.out.below HB7.out)
 have HS7:=zN (HS6.out.below HB7.out)
 have hsz7:=HB7.out.size
 obtain⟨RB,hRB⟩:∃ RB,RB=w6.heap.size:=⟨_,rfl⟩
 rw[←hRB] at HC7 ⊢
 have HRB:=zN hRB
 have hgRB:g < RB:=by have:=HS6.out.lt;omega
 have hRW:w2.heap.size≤RB:=by omega
 clear hRB HZN HZB HB6 HR6 HS6 HB7
 have hgl7:=HS7.out.lt
 go_wp2_with fail
 refine (order_any w7 g b N i6 m (by omega) HS7.out).mono ?_
 rintro e w8 ⟨v8,O,rfl,hO,hq8,hg8,hs8⟩
 have HB8:=zN (HBW7.out.grown hg8 HBW7.out.size (fun k hk=>by injection hk with hk;have:=HG.out;omega))
 have HR8:=zN (HR7.out.kept (some g) hg8 (fun k e=>.inl (by injection e with e;omega)))
 have HC8:=zN (HC7.out.grown hg8 (by omega))
 have HO:=zN hO
 obtain⟨po,co,rfl,hco,hVO⟩:=hq8.rd
 rw[natI_len] at hco ⊢
 have HVO:=zN hVO
 have HOL:=zN (ord_len hO)
 obtain⟨no,hno⟩:∃ no,no=O.length:=⟨_,rfl⟩
 have HNO:=zN hno
 rw[←hno] at hco ⊢
 have hnm:no=m:=by rw[hno];exact HOL.out
 have HNM:=zN hnm
 have hno9:no≤9:=by omega
 have hsz8:=hg8.size
 clear hO hq8 hg8 hs8 hVO hno hnm HR7 HC7 HBW7 HS7 hgl7
 go_wp2
 go_loopw [31,7] (fun v31 v7 wr=>∃ k:Nat,k≤no∧v31=.int .i64 (k:Int)∧Hid (RepRow wr w8.heap.size v7 (((O.take k).map (bat X)).map Prod.fst)∧Below w8.heap.size w8 wr)) (fun v31 _ _=>no-(intOf v31).toNat)
 case atStart=>exact⟨0,by omega,rfl,zN ⟨RepRow.nil _ _,zBr _ _⟩⟩
 case round=>
  obtain⟨k,hkn,rfl,HH⟩:=hrel
  obtain⟨pl,cl,rfl,hcl⟩:=own_slice HH.out.1
  have HYL:Hid ((((O.take k).map (bat X)).map Prod.fst).length=k):=zN (by rw[List.length_map,List.length_map,List.length_take,←HNO.out];omega)
  obtain⟨yl,hyl⟩:∃ yl,yl=(((O.take k).map (bat X)).map Prod.fst).length:=⟨_,rfl⟩
  rw[←hyl] at hcl ⊢
  have HYE:=zN hyl
  have hyk:yl=k:=by rw[hyl];exact HYL.out
  subst hyk
  clear hyl
  by_cases hk:yl < no
  ·have hdk:decide ((yl:Int) < (no:Int))=true:=zDt (by omega)
   have hk0:(0:Int)≤(yl:Int):=by omega
   have hk1:(yl:Int) < (no:Int):=by omega
   have hkO:yl < O.length:=by rw[←HNO.out];exact hk
   obtain⟨ob,oo,rfl,hobl,hoc⟩:=HVO.out.cell (by rw[natI_len];omega)
   have o1:=zP HH.out.2 (hoc yl (by rw[natI_len];exact hkO))
   have eo:(natI O)[yl]'(by rw[natI_len];exact hkO)=((O[yl]:Nat):Int):=by simp[natI]
   rw[eo] at o1
   have hom:O[yl] < m:=by
    have:=List.mem_range.1 (HO.out.mem_iff.1 (List.getElem_mem hkO))
    exact this
   have HTK:Hid (((O.take (yl+1)).map (bat X)).map Prod.fst=((O.take yl).map (bat X)).map Prod.fst ++ [(bat X O[yl]).1]):=zN (by
    rw[List.take_succ_eq_append_getElem hkO,List.map_append,List.map_append];rfl)
   obtain⟨i,hi⟩:∃ i,i=O[yl]:=⟨_,rfl⟩
   rw[←hi] at o1 hom HTK
   have hi0:(0:Int)≤(i:Int):=by omega
   have hi1:(i:Int) < (m:Int):=by omega
   have hiX:i < X.length:=by rw[HXM.out];exact hom
   obtain⟨pbk,rfl,hpb1,hpb2⟩:=HPB.out (by omega)
   have hXr:=(HR8.out.below HH.out.2).row
   have hiX2:i < (X.map Prod.fst).length:=by rw[List.length_map];exact hiX
   have q0:=RepRow.cell8 hXr (i:=i) (c:=0) hiX2 (by omega) rfl
   have q1:=RepRow.cell8 hXr (i:=i) (c:=1) hiX2 (by omega) rfl
   have q2:=RepRow.cell8 hXr (i:=i) (c:=2) hiX2 (by omega) rfl
   have q3:=RepRow.cell8 hXr (i:=i) (c:=3) hiX2 (by omega) rfl
   have q4:=RepRow.cell8 hXr (i:=i) (c:=4) hiX2 (by omega) rfl
   have q5:=RepRow.cell8 hXr (i:=i) (c:=5) hiX2 (by omega) rfl
   have q6:=RepRow.cell8 hXr (i:=i) (c:=6) hiX2 (by omega) rfl
   have q7:=RepRow.cell8 hXr (i:=i) (c:=7) hiX2 (by omega) rfl
   have hok:=HR8.out.rd _ (List.getElem_mem hiX)
   simp only[List.getElem_map] at q0 q1 q2 q3 q4 q5 q6 q7
   rw[←bat_eq hiX] at q0 q1 q2 q3 q4 q5 q6 q7 hok
   obtain⟨x,hx⟩:∃ x,x=bat X i:=⟨_,rfl⟩
   rw[←hx] at q0 q1 q2 q3 q4 q5 q6 q7 hok HTK
   obtain⟨qr,cr,hrd,_⟩:=hok.ex
   obtain⟨nr,hnr⟩:∃ nr,nr=x.2.length:=⟨_,rfl⟩
   rw[←hnr] at hrd
   rw[hrd] at q7
   have HRD:=zN hrd
   have hown:wr.ownsRow w8.heap.size 44 8 (.slice pl yl cl) yl ((((O.take yl).map (bat X)).map Prod.fst).flatMap rpc):=by
    have h:=HH.out.1
    unfold RepRow at h
    rw[←HYE.out] at h
    exact h
   have hws:=HH.out.2.size
   have HBR:=zN HH.out.2
   have q0':wr.cell? ⟨pbk,i*8,none⟩=some (.int .i64 x.1.kind):=q0
   clear hoc eo hi hx hok hrd hnr hXr HH hkO q0
   go_wp2_with (refine RX.wpl_app (by rfl) elRep _ _ (by rfl) w8.heap.size _ _ _ (World.ownsRow.alloc hown _) (by rfl) wr.heap.size _ 1 (by rfl) (heap_alloc_new _ _) (by rfl) (by simp[Value.oneCell']) (by omega) (by omega) (by simp;omega) ?_;intro v' wd hown2 hbd hgd hatd)
   have HN2:Hid (RepRow wd w8.heap.size v' (((O.take (yl+1)).map (bat X)).map Prod.fst)∧Below w8.heap.size w8 wd):=zN ⟨by
    rw[HTK.out]
    refine RepRow.snoc ?_
    rw[←HYE.out]
    have e:rpc x.1=[.int .i64 x.1.kind,.string x.1.name,.int .i64 x.1.time,.int .i64 x.1.f,.int .i64 x.1.a,.int .i64 x.1.b,.int .i64 x.1.c,.slice qr nr cr]:=by unfold rpc;rw[HRD.out]
    rw[e]
    exact hown2,(HBR.out.trans ((zBr _ _).alloc (Nat.le_refl _) _ |>.mono hws)).trans hbd⟩
   clear hown hown2 hbd hgd hatd q0' q1 q2 q3 q4 q5 q6 q7 o1
   go_wp2
   go_roundw
   case rel=>exact⟨yl+1,by omega,by go_num,HN2⟩
   case measure=>simp[intOf]<;>omega
  ·have hdk:decide ((yl:Int) < (no:Int))=false:=zDf (by omega)
   obtain rfl:yl=no:=by omega
   have hTk:O.take yl=O:=List.take_of_length_le (by rw[←HNO.out];exact Nat.le_refl _)
   obtain⟨hry,hby⟩:=HH.out
   rw[hTk] at hry
   obtain⟨py,cy,ey,hVY,_⟩:=VecB.of_row hry (fun x hx=>by
    obtain⟨i,hi,rfl⟩:=List.mem_map.1 hx
    have him:i < X.length:=by rw[HXM.out];exact List.mem_range.1 (HO.out.mem_iff.1 hi)
    rw[bat_eq him]
    exact (HR8.out.rd _ (List.getElem_mem him)).below hby)
   have hYl:(O.map (bat X)).length=yl:=by rw[List.length_map];exact HNO.out.symm
   rw[hYl] at ey
   injection ey with e1 _ e3
   subst e1 e3
   have HVY:=zN hVY
   have HBY:=zN (HB8.out.trans (hby.mono HB8.out.size))
   have HC9:=zN (HC8.out.below hby)
   obtain⟨px,cx,ex,_,hVX,_⟩:=(HR8.out.below hby).form
   rw[HXM.out] at ex
   injection ex with e1 _ e3
   subst e1 e3
   have HVX:=zN hVX
   have HVO9:=zN (HVO.out.below hby)
   have HEX:=zN (chkE_ok HKO.out HFX.out)
   have HEY:Hid (chkE kc (O.map (bat X))=0):=zN (chkE_ok HKO.out (fun x hx=>by
    obtain⟨i,hi,rfl⟩:=List.mem_map.1 hx
    have him:i < X.length:=by rw[HXM.out];exact List.mem_range.1 (HO.out.mem_iff.1 hi)
    rw[bat_eq him]
    exact HFX.out _ (List.getElem_mem him)))
   have HRES:=zN (chkL_ord (by rw[HXM.out];exact HO.out) HEX.out HEY.out)
   have HYL:=zN hYl
   obtain⟨Y,hY⟩:∃ Y,Y=O.map (bat X):=⟨_,rfl⟩
   rw[←hY] at HVY HEY HRES HYL
   clear hry hby hVY hYl hVX hY hTk HH HR8 HC8 HB8
   generalize wr=w9 at *
   have hC9:=HC9.out
   have HCKX:=zN (bcheck_any p cp m X HXM.out (by omega) kc w9 (HT.out.below HBY.out) (HBN.out.below HBY.out) HVX.out)
   rw[HEX.out] at HCKX
   go_wp2_with (first|(refine wpl_loadC (by rfl) (.tmp 5) (by rfl) RB kc (by rfl) hC9 ?_;refine Hid.out ?_))
   refine zN ?_
   go_wp2_with fail
   refine HCKX.out.mono ?_
   rintro e w10 ⟨v10,rfl,hb10,hF10⟩
   obtain⟨pa,ca,rfl,hca⟩:=hF10.slice
   have HB10:=zN (HBY.out.trans (hb10.mono HBY.out.size))
   have hC10:=HC9.out.below hb10
   have HC10:=zN hC10
   have HVY10:=zN (HVY.out.below hb10)
   have HVO10:=zN (HVO9.out.below hb10)
   have HFA:=zN hF10
   clear hb10 hF10 hC9 HC9 HCKX HVX HVY HVO9
   have HCKY:=zN (bcheck_any pl cl yl Y HYL.out (by omega) kc w10 (HT.out.below HB10.out) (HBN.out.below HB10.out) HVY10.out)
   rw[HEY.out] at HCKY
   obtain⟨A,hA⟩:∃ A,A=chkL kc X:=⟨_,rfl⟩
   obtain⟨B,hB⟩:∃ B,B=chkL kc Y:=⟨_,rfl⟩
   rw[←hA,←hB] at HRES
   rw[←hA] at HFA hca ⊢
   rw[←hB] at HCKY
   obtain⟨nf,hnf⟩:∃ nf,nf=A.length:=⟨_,rfl⟩
   have hBl:B.length=nf:=by rw[hnf];exact HRES.out.1
   rw[←hnf] at HFA hca ⊢
   have HBl:=zN hBl
   have HAl:=zN hnf.symm
   have hnf9:nf≤1000000:=by
    rw[hnf,hA]
    unfold chkL
    split
    ·have h1:=outC_len kc.fr.toNat X kc.bd 12
     have h2:(sort2 (outC kc.fr.toNat X kc.bd 12)).length=(outC kc.fr.toNat X kc.bd 12).length:=(List.mergeSort_perm _ _).length_eq
     rw[HXM.out] at h1
     omega
    ·simp
   clear hA hB hBl hnf
   go_wp2_with (first|(refine wpl_loadC (by rfl) (.tmp 5) (by rfl) RB kc (by rfl) hC10 ?_;refine Hid.out ?_))
   refine zN ?_
   go_wp2_with fail
   refine HCKY.out.mono ?_
   rintro e w11 ⟨v11,rfl,hb11,hF11⟩
   obtain⟨pb,cb,rfl,hcb⟩:=hF11.slice
   rw[HBl.out] at hF11 hcb ⊢
   have HB11:=zN (HB10.out.trans (hb11.mono HB10.out.size))
   have HFB:=zN hF11
   have HFA11:=zN (HFA.out.below hb11)
   have HVO11:=zN (HVO10.out.below hb11)
   clear hb11 hF11 hC10 HC10 HCKY HFA HVO10 HVY10
   go_wp2
   go_loopw [70] (fun v70 wr=>∃ k:Nat,k≤nf∧v70=.int .i64 (k:Int)∧Hid (Below w11.heap.size w11 wr)) (fun v70 _=>nf-(intOf v70).toNat)
   case atStart=>exact⟨0,by omega,rfl,zN (zBr _ _)⟩
   case round=>
    obtain⟨k,hkn,rfl,HBK⟩:=hrel
    by_cases hk:k < nf
    ·have hdk:decide ((k:Int) < (nf:Int))=true:=zDt (by omega)
     have hk0:(0:Int)≤(k:Int):=by omega
     have hk1:(k:Int) < (nf:Int):=by omega
     have hkB:k < B.length:=by rw[HBl.out];exact hk
     obtain⟨bb,ob,rfl,_,hsb⟩:=HFB.out.cell (by omega)
     obtain⟨b0,b1,b2⟩:=hsb k hkB
     have y0:=zP HBK.out b0
     have y1:=zP HBK.out b1
     have y2:=zP HBK.out b2
     obtain⟨i,ee,hiO,hv,hmem⟩:=HRES.out.2 _ (List.getElem_mem hkB)
     rw[hv] at y0 y1
     have HME:=zN hmem
     have hin:i < yl:=by rw[HNO.out];exact hiO
     have hi0:(0:Int)≤(i:Int):=by omega
     have hi1:(i:Int) < (yl:Int):=by omega
     have hdi0:decide ((0:Int)≤(i:Int))=true:=zDt hi0
     have hdi1:decide ((i:Int) < (yl:Int))=true:=zDt hi1
     obtain⟨oob,ooo,rfl,_,hoc⟩:=HVO11.out.cell (by rw[natI_len,←HNO.out];omega)
     have o1:=hoc i (by rw[natI_len];exact hiO)
     have eo:(natI O)[i]'(by rw[natI_len];exact hiO)=((O.getD i 0:Nat):Int):=by
      rw[List.getD_eq_getElem?_getD,List.getElem?_eq_getElem hiO];simp[natI]
     rw[eo] at o1
     obtain⟨oi,hoi⟩:∃ oi,oi=O.getD i 0:=⟨_,rfl⟩
     rw[←hoi] at o1 HME
     have HO1:=zN o1
     obtain⟨t,ht⟩:∃ t:I2,t=((oi:Int),(ee:Int)):=⟨_,rfl⟩
     rw[←ht] at HME
     have HTT:=zN ht
     clear hsb b0 b1 b2 hv hmem hoc o1 eo hoi ht hkB
     go_wp2
     refine absW (F:=fun w'=>Hid (Below w11.heap.size w11 w')∧Hid (w'.cell? ⟨wr.heap.size,0,none⟩=some (.int .i64 (i:Int))∧w'.cell? ⟨wr.heap.size,1,none⟩=some (.int .i64 (ee:Int))∧w'.cell? ⟨wr.heap.size,2,none⟩=some (.int .i64 6))) ⟨zN (HBK.out.alloc HBK.out.size (.cells #[.int .i64 (i:Int),.int .i64 (ee:Int),.int .i64 6] 48)),zN ⟨(by simp[zO,zJ,zQ]),(by simp[zO,zJ,zQ]),(by simp[zO,zJ,zQ])⟩⟩ ?_
     rintro w15 ⟨HB15,HC15⟩
     obtain⟨R15,hR15⟩:∃ R15,R15=wr.heap.size:=⟨_,rfl⟩
     rw[←hR15] at HC15 ⊢
     clear hR15 y0 y1 y2
     go_loopw [76,16] (fun v76 v16 wy=>∃ j:Nat,j≤nf∧v76=.int .i64 (j:Int)∧v16=.bool ((A.take j).contains t)∧Hid (Below w15.heap.size w15 wy)) (fun v76 _ _=>nf-(intOf v76).toNat)
     case atStart=>exact⟨0,by omega,rfl,rfl,zN (zBr _ _)⟩
     case round=>
      obtain⟨j,hjn,rfl,rfl,HBJ⟩:=hrel
      by_cases hj:j < nf
      ·have hdj:decide ((j:Int) < (nf:Int))=true:=zDt (by omega)
       have hj0:(0:Int)≤(j:Int):=by omega
       have hj1:(j:Int) < (nf:Int):=by omega
       have hjA:j < A.length:=by rw[HAl.out];exact hj
       obtain⟨ba,oa,rfl,_,hsa⟩:=HFA11.out.cell (by omega)
       obtain⟨a0,a1,a2⟩:=hsa j hjA
       have HBJ1:=zN (HB15.out.trans (HBJ.out.mono HB15.out.size))
       have x0:=zP HBJ1.out a0
       have x1:=zP HBJ1.out a1
       have x2:=zP HBJ1.out a2
       have HS:=zN (has_succ (t:=t) hjA)
       obtain⟨f,hf⟩:∃ f,f=A[j]:=⟨_,rfl⟩
       rw[←hf] at x0 x1 HS
       have z0:=zP HBJ.out HC15.out.1
       have z1:=zP HBJ.out HC15.out.2.1
       have z2:=zP HBJ.out HC15.out.2.2
       have zo:=zP HBJ1.out HO1.out
       have hR15l:R15 < wr.heap.size:=zM _ _ z0
       have hool:oob < wr.heap.size:=zM _ _ zo
       obtain⟨fb,hfb⟩:∃ fb,fb=(A.take j).contains t:=⟨_,rfl⟩
       rw[←hfb] at HS ⊢
       have HBN2:Hid (Below w15.heap.size w15 (wr.alloc (.cells #[.int .i64 f.1,.int .i64 f.2,.int .i64 6] 48)).drew):=zN ((HBJ.out.alloc HBJ.out.size _).drew)
       clear hsa a0 a1 a2 hf hfb
       go_upto_region 22 with fail
       have g0:(wr.alloc (.cells #[.int .i64 f.1,.int .i64 f.2,.int .i64 6] 48)).drew.cell? ⟨R15,0,none⟩=some (.int .i64 (i:Int)):=(by (try have hLt:=zM _ _ z0);(try simp only at hLt);(repeat first|rw[zO]|rw[zK _ _ _ _ (by first|(simp<;>omega)|omega)]|rw[zJ,if_neg (by first|(simp<;>omega)|omega)]);first|exact z0|(rw[zJ,if_pos (by first|(simp;done)|omega)];exact z0))
       have g1:(wr.alloc (.cells #[.int .i64 f.1,.int .i64 f.2,.int .i64 6] 48)).drew.cell? ⟨R15,1,none⟩=some (.int .i64 (ee:Int)):=(by (try have hLt:=zM _ _ z1);(try simp only at hLt);(repeat first|rw[zO]|rw[zK _ _ _ _ (by first|(simp<;>omega)|omega)]|rw[zJ,if_neg (by first|(simp<;>omega)|omega)]);first|exact z1|(rw[zJ,if_pos (by first|(simp;done)|omega)];exact z1))
       have g2:(wr.alloc (.cells #[.int .i64 f.1,.int .i64 f.2,.int .i64 6] 48)).drew.cell? ⟨R15,2,none⟩=some (.int .i64 6):=(by (try have hLt:=zM _ _ z2);(try simp only at hLt);(repeat first|rw[zO]|rw[zK _ _ _ _ (by first|(simp<;>omega)|omega)]|rw[zJ,if_neg (by first|(simp<;>omega)|omega)]);first|exact z2|(rw[zJ,if_pos (by first|(simp;done)|omega)];exact z2))
       have g3:(wr.alloc (.cells #[.int .i64 f.1,.int .i64 f.2,.int .i64 6] 48)).drew.cell? ⟨oob,ooo+i,none⟩=some (.int .i64 (oi:Int)):=(by (try have hLt:=zM _ _ zo);(try simp only at hLt);(repeat first|rw[zO]|rw[zK _ _ _ _ (by first|(simp<;>omega)|omega)]|rw[zJ,if_neg (by first|(simp<;>omega)|omega)]);first|exact zo|(rw[zJ,if_pos (by first|(simp;done)|omega)];exact zo))
       have g4:(wr.alloc (.cells #[.int .i64 f.1,.int .i64 f.2,.int .i64 6] 48)).drew.cell? ⟨wr.heap.size,0,none⟩=some (.int .i64 f.1):=(by simp[zO,zJ,zQ])
       have g5:(wr.alloc (.cells #[.int .i64 f.1,.int .i64 f.2,.int .i64 6] 48)).drew.cell? ⟨wr.heap.size,1,none⟩=some (.int .i64 f.2):=(by simp[zO,zJ,zQ])
       have g6:(wr.alloc (.cells #[.int .i64 f.1,.int .i64 f.2,.int .i64 6] 48)).drew.cell? ⟨wr.heap.size,2,none⟩=some (.int .i64 6):=(by simp[zO,zJ,zQ])
       have hSS:=And.intro g0 (And.intro g1 (And.intro g2 (And.intro g3 (And.intro g4 (And.intro g5 g6)))))
       clear x0 x1 x2 z0 z1 z2 zo g0 g1 g2 g3 g4 g5 g6
       cases fb with
       |true=>
        have HN:Hid ((A.take (j+1)).contains t=true):=zN (by rw[HS.out];rfl)
        refine RX.region RX.fN (fun w'=>w'=(wr.alloc (.cells #[.int .i64 f.1,.int .i64 f.2,.int .i64 6] 48)).drew) (by kernel_rfl) (by kernel_rfl) (rfl) (fun OPS HO QR hQR=>?_)
        repeat (refine zeX (fun R hR=>?_);(first|refine zaX (by first|rfl|(rw[HO.out];rfl)) (by simp only[zA,zB,zC,zD];rfl) ?_|refine zbX (by first|rfl|(rw[HO.out];rfl)) rfl (by first|exact .inl rfl|exact .inr rfl) (by simp only[zE,zF,zG,zH];rfl) (by simp only[zA,zB,zC,zD];rfl) ?_|refine zcX (by first|rfl|(rw[HO.out];rfl)) rfl rfl (by simp only[zE,zF,zG,zH];rfl) (by simp only[zA,zB,zC,zD];rfl) ?_|(refine zdX (by first|rfl|(rw[HO.out];rfl)) rfl rfl rfl ?_;apply zEx;apply zEx;refine⟨fun w' hS K hK=>?_,?_,?_⟩;(focus ((subst hS;obtain⟨k0,k1,k2,k3,k4,k5,k6⟩:=hSS);go_wp2;exact hK _ _ (by simp only[zl,zG,zH];first|exact zf (by omega)|exact zg (by omega)|exact zh (by omega)|exact zi (by omega)|exact zj (by omega)|exact zk (by omega)|exact RX.bneB _|rfl) rfl));(focus (simp only[zA,zB,zC,zD];rfl))));refine hR _ _ ?_;clear hR R)
        refine RX.wpL_nil (hQR _ _ (rfl) ?_);clear hQR QR HO OPS
        clear hSS
        go_wp2
        go_roundw
        case rel=>exact⟨j+1,by omega,by go_num,by rw[HN.out],HBN2⟩
        case measure=>simp[intOf]<;>omega
       |false=>
        by_cases h1:f.1=(oi:Int)
        ·by_cases h2:f.2=(ee:Int)
         ·have HN:Hid ((A.take (j+1)).contains t=true):=zN (by
           rw[HS.out,zDt (show f=t by rw[HTT.out];exact Prod.ext h1 h2)];rfl)
          rw[h1,h2] at hSS HBN2 ⊢
          clear h1 h2
          refine RX.region RX.fN (fun w'=>w'=(wr.alloc (.cells #[.int .i64 (oi:Int),.int .i64 (ee:Int),.int .i64 6] 48)).drew) (by kernel_rfl) (by kernel_rfl) (rfl) (fun OPS HO QR hQR=>?_)
          repeat (refine zeX (fun R hR=>?_);(first|refine zaX (by first|rfl|(rw[HO.out];rfl)) (by simp only[zA,zB,zC,zD];rfl) ?_|refine zbX (by first|rfl|(rw[HO.out];rfl)) rfl (by first|exact .inl rfl|exact .inr rfl) (by simp only[zE,zF,zG,zH];rfl) (by simp only[zA,zB,zC,zD];rfl) ?_|refine zcX (by first|rfl|(rw[HO.out];rfl)) rfl rfl (by simp only[zE,zF,zG,zH];rfl) (by simp only[zA,zB,zC,zD];rfl) ?_|(refine zdX (by first|rfl|(rw[HO.out];rfl)) rfl rfl rfl ?_;apply zEx;apply zEx;refine⟨fun w' hS K hK=>?_,?_,?_⟩;(focus ((subst hS;obtain⟨k0,k1,k2,k3,k4,k5,k6⟩:=hSS);go_wp2;exact hK _ _ (by simp only[zl,zG,zH];first|exact zf (by omega)|exact zg (by omega)|exact zh (by omega)|exact zi (by omega)|exact zj (by omega)|exact zk (by omega)|exact RX.bneB _|rfl) rfl));(focus (simp only[zA,zB,zC,zD];rfl))));refine hR _ _ ?_;clear hR R)
          refine RX.wpL_nil (hQR _ _ (rfl) ?_);clear hQR QR HO OPS
          clear hSS
          go_wp2
          go_roundw
          case rel=>exact⟨j+1,by omega,by go_num,by rw[HN.out],HBN2⟩
          case measure=>simp[intOf]<;>omega
         ·have HN:Hid ((A.take (j+1)).contains t=false):=zN (by
           rw[HS.out,zDf (fun e=>h2 (by rw[e,HTT.out]))];rfl)
          have hb2:(f.2 == (ee:Int))=false:=beq_eq_false_iff_ne.2 h2
          rw[h1] at hSS HBN2 ⊢
          clear h1 h2
          refine RX.region RX.fN (fun w'=>w'=(wr.alloc (.cells #[.int .i64 (oi:Int),.int .i64 f.2,.int .i64 6] 48)).drew) (by kernel_rfl) (by kernel_rfl) (rfl) (fun OPS HO QR hQR=>?_)
          repeat (refine zeX (fun R hR=>?_);(first|refine zaX (by first|rfl|(rw[HO.out];rfl)) (by simp only[zA,zB,zC,zD];rfl) ?_|refine zbX (by first|rfl|(rw[HO.out];rfl)) rfl (by first|exact .inl rfl|exact .inr rfl) (by simp only[zE,zF,zG,zH];rfl) (by simp only[zA,zB,zC,zD];rfl) ?_|refine zcX (by first|rfl|(rw[HO.out];rfl)) rfl rfl (by simp only[zE,zF,zG,zH];rfl) (by simp only[zA,zB,zC,zD];rfl) ?_|(refine zdX (by first|rfl|(rw[HO.out];rfl)) rfl rfl rfl ?_;apply zEx;apply zEx;refine⟨fun w' hS K hK=>?_,?_,?_⟩;(focus ((subst hS;obtain⟨k0,k1,k2,k3,k4,k5,k6⟩:=hSS);go_wp2;exact hK _ _ (by simp only[zl,zG,zH];first|exact zf (by omega)|exact zg (by omega)|exact zh (by omega)|exact zi (by omega)|exact zj (by omega)|exact zk (by omega)|exact RX.bneB _|rfl) rfl));(focus (simp only[zA,zB,zC,zD];rfl))));refine hR _ _ ?_;clear hR R)
          refine RX.wpL_nil (hQR _ _ (rfl) ?_);clear hQR QR HO OPS
          clear hSS
          go_wp2
          go_roundw
          case rel=>exact⟨j+1,by omega,by go_num,by rw[HN.out],HBN2⟩
          case measure=>simp[intOf]<;>omega
        ·have HN:Hid ((A.take (j+1)).contains t=false):=zN (by
          rw[HS.out,zDf (fun e=>h1 (by rw[e,HTT.out]))];rfl)
         have hb1:(f.1 == (oi:Int))=false:=beq_eq_false_iff_ne.2 h1
         clear h1
         refine RX.region RX.fN (fun w'=>w'=(wr.alloc (.cells #[.int .i64 f.1,.int .i64 f.2,.int .i64 6] 48)).drew) (by kernel_rfl) (by kernel_rfl) (rfl) (fun OPS HO QR hQR=>?_)
         repeat (refine zeX (fun R hR=>?_);(first|refine zaX (by first|rfl|(rw[HO.out];rfl)) (by simp only[zA,zB,zC,zD];rfl) ?_|refine zbX (by first|rfl|(rw[HO.out];rfl)) rfl (by first|exact .inl rfl|exact .inr rfl) (by simp only[zE,zF,zG,zH];rfl) (by simp only[zA,zB,zC,zD];rfl) ?_|refine zcX (by first|rfl|(rw[HO.out];rfl)) rfl rfl (by simp only[zE,zF,zG,zH];rfl) (by simp only[zA,zB,zC,zD];rfl) ?_|(refine zdX (by first|rfl|(rw[HO.out];rfl)) rfl rfl rfl ?_;apply zEx;apply zEx;refine⟨fun w' hS K hK=>?_,?_,?_⟩;(focus ((subst hS;obtain⟨k0,k1,k2,k3,k4,k5,k6⟩:=hSS);go_wp2;exact hK _ _ (by simp only[zl,zG,zH];first|exact zf (by omega)|exact zg (by omega)|exact zh (by omega)|exact zi (by omega)|exact zj (by omega)|exact zk (by omega)|exact RX.bneB _|rfl) rfl));(focus (simp only[zA,zB,zC,zD];rfl))));refine hR _ _ ?_;clear hR R)
         refine RX.wpL_nil (hQR _ _ (rfl) ?_);clear hQR QR HO OPS
         clear hSS
         go_wp2
         go_roundw
         case rel=>exact⟨j+1,by omega,by go_num,by rw[HN.out],HBN2⟩
         case measure=>simp[intOf]<;>omega
      ·have hdj:decide ((j:Int) < (nf:Int))=false:=zDf (by omega)
       obtain rfl:j=nf:=by omega
       have HT1:Hid ((A.take j).contains t=true):=zN (by
        rw[List.take_of_length_le (by rw[HAl.out];exact Nat.le_refl _),List.contains_eq_mem]
        exact zDt HME.out)
       rw[HT1.out]
       have HBZ:=zN (HB15.out.trans (HBJ.out.mono HB15.out.size))
       go_wp2
       go_roundw
       case rel=>exact⟨k+1,by omega,by go_num,HBZ⟩
       case measure=>simp[intOf]<;>omega
    ·have hdk:decide ((k:Int) < (nf:Int))=false:=zDf (by omega)
     have HBZ:=zN (HB11.out.trans (HBK.out.mono HB11.out.size))
     go_wp2_with fail
     refine (awake18_any wr (HT.out.below HBZ.out) (HBN.out.below HBZ.out)).mono ?_
     rintro e w20 ⟨rfl,hb20⟩
     have HB20:=zN (HBZ.out.trans (hb20.mono HBZ.out.size))
     clear hb20
     go_wp2
     go_ret
     exact⟨rfl,HB20.out⟩
end Go.Proofs.YtednaajanciabaaGreatDoor
