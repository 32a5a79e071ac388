import Derived.Test.YtednaajanciabaaGreatDoorKBAwk
import Derived.Test.YtednaajanciabaaGreatDoorKBCtl
import Derived.Test.YtednaajanciabaaGreatDoorBShiP
import Derived.Deep.CutBlock
set_option maxRecDepth 100000
set_option maxHeartbeats 8000000
set_option linter.unusedSimpArgs false
set_option linter.unusedVariables false
namespace Go.Proofs.YtednaajanciabaaGreatDoor
open Go.RowKit Go.Grid Go.Buddy
structure ShAt (wr wc:World) (R:Nat) (x:Rep) (D:Rdg) (p:Option Addr) (c:Nat):Prop where
 rp:RptW wc R ⟨x.kind,x.name,x.time,x.f,x.a,x.b,x.c,.slice p D.length c⟩
 rd:RdgIn wc p D
 fr:∀ a,p=some a→0 < D.length→wr.heap.size≤a.block
 bl:Below wr.heap.size wr wc
structure ShY (d:Int) (L Y:List BR) (k:Nat):Prop where
 len:Y.length=k
 nm:∀ i,i < k→(bat Y i).1.name=(bat L i).1.name
 pl:∀ i,i < k→(bat Y i).1.f=(bat L i).1.f∧(bat Y i).1.a=(bat L i).1.a∧(bat Y i).1.b=(bat L i).1.b∧(bat Y i).1.c=(bat L i).1.c
 rd:∀ i,i < k→(bat Y i).2=shR d (bat L i).2
 ok:∀ y∈Y,vaB y.1=true∧valE y.2=0
theorem heap2 (w:World) (a o:Obj):((w.alloc a).alloc o).heap[w.heap.size+1]?=some o:=by
 have h:=heap_alloc_new (w.alloc a) o
 have e:(w.alloc a).heap.size=w.heap.size+1:=by simp
 rw[e] at h
 exact h
theorem ShY.start (d:Int) (L:List BR):ShY d L [] 0:=⟨rfl,fun i h=>by omega,fun i h=>by omega,fun i h=>by omega,fun y h=>(by cases h)⟩
theorem ShY.snoc {d:Int} {L Y:List BR} {k:Nat} {y:BR} (h:ShY d L Y k) (h1:y.1.name=(bat L k).1.name) (h2:y.1.f=(bat L k).1.f∧y.1.a=(bat L k).1.a∧y.1.b=(bat L k).1.b∧y.1.c=(bat L k).1.c) (h3:y.2=shR d (bat L k).2) (h4:vaB y.1=true∧valE y.2=0):ShY d L (Y ++ [y]) (k+1):=by
 have hl:=h.len
 have e:∀ i,i < k→bat (Y ++ [y]) i=bat Y i:=fun i hi=>by
  rw[bat_eq (by rw[List.length_append];simp;omega),bat_eq (by omega),List.getElem_append_left (by omega)]
 have e2:bat (Y ++ [y]) k=y:=by
  rw[bat_eq (by rw[List.length_append];simp;omega),List.getElem_append_right (by omega)]
  simp[hl]
 refine⟨by rw[List.length_append,hl];rfl,fun i hi=>?_,fun i hi=>?_,fun i hi=>?_,fun z hz=>?_⟩
 ·by_cases hk:i < k
  ·rw[e i hk];exact h.nm i hk
  ·obtain rfl:i=k:=by omega
   rw[e2];exact h1
 ·by_cases hk:i < k
  ·rw[e i hk];exact h.pl i hk
  ·obtain rfl:i=k:=by omega
   rw[e2];exact h2
 ·by_cases hk:i < k
  ·rw[e i hk];exact h.rd i hk
  ·obtain rfl:i=k:=by omega
   rw[e2];exact h3
 ·rcases List.mem_append.1 hz with h5|h5
  ·exact h.ok z h5
  ·rw[List.mem_singleton.1 h5];exact h4
theorem ShY.fin {d:Int} {L Y:List BR} (h:ShY d L Y L.length):ShOk d L Y:=
 ⟨h.len,h.nm,fun i hi=>by obtain⟨h1,h2,h3,h4⟩:=h.pl i hi;unfold plB;rw[h1,h2,h3,h4],h.rd⟩
theorem shi_law (W:World) (q:Option Addr) (cap:Nat) (Z:List Int) (by_:Int) (hV:VecAt W q Z) (hI:I64L Z) (hl:Z.length≤cap) (hc:cap≤9223372036854775807) (hT:HasTab W) (hB:HasBnd W) (hy0:-9223372036854775808≤by_) (hy1:by_≤9223372036854775807) :
  Calls Tryz.prog 5 #[.slice q Z.length cap,.int .i64 by_] W fun e w'=>e=.returned (.bool true)∧Below W.heap.size W w':=by
 go_enter Tryz.func5,Tryz.ntmps5
 go_wp2_with fail
 refine (knew_any q cap Z W hV hI hl hc).mono ?_
 rintro e w1 ⟨rfl,hb,b,hblt,hs⟩
 clear hV hI
 have HT:=zN hT
 have HBN:=zN hB
 generalize min Z.length 2000=N at *
 obtain⟨g,hg⟩:∃ g,g=W.heap.size:=⟨_,rfl⟩
 rw[←hg] at hs hblt ⊢
 have HG:=zN hg
 have HB1:=zN hb
 have HBL:=zN hblt
 have hg1:=hs.lt
 clear hg hT hB hl hc hb hblt
 go_wp2_with fail
 refine (crowd_any w1 g b N 0 hs 9 (by omega) 14000000 (by omega) (by omega)).mono ?_
 rintro e w2 ⟨v,X,rfl,hrow,hok,hlen,hg2,hs2⟩
 obtain⟨p,cp,rfl,hcp,_,hpb⟩:=hrow.form
 have HB2:=zN (HB1.out.grown hg2 HB1.out.size (fun k hk=>by injection hk with hk;have:=HG.out;omega))
 have hsz2:=hg2.size
 have HROW:=zN hrow
 have HCO:=zN hok
 have HFX:Hid (∀ x∈X,vaB x.1=true∧valE x.2=0):=zN (fun x hx=>⟨(hok x hx).va,(hok x hx).ve⟩)
 have HPB:=zN hpb
 obtain⟨m,hm⟩:∃ m,m=X.length:=⟨_,rfl⟩
 have hmN:m≤9:=by omega
 rw[←hm] at HROW HPB hcp ⊢
 have HXM:=zN hm.symm
 obtain⟨ix,hsx⟩:=hs2
 clear hrow hok hlen hg2 hs hpb hm
 go_wp2_with fail
 refine (control_any w2 g b N ix hsx).mono ?_
 rintro e w6 ⟨kc,rfl,hko,hg6,i6,hs6⟩
 have HB6:=zN (HB2.out.grown hg6 HB2.out.size (fun k hk=>by injection hk with hk;have:=HG.out;omega))
 have HR6:=zN (HROW.out.kept (some g) hg6 (fun k e=>.inl (by injection e with e;omega)))
 have HKO:=zN hko
 have HS6:=zN hs6
 have hsz6:w2.heap.size≤w6.heap.size:=hg6.size
 clear hko hg6 hsx HROW HB2 hs6
 have HZN:=zN (CtlAt.new w6 ⟨0,fun _=>0,fun _=>0,0,fun _=>0,0,0,0⟩)
 have HZB:Hid (Below w6.heap.size w6 (w6.alloc (.cells #[.int .i64 0,.int .i64 0,.int .i64 0,.int .i64 0,.int .i64 0,.int .i64 0,.int .i64 0,.int .i64 0,.int .i64 0,.int .i64 0,.int .i64 0,.int .i64 0,.int .i64 0,.int .i64 0,.int .i64 0,.int .i64 0,.int .i64 0,.int .i64 0,.int .i64 0,.int .i64 0,.int .i64 0,.int .i64 0,.int .i64 0,.int .i64 0,.int .i64 0,.int .i64 0,.int .i64 0,.int .i64 0,.int .i64 0,.int .i64 0,.int .i64 0,.int .i64 0,.int .i64 0,.int .i64 0,.int .i64 0,.int .i64 0,.int .i64 0,.int .i64 0,.int .i64 0,.int .i64 0,.int .i64 0] 29))):=zN ((zBr _ _).alloc (Nat.le_refl _) _)
 go_wp2_with (refine wpl_storeC (by rfl) (.tmp 7) (.tmp 26) (by rfl) w6.heap.size _ kc (by rfl) (by rfl) HZN.out ?_;refine Hid.out ?_)
 refine zN ?_
 have HC7:Hid (CtlAt ((w6.alloc (.cells #[.int .i64 0,.int .i64 0,.int .i64 0,.int .i64 0,.int .i64 0,.int .i64 0,.int .i64 0,.int .i64 0,.int .i64 0,.int .i64 0,.int .i64 0,.int .i64 0,.int .i64 0,.int .i64 0,.int .i64 0,.int .i64 0,.int .i64 0,.int .i64 0,.int .i64 0,.int .i64 0,.int .i64 0,.int .i64 0,.int .i64 0,.int .i64 0,.int .i64 0,.int .i64 0,.int .i64 0,.int .i64 0,.int .i64 0,.int .i64 0,.int .i64 0,.int .i64 0,.int .i64 0,.int .i64 0,.int .i64 0,.int .i64 0,.int .i64 0,.int .i64 0,.int .i64 0,.int .i64 0,.int .i64 0] 29)).setCells w6.heap.size 0 (ctlL kc)) w6.heap.size kc):=zN (HZN.out.store kc)
 have HB7:Hid (Below w6.heap.size w6 ((w6.alloc (.cells #[.int .i64 0,.int .i64 0,.int .i64 0,.int .i64 0,.int .i64 0,.int .i64 0,.int .i64 0,.int .i64 0,.int .i64 0,.int .i64 0,.int .i64 0,.int .i64 0,.int .i64 0,.int .i64 0,.int .i64 0,.int .i64 0,.int .i64 0,.int .i64 0,.int .i64 0,.int .i64 0,.int .i64 0,.int .i64 0,.int .i64 0,.int .i64 0,.int .i64 0,.int .i64 0,.int .i64 0,.int .i64 0,.int .i64 0,.int .i64 0,.int .i64 0,.int .i64 0,.int .i64 0,.int .i64 0,.int .i64 0,.int .i64 0,.int .i64 0,.int .i64 0,.int .i64 0,.int .i64 0,.int .i64 0] 29)).setCells w6.heap.size 0 (ctlL kc))):=zN (below_setC HZB.out (Nat.le_refl _) _)
 generalize ((w6.alloc (.cells #[.int .i64 0,.int .i64 0,.int .i64 0,.int .i64 0,.int .i64 0,.int .i64 0,.int .i64 0,.int .i64 0,.int .i64 0,.int .i64 0,.int .i64 0,.int .i64 0,.int .i64 0,.int .i64 0,.int .i64 0,.int .i64 0,.int .i64 0,.int .i64 0,.int .i64 0,.int .i64 0,.int .i64 0,.int .i64 0,.int .i64 0,.int .i64 0,.int .i64 0,.int .i64 0,.int .i64 0,.int .i64 0,.int .i64 0,.int .i64 0,.int .i64 0,.int .i64 0,.int .i64 0,.int .i64 0,.int .i64 0,.int .i64 0,.int .i64 0,.int .i64 0,.int .i64 0,.int .i64 0,.int .i64 0] 29)).setCells w6.heap.size 0 (ctlL kc))=w7 at *
 have HBW7:=zN (HB6.out.trans (HB7.out.mono HB6.out.size))
 have HR7:=zN (HR6.out.below HB7.out)
 have HS7:=zN (HS6.out.below HB7.out)
 have hsz7:=HB7.out.size
 obtain⟨RB,hRB⟩:∃ RB,RB=w6.heap.size:=⟨_,rfl⟩
 rw[←hRB] at HC7 ⊢
 have HRB:=zN hRB
 have hgRB:g < RB:=by have:=HS6.out.lt;omega
 have hRW:w2.heap.size≤RB:=by omega
 clear hRB HZN HZB HB6 HR6 HS6 HB7
 go_wp2_with fail
 refine (kmod_any by_ 41 w7 hy0 hy1 (by omega) (by omega)).mono ?_
 rintro e w8 ⟨rfl,hw8⟩
 rw[←hw8]
 have hd0:0≤by_ % 41∧by_ % 41 < 41:=⟨Int.emod_nonneg _ (by decide),Int.emod_lt_of_pos _ (by decide)⟩
 obtain⟨d,hd⟩:∃ d,d=by_ % 41-20:=⟨_,rfl⟩
 obtain⟨dm,hdm⟩:∃ dm,dm=by_ % 41:=⟨_,rfl⟩
 rw[←hdm] at hd0 hd ⊢
 have hdb:-20≤d∧d≤20:=by omega
 have HD:=zN hd
 clear hw8 hy0 hy1 hdm
 clear w8
 have hdd:dm-20=d:=hd.symm
 clear hd
 go_wp2
 go_loopw [32,9] (fun v32 v9 wr=>∃ (k:Nat) (Y:List BR),k≤m∧v32=.int .i64 (k:Int)∧Hid (CrRow wr w7.heap.size v9 Y∧ShY d X Y k∧Below w7.heap.size w7 wr)) (fun v32 _ _=>m-(intOf v32).toNat)
 case atStart=>exact⟨0,[],by omega,rfl,zN ⟨CrRow.nil _ _,ShY.start d X,zBr _ _⟩⟩
 case round=>
  obtain⟨k,Y,hkm,rfl,HH⟩:=hrel
  have hYk:=HH.out.2.1.len
  obtain⟨pl,cl,rfl,hcl,_,_⟩:=HH.out.1.form
  obtain⟨yl,hyl⟩:∃ yl,yl=Y.length:=⟨_,rfl⟩
  have hyk:yl=k:=by rw[hyl];exact hYk
  rw[←hyl] at hcl HH ⊢
  have HYE:=zN hyl
  subst hyk
  clear hyl hYk
  by_cases hk:yl < m
  ·have hdk:decide ((yl:Int) < (m:Int))=true:=zDt (by omega)
   have hk0:(0:Int)≤(yl:Int):=by omega
   have hk1:(yl:Int) < (m:Int):=by omega
   have hiX:yl < X.length:=by rw[HXM.out];exact hk
   obtain⟨pbk,rfl,hpb1,hpb2⟩:=HPB.out (by omega)
   have hXr:=(HR7.out.below HH.out.2.2).row
   have hiX2:yl < (X.map Prod.fst).length:=by rw[List.length_map];exact hiX
   have q0:=RepRow.cell8 hXr (i:=yl) (c:=0) hiX2 (by omega) rfl
   have q1:=RepRow.cell8 hXr (i:=yl) (c:=1) hiX2 (by omega) rfl
   have q2:=RepRow.cell8 hXr (i:=yl) (c:=2) hiX2 (by omega) rfl
   have q3:=RepRow.cell8 hXr (i:=yl) (c:=3) hiX2 (by omega) rfl
   have q4:=RepRow.cell8 hXr (i:=yl) (c:=4) hiX2 (by omega) rfl
   have q5:=RepRow.cell8 hXr (i:=yl) (c:=5) hiX2 (by omega) rfl
   have q6:=RepRow.cell8 hXr (i:=yl) (c:=6) hiX2 (by omega) rfl
   have q7:=RepRow.cell8 hXr (i:=yl) (c:=7) hiX2 (by omega) rfl
   have hok:=(HR7.out.below HH.out.2.2).rd _ (List.getElem_mem hiX)
   have hfx:=HFX.out _ (List.getElem_mem hiX)
   simp only[List.getElem_map] at q0 q1 q2 q3 q4 q5 q6 q7
   rw[←bat_eq hiX] at q0 q1 q2 q3 q4 q5 q6 q7 hok hfx
   obtain⟨x,hx⟩:∃ x,x=bat X yl:=⟨_,rfl⟩
   rw[←hx] at q0 q1 q2 q3 q4 q5 q6 q7 hok hfx
   have HXX:=zN hx
   have HFXX:=zN hfx
   have hfvb:=fV_bd hfx.2 1
   obtain⟨qr,cr,hrd,hRin⟩:=hok.ex
   obtain⟨nr,hnr⟩:∃ nr,nr=x.2.length:=⟨_,rfl⟩
   have hnr9:nr≤1000000000:=by rw[hnr];exact hok.len
   rw[←hnr] at hrd
   rw[hrd] at q7
   have hws:=HH.out.2.2.size
   have q0':wr.cell? ⟨pbk,yl*8,none⟩=some (.int .i64 x.1.kind):=q0
   have HC:=zN (rfind04_any qr x.2 cr nr 1 (wr.alloc (.cells #[.int .i64 x.1.kind,.string x.1.name,.int .i64 x.1.time,.int .i64 x.1.f,.int .i64 x.1.a,.int .i64 x.1.b,.int .i64 x.1.c,.slice qr nr cr] 44)) hnr.symm (hRin.below ((zBr _ _).alloc (Nat.le_refl _) _)) hnr9)
   obtain⟨fb,hfb⟩:∃ fb,fb=fB x.2 1:=⟨_,rfl⟩
   obtain⟨fv,hfv⟩:∃ fv,fv=fV x.2 1:=⟨_,rfl⟩
   rw[←hfb,←hfv] at HC
   rw[←hfv] at hfvb
   have HSR:Hid (shR d x.2=if fb then [(1,fv+d)] else []):=zN (by rw[hfb,hfv];rfl)
   clear hx hok hfx hrd hRin hnr hXr q0 hfb hfv
   go_wp2_with fail
   refine HC.out.mono ?_
   rintro e w9 ⟨rfl,hw9⟩
   rw[←hw9]
   clear HC q0' q1 q2 q3 q4 q5 q6 q7 hw9
   have HR0:=zN (RptW.new wr ⟨x.1.kind,x.1.name,x.1.time,x.1.f,x.1.a,x.1.b,x.1.c,.slice none 0 0⟩)
   go_upto_if 43 with fail
   go_cut [12] from 44 to 50 (fun v12 wx=>v12=.int .i64 fv∧Hid (∃ p c,ShAt wr wx wr.heap.size x.1 (shR d x.2) p c))
   case first=>
    cases fb with
    |false=>
     have HD0:Hid (shR d x.2=[]):=zN (by rw[HSR.out];rfl)
     go_wp2
     go_meet
     case rel=>exact⟨rfl,zN ⟨none,0,by rw[HD0.out];exact⟨HR0.out,RdgIn.nil _ _,(fun a h _=>by cases h),(zBr _ _).alloc (Nat.le_refl _) _⟩⟩⟩
    |true=>
     have HD0:Hid (shR d x.2=[(1,fv+d)]):=zN (by rw[HSR.out];rfl)
     go_wp2
     go_meet
     case rel=>exact⟨rfl,zN ⟨some ⟨wr.heap.size+1,0,none⟩,1,by
      rw[HD0.out]
      refine⟨?_,⟨wr.heap.size+1,0,fun _=>rfl,fun j hj=>?_⟩,fun a h _=>?_,(by repeat (first|(with_reducible first|assumption|exact zBr _ _|refine zBs ?_ (by first|omega|(simp<;>omega)) _|refine zBa ?_ (by first|omega|(simp<;>omega)) _|apply zBd)|assumption))⟩
      ·have h:=(RptW.new wr ⟨x.1.kind,x.1.name,x.1.time,x.1.f,x.1.a,x.1.b,x.1.c,.slice (some ⟨wr.heap.size+1,0,none⟩) 1 1⟩)
       exact h.below ((zBr _ _).alloc (Nat.le_refl _) _)
      ·have hj0:j=0:=by
        have:j < 1:=hj
        omega
       subst hj0
       exact⟨(by simp[zO,zJ,zQ]),(by simp[zO,zJ,zQ])⟩
      ·injection h with h
       subst h
       show wr.heap.size≤wr.heap.size+1
       omega⟩⟩
   case rest=>
    obtain⟨rfl,HSA⟩:=hcut
    generalize wc=w10 at *
    obtain⟨ps,cs,hsa⟩:=HSA.out
    have HSA:=zN hsa
    obtain⟨DR,hDR⟩:∃ DR,DR=shR d x.2:=⟨_,rfl⟩
    rw[←hDR] at hsa HSA
    obtain⟨dl,hdl⟩:∃ dl,dl=DR.length:=⟨_,rfl⟩
    have hdl1:dl≤1:=by rw[hdl,hDR,HSR.out];split<;>simp
    obtain⟨c0,c1,c2,c3,c4,c5,c6,c7,_⟩:=hsa.rp
    rw[←hdl] at c7
    dsimp only at c0 c1 c2 c3 c4 c5 c6
    have HVD:=zN (rvalidate_any ps DR cs dl w10 hdl.symm hsa.rd (by omega))
    obtain⟨ve,hve⟩:∃ ve,ve=valE DR:=⟨_,rfl⟩
    rw[←hve] at HVD
    have HVE:=zN hve
    have HDL:=zN hdl
    have HDR:=zN hDR
    have HBW:=zN (HH.out.2.2.trans (hsa.bl.mono hws))
    clear hsa hdl hve HR0 hDR
    go_wp2_with fail
    refine HVD.out.mono ?_
    rintro e w11 ⟨rfl,hb11⟩
    have HB11:=zN (HBW.out.trans (hb11.mono HBW.out.size))
    have HBG:=zN (HSA.out.bl.trans (hb11.mono HSA.out.bl.size))
    have HRP:=zN (HSA.out.rp.below hb11)
    have HRI:=zN (HSA.out.rd.below hb11)
    have d0:=zP hb11 c0
    have d1:=zP hb11 c1
    have d2:=zP hb11 c2
    have d3:=zP hb11 c3
    have d4:=zP hb11 c4
    have d5:=zP hb11 c5
    have d6:=zP hb11 c6
    have d7:=zP hb11 c7
    clear c0 c1 c2 c3 c4 c5 c6 c7 hb11 HVD
    by_cases hv0:ve=0
    ·subst hv0
     have hown:w11.ownsRow w7.heap.size 44 8 (.slice pl yl cl) yl ((Y.map Prod.fst).flatMap rpc):=by
      have h:=(HH.out.1.below HBG.out).row
      unfold RepRow at h
      rw[List.length_map,←HYE.out] at h
      exact h
     have hw11:=HB11.out.size
     go_wp2_with (refine RX.wpl_app (by rfl) elRep _ _ (by rfl) w7.heap.size _ _ _ (World.ownsRow.alloc hown _) (by rfl) w11.heap.size _ 1 (by rfl) (heap_alloc_new _ _) (by rfl) (by simp[Value.oneCell']) (by omega) (by omega) (by simp;omega) ?_;intro v' wd hown2 hbd hgd hatd)
     have HN2:Hid (∃ Y',CrRow wd w7.heap.size v' Y'∧ShY d X Y' (yl+1)∧Below w7.heap.size w7 wd):=zN ⟨Y ++ [(⟨x.1.kind,x.1.name,x.1.time,x.1.f,x.1.a,x.1.b,x.1.c,.slice ps dl cs⟩,DR)],by
      have hb1:=HBG.out.trans ((zBr w11.heap.size w11).alloc (Nat.le_refl _) (.cells #[.int .i64 x.1.kind,.string x.1.name,.int .i64 x.1.time,.int .i64 x.1.f,.int .i64 x.1.a,.int .i64 x.1.b,.int .i64 x.1.c,.slice ps dl cs] 44) |>.mono HBG.out.size)
      refine CrRow.snoc HH.out.1 hb1 (by rw[←HYE.out];exact hown2) hgd hatd ⟨⟨ps,cs,by show Value.slice ps dl cs=.slice ps DR.length cs;rw[HDL.out],HRI.out.below ((zBr _ _).alloc (Nat.le_refl _) _)⟩,by show DR.length≤_;rw[←HDL.out];omega⟩ (fun a n c ha h0=>?_)
      have e:ps=some a:=by
       have h:Value.slice ps dl cs=.slice (some a) n c:=ha
       injection h
      have h2:=HSA.out.fr a e h0
      refine⟨by omega,fun e2=>?_⟩
      have h3:=(World.ownsRow.lt HH.out.1.row _ e2).2
      omega,HH.out.2.1.snoc (by rw[←HXX.out]) (by rw[←HXX.out];exact⟨rfl,rfl,rfl,rfl⟩) (by rw[←HXX.out];exact HDR.out) ⟨HFXX.out.1,HVE.out.symm⟩,(HB11.out.trans ((zBr _ _).alloc (Nat.le_refl _) _ |>.mono HB11.out.size)).trans hbd⟩
     clear hown hown2 hbd hgd hatd d0 d1 d2 d3 d4 d5 d6 d7
     go_wp2
     go_roundw
     case rel=>
      obtain⟨Y',h1,h2,h3⟩:=HN2.out
      exact⟨yl+1,Y',by omega,by go_num,zN ⟨h1,h2,h3⟩⟩
     case measure=>simp[intOf]<;>omega
    ·have hne:(ve != 0)=true:=by rw[bne_iff_ne];exact hv0
     have HBZ:=zN (HBW7.out.trans (HB11.out.mono HBW7.out.size))
     clear d0 d1 d2 d3 d4 d5 d6 d7
     go_wp2_with fail
     refine (awake18_any w11 (HT.out.below HBZ.out) (HBN.out.below HBZ.out)).mono ?_
     rintro e w20 ⟨rfl,hb20⟩
     have HB20:=zN (HBZ.out.trans (hb20.mono HBZ.out.size))
     clear hb20
     go_wp2
     go_ret
     exact⟨rfl,HB20.out⟩
  ·have hdk:decide ((yl:Int) < (m:Int))=false:=zDf (by omega)
   obtain rfl:yl=m:=by omega
   obtain⟨hry,hsy,hby⟩:=HH.out
   have HSH:Hid (ShOk d X Y):=zN (ShY.fin (by rw[HXM.out];exact hsy))
   have HYO:=zN hsy.ok
   have hYl:Y.length=yl:=HYE.out.symm
   obtain⟨py,cy,ey,_,hVY,_⟩:=hry.form
   rw[hYl] at ey
   injection ey with e1 _ e3
   subst e1 e3
   have HVY:=zN hVY
   have HBY:=zN (HBW7.out.trans (hby.mono HBW7.out.size))
   have HC9:=zN (HC7.out.below hby)
   obtain⟨px,cx,ex,_,hVX,_⟩:=(HR7.out.below hby).form
   rw[HXM.out] at ex
   injection ex with e1 _ e3
   subst e1 e3
   have HVX:=zN hVX
   have HEX:=zN (chkE_ok HKO.out HFX.out)
   have HEY:=zN (chkE_ok HKO.out HYO.out)
   have HRES:=zN (chkL_shift HSH.out (fun x hx=>(HFX.out x hx).2) (fun x hx=>(HYO.out x hx).2) HEX.out HEY.out)
   have HYL:=zN hYl
   clear hry hsy hby hVY hYl hVX HH HR7 HC7 HBW7
   generalize wr=w9 at *
   have hC9:=HC9.out
   have HCKX:=zN (bcheck_any p cp yl X HXM.out (by omega) kc w9 (HT.out.below HBY.out) (HBN.out.below HBY.out) HVX.out)
   rw[HEX.out] at HCKX
   go_wp2_with (first|(refine wpl_loadC (by rfl) (.tmp 7) (by rfl) RB kc (by rfl) hC9 ?_;refine Hid.out ?_))
   refine zN ?_
   go_wp2_with fail
   refine HCKX.out.mono ?_
   rintro e w10 ⟨v10,rfl,hb10,hF10⟩
   obtain⟨pa,ca,rfl,hca⟩:=hF10.slice
   have HB10:=zN (HBY.out.trans (hb10.mono HBY.out.size))
   have hC10:=HC9.out.below hb10
   have HVY10:=zN (HVY.out.below hb10)
   have HFA:=zN hF10
   clear hb10 hF10 hC9 HC9 HCKX HVX HVY
   have HCKY:=zN (bcheck_any pl cl yl Y HYL.out (by omega) kc w10 (HT.out.below HB10.out) (HBN.out.below HB10.out) HVY10.out)
   rw[HEY.out,HRES.out] at HCKY
   have hAl:(chkL kc X).length≤1000000:=by
    unfold chkL
    split
    ·have h1:=outC_len kc.fr.toNat X kc.bd 12
     have h2:(sort2 (outC kc.fr.toNat X kc.bd 12)).length=(outC kc.fr.toNat X kc.bd 12).length:=(List.mergeSort_perm _ _).length_eq
     rw[HXM.out] at h1
     omega
    ·simp
   obtain⟨A,hA⟩:∃ A,A=chkL kc X:=⟨_,rfl⟩
   rw[←hA] at HFA hca HCKY hAl ⊢
   obtain⟨nf,hnf⟩:∃ nf,nf=A.length:=⟨_,rfl⟩
   rw[←hnf] at HFA hca hAl ⊢
   have HAl:=zN hnf.symm
   clear hA hnf
   go_wp2_with (first|(refine wpl_loadC (by rfl) (.tmp 7) (by rfl) RB kc (by rfl) hC10 ?_;refine Hid.out ?_))
   refine zN ?_
   go_wp2_with fail
   refine HCKY.out.mono ?_
   rintro e w11 ⟨v11,rfl,hb11,hF11⟩
   obtain⟨pb,cb,rfl,hcb⟩:=hF11.slice
   obtain⟨gl,hgl⟩:∃ gl,gl=(A.filter (fun v=>decide (v.2=1))).length:=⟨_,rfl⟩
   have hglA:gl≤nf:=by rw[hgl,←HAl.out];exact List.length_filter_le _ _
   rw[←hgl] at hF11 hcb ⊢
   have HB11:=zN (HB10.out.trans (hb11.mono HB10.out.size))
   have HFB:=zN hF11
   have HGL:=zN hgl
   have HFA11:=zN (HFA.out.below hb11)
   clear hb11 hF11 hC10 HCKY HFA HVY10 hgl
   go_wp2
   go_loopw [74,18] (fun v74 v18 wr=>∃ j:Nat,j≤nf∧v74=.int .i64 (j:Int)∧Hid (FlOwn wr w11.heap.size v18 ((A.take j).filter (fun v=>decide (v.2=1)))∧Below w11.heap.size w11 wr)) (fun v74 _ _=>nf-(intOf v74).toNat)
   case atStart=>exact⟨0,by omega,rfl,zN ⟨World.ownsRow_nil _ _ _ _,zBr _ _⟩⟩
   case round=>
    obtain⟨j,hjn,rfl,HH⟩:=hrel
    obtain⟨pw,cw,rfl,hcw⟩:=own_slice HH.out.1
    have hfl:((A.take j).filter (fun v=>decide (v.2=1))).length≤nf:=by
     have h1:=List.length_filter_le (fun v:I2=>decide (v.2=1)) (A.take j)
     rw[List.length_take,HAl.out] at h1
     omega
    obtain⟨T,hT⟩:∃ T,T=(A.take j).filter (fun v=>decide (v.2=1)):=⟨_,rfl⟩
    rw[←hT] at hfl HH hcw ⊢
    have HTT:=zN hT
    clear hT
    by_cases hj:j < nf
    ·have hdj:decide ((j:Int) < (nf:Int))=true:=zDt (by omega)
     have hj0:(0:Int)≤(j:Int):=by omega
     have hj1:(j:Int) < (nf:Int):=by omega
     have hjA:j < A.length:=by rw[HAl.out];exact hj
     obtain⟨ba,oa,rfl,_,hsa⟩:=HFA11.out.cell (by omega)
     obtain⟨a0,a1,a2⟩:=hsa j hjA
     have x0:=zP HH.out.2 a0
     have x1:=zP HH.out.2 a1
     have x2:=zP HH.out.2 a2
     have HFS:Hid ((A.take (j+1)).filter (fun v=>decide (v.2=1))=T ++ if A[j].2=1 then [A[j]] else []):=zN (by
      rw[List.take_succ_eq_append_getElem hjA,List.filter_append,←HTT.out]
      by_cases e:A[j].2=1
      ·rw[if_pos e];simp[e]
      ·rw[if_neg e];simp[e])
     obtain⟨f,hf⟩:∃ f,f=A[j]:=⟨_,rfl⟩
     rw[←hf] at x0 x1 HFS
     have hws:=HH.out.2.size
     have HOW:=zN HH.out.1
     have HBW:=zN HH.out.2
     clear hsa a0 a1 a2 hf HH
     by_cases h1:f.2=1
     ·have HN:Hid ((A.take (j+1)).filter (fun v=>decide (v.2=1))=T ++ [(f.1,1)]):=zN (by
       rw[HFS.out,if_pos h1]
       congr 1
       rw[←h1])
      rw[h1] at x1
      have hown:=HOW.out
      go_wp2_with (refine RX.wpl_app (by rfl) elFlag _ _ (by rfl) w11.heap.size _ _ _ (World.ownsRow.alloc (World.ownsRow.alloc hown _) _) (by rfl) (wr.heap.size+1) _ 1 (by rfl) (heap2 _ _ _) (by rfl) (by simp[Value.oneCell']) (by omega) (by omega) (by simp;omega) ?_;intro vq w14 hown14 hb14 hg14 hat14;clear hat14 hg14)
      have f4:Hid (Below w11.heap.size w11 w14):=zN ((HBW.out.trans ((((zBr _ _).alloc (Nat.le_refl _) _).alloc (by simp) _).mono hws)).trans hb14)
      have f1:Hid (FlOwn w14 w11.heap.size vq (T ++ [(f.1,1)])):=zN (FlOwn.snoc hown14)
      clear hown14 hb14 hown x0 x1 x2 h1
      go_wp2
      go_roundw
      case rel=>exact⟨j+1,by omega,by go_num,zN ⟨by rw[HN.out];exact f1.out,f4.out⟩⟩
      case measure=>simp[intOf]<;>omega
     ·have HN:Hid ((A.take (j+1)).filter (fun v=>decide (v.2=1))=T):=zN (by rw[HFS.out,if_neg h1,List.append_nil])
      have hb1:(f.2 == 1)=false:=beq_eq_false_iff_ne.2 h1
      have HW2:Hid (FlOwn (wr.alloc (.cells #[.int .i64 f.1,.int .i64 f.2,.int .i64 6] 48)) w11.heap.size (.slice pw T.length cw) T):=zN (World.ownsRow.alloc HOW.out _)
      have HB2:Hid (Below w11.heap.size w11 (wr.alloc (.cells #[.int .i64 f.1,.int .i64 f.2,.int .i64 6] 48))):=zN (HBW.out.alloc hws _)
      clear h1
      go_wp2
      go_roundw
      case rel=>exact⟨j+1,by omega,by go_num,zN ⟨by rw[HN.out];exact HW2.out,HB2.out⟩⟩
      case measure=>simp[intOf]<;>omega
    ·have hdj:decide ((j:Int) < (nf:Int))=false:=zDf (by omega)
     obtain rfl:j=nf:=by omega
     have HT2:Hid (T=A.filter (fun v=>decide (v.2=1))):=zN (by rw[HTT.out,List.take_of_length_le (by rw[HAl.out];exact Nat.le_refl _)])
     have HTA:=zN (HH.out.1.at)
     have HBZ:=zN (HB11.out.trans (HH.out.2.mono HB11.out.size))
     have HFL:=zN (flags_any (.slice pb gl cb) (.slice pw T.length cw) _ T wr (HFB.out.below HH.out.2) HTA.out (by rw[←HGL.out];omega) (by omega))
     rw[HT2.out,zDt rfl,←HT2.out] at HFL
     clear HH
     go_wp2_with fail
     refine HFL.out.mono ?_
     rintro e w15 ⟨rfl,hb15⟩
     have HB15:=zN (HBZ.out.trans (hb15.mono HBZ.out.size))
     clear hb15
     go_wp2_with fail
     refine (awake18_any w15 (HT.out.below HB15.out) (HBN.out.below HB15.out)).mono ?_
     rintro e w20 ⟨rfl,hb20⟩
     have HB20:=zN (HB15.out.trans (hb20.mono HB15.out.size))
     clear hb20
     go_wp2
     go_ret
     exact⟨rfl,HB20.out⟩
end Go.Proofs.YtednaajanciabaaGreatDoor
