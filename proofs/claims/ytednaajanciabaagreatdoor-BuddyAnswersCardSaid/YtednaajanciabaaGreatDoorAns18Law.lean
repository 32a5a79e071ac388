import Derived.Test.YtednaajanciabaaGreatDoorBAnsP
import Derived.Test.YtednaajanciabaaGreatDoorBChk
import Derived.Test.YtednaajanciabaaGreatDoorRChk
import Derived.Test.YtednaajanciabaaGreatDoorKBAwk
import Derived.Test.YtednaajanciabaaGreatDoorKBCtl
import Derived.Test.YtednaajanciabaaGreatDoorKBCr
import Derived.Deep.CutBlock
set_option maxRecDepth 100000
set_option maxHeartbeats 8000000
set_option linter.unusedSimpArgs false
set_option linter.unusedVariables false
namespace Go.Proofs.YtednaajanciabaaGreatDoor
open Go.RowKit Go.Grid Go.Buddy
theorem neiL_lenA {n r c:Int} {X:List BR}:(neiL n X r c).length≤X.length:=by
 unfold neiL aroL
 split
 ·split
  ·exact Nat.le_trans (List.length_filter_le _ _) (by rw[List.length_range];exact Nat.le_refl _)
  ·exact Nat.zero_le _
 ·exact Nat.zero_le _
theorem ZL.put {w5:World} {base yb m cy g i:Nat} {X:List BR} {k:Int} {nm:ByteArray} {t f a b' c:Int} {rd:Value} {D:Rdg} (hrow:RepRow w5 base (.slice (some ⟨yb,0,none⟩) m cy) (X.map Prod.fst)) (hX:ZL w5 g (some ⟨yb,0,none⟩) X) (hXb:∀ x∈X,∀ a n c,x.1.rd=.slice (some a) n c→0 < x.2.length→a.block≠yb) (hl:X.length=m) (hi:i < m)
  (hy:BOk w5 (⟨k,nm,t,f,a,b',c,rd⟩,D)) (hyb:∀ a n c,rd=.slice (some a) n c→0 < D.length→a.block≠g∧a.block≠yb) :
  ZL (put8 w5 yb i k nm t f a b' c rd) g (some ⟨yb,0,none⟩) (X.set i (⟨k,nm,t,f,a,b',c,rd⟩,D)):=by
 have hrow6:=RepRow.put8 hrow (by rw[List.length_map];exact hl) (i:=i) (by rw[List.length_map,hl];exact hi) k nm t f a b' c rd
 have hg:w5.grownBy (put8 w5 yb i k nm t f a b' c rd) (some yb):=grw_put8 (grw_refl _ _) (.inl rfl)
 generalize (put8 w5 yb i k nm t f a b' c rd)=w6 at hrow6 hg ⊢
 have hb6:∀ x∈X.set i (⟨k,nm,t,f,a,b',c,rd⟩,D),BOk w6 x∧∀ a n c,x.1.rd=.slice (some a) n c→0 < x.2.length→a.block≠g:=fun x hx=>by
  rcases List.mem_or_eq_of_mem_set hx with h|rfl
  ·exact⟨(hX.v.r x h).turn (fun a n c ha h0=>hg.block _ ((hX.v.r x h).blk ha h0) (fun e=>hXb x h a n c ha h0 (by injection e))),hX.r x h⟩
  ·exact⟨hy.turn (fun a n c ha h0=>hg.block _ (hy.blk ha h0) (fun e=>(hyb a n c ha h0).2 (by injection e))),fun a n c ha h0=>(hyb a n c ha h0).1⟩
 have e:(X.map Prod.fst).set i ⟨k,nm,t,f,a,b',c,rd⟩=(X.set i (⟨k,nm,t,f,a,b',c,rd⟩,D)).map Prod.fst:=by rw[List.map_set]
 rw[e] at hrow6
 obtain⟨p',c',e2,_,hv,_⟩:=hrow6.form (fun r hr=>by
  obtain⟨x,hx,rfl⟩:=List.mem_map.1 hr
  obtain⟨q,cq,h1,_⟩:=(hb6 x hx).1.ex
  exact⟨_,_,_,h1⟩)
 injection e2 with e3 _ _
 subst e3
 exact⟨⟨hv,fun x hx=>(hb6 x hx).1⟩,fun a ha h0=>hX.b a ha (by rwa[List.length_set] at h0),fun x hx=>(hb6 x hx).2⟩
theorem ans18_law (W:World) (pr:Option Addr) (capr:Nat) (L:List BR) (hVr:VecR W pr (L.map Prod.fst)) (hRr:∀ x∈L,∃ q cap,x.1.rd=.slice q x.2.length cap∧RdgIn W q x.2) (given:Ctl) (q:Option Addr) (cap:Nat) (Z:List Int) (rn rr rc:Int)
  (hV:VecAt W q Z) (hI:I64L Z) (hl:Z.length≤cap) (hc:cap≤9223372036854775807) (hT:HasTab W) (hB:HasBnd W) :
  Calls Tryz.prog 6 #[.slice pr L.length capr,ctv given,.slice q Z.length cap,.int .i64 rn,.int .i64 rr,.int .i64 rc] W fun e w'=>e=.returned (.bool true)∧Below W.heap.size W w':=by
 have HT:=zN hT
 have HBN:=zN hB
 have HVR:=zN (And.intro hVr hRr)
 have HVZ:=zN (And.intro hV hI)
 clear hT hB hVr hRr hV hI
 obtain⟨mr,hmr⟩:∃ mr,mr=L.length:=⟨_,rfl⟩
 rw[←hmr]
 have HMR:=zN hmr.symm
 clear hmr
 go_enter Tryz.func6,Tryz.ntmps6
 go_upto_region 1 with fail
 refine absW (F:=fun w'=>Hid (CtlAt w' W.heap.size given∧Below W.heap.size W w'∧w'.heap.size=W.heap.size+1)) ?ha ?_
 case ha=>exact zN ⟨CtlAt.new W given,(zBr _ _).alloc (Nat.le_refl _) _,by simp⟩
 rintro w0 HA
 obtain⟨GB,hGB⟩:∃ GB,GB=W.heap.size:=⟨_,rfl⟩
 rw[←hGB] at HA ⊢
 have HGB:=zN hGB
 clear hGB
 have HBW0:Hid (Below W.heap.size W w0):=zN (by have h:=HA.out.2.1;rw[HGB.out] at h;exact h)
 have hGBl:GB < w0.heap.size:=by have:=HA.out.2.2;omega
 go_wp2_with fail
 refine (smallAll_any 20 pr capr mr (L.map Prod.fst) (by rw[List.length_map];exact HMR.out) (by omega) w0 (HVR.out.1.below HBW0.out)).mono ?_
 rintro e w1 ⟨rfl,hb1⟩
 have HB1:=zN (HBW0.out.trans (hb1.mono HBW0.out.size))
 have HC1:=zN (HA.out.1.below hb1)
 have hGB1:GB < w1.heap.size:=by have:=hb1.size;omega
 clear hb1 HA HBW0 hGBl
 cases hsm:smallB 20 (L.map Prod.fst)
 ·clear hsm
  go_wp2_with fail
  refine (awake18_any w1 (HT.out.below HB1.out) (HBN.out.below HB1.out)).mono ?_
  rintro e w2 ⟨rfl,hb2⟩
  have HB2:=zN (HB1.out.trans (hb2.mono HB1.out.size))
  clear hb2
  go_wp2
  go_ret
  exact⟨rfl,HB2.out⟩
 have hmr20:mr≤20:=by rw[←HMR.out,←List.length_map (f:=Prod.fst)];exact (smallB_len hsm).1
 have HZR:Hid (VecB w1 pr L):=zN ⟨HVR.out.1.below HB1.out,fun x hx=>by
  obtain⟨q,cq,h1,h2⟩:=HVR.out.2 x hx
  have h3:=((smallB_len hsm).2 x.1 (List.mem_map.2 ⟨x,hx,rfl⟩)).2
  rw[rdLen,h1] at h3
  exact⟨⟨q,cq,h1,h2.below HB1.out⟩,by show x.2.length≤1000000000;have h4:x.2.length≤40:=h3;omega⟩⟩
 clear hsm HVR
 go_wp2_with fail
 refine (knew_any q cap Z w1 (HVZ.out.1.below HB1.out) HVZ.out.2 hl hc).mono ?_
 rintro e w2 ⟨rfl,hb2,b,hblt,hs⟩
 generalize min Z.length 2000=N at *
 have HZ2:=zN (ZL.old HZR.out hb2)
 obtain⟨g,hg⟩:∃ g,g=w1.heap.size:=⟨_,rfl⟩
 rw[←hg] at hs hblt HZ2 ⊢
 have HB2:=zN (HB1.out.trans (hb2.mono HB1.out.size))
 have HC2:=zN (HC1.out.below hb2)
 have HG:Hid (W.heap.size≤g):=zN (by rw[hg];exact HB1.out.size)
 have hGg:GB < g:=by rw[hg];exact hGB1
 have HBL:=zN hblt
 have hg2:=hs.lt
 clear hg hb2 hblt HZR HC1 HB1 hGB1 HVZ hl hc
 go_wp2_with fail
 refine (crowd_any w2 g b N 0 hs 9 (by omega) 14000000 (by omega) (by omega)).mono ?_
 rintro e w3 ⟨v,X,rfl,hrow,hok,hlen,hg3,hs3⟩
 obtain⟨p,cp,rfl,hcp,_,hpb⟩:=hrow.form
 have HROW:=zN hrow
 have HLX:Hid (∀ x∈X,x.2.length≤50):=zN (fun x hx=>by have:=val_len (hok x hx).ve;omega)
 obtain⟨m,hm⟩:∃ m,m=X.length:=⟨_,rfl⟩
 have hmN:m≤9:=by omega
 rw[←hm] at HROW hcp ⊢
 have HXM:=zN hm.symm
 have HG23:=zN hg3
 obtain⟨i3,hs3⟩:=hs3
 have hsz3:=hg3.size
 clear hrow hok hlen hg3 hs hpb hm
 go_wp2_with fail
 refine (control_any w3 g b N i3 hs3).mono ?_
 rintro e w4 ⟨kc,rfl,_,hg4,i4,hs4⟩
 have HR4:=zN (HROW.out.kept (some g) hg4 (fun k e=>.inl (by injection e with e;omega)))
 have HG24:=zN (HG23.out.trans hg4)
 have HS4:=zN hs4
 have hsz4:w3.heap.size≤w4.heap.size:=hg4.size
 clear hg4 hs3 HROW HG23 hs4
 have HZN:=zN (CtlAt.new w4 ⟨0,fun _=>0,fun _=>0,0,fun _=>0,0,0,0⟩)
 have HZB:Hid (Below w4.heap.size w4 (w4.alloc (.cells z41 29))):=zN ((zBr _ _).alloc (Nat.le_refl _) _)
 go_wp2_with (refine wpl_storeC (by rfl) (.tmp 15) (.tmp 45) (by rfl) w4.heap.size _ kc (by rfl) (by rfl) HZN.out ?_;refine Hid.out ?_)
 refine zN ?_
 have HK5:Hid (CtlAt ((w4.alloc (.cells z41 29)).setCells w4.heap.size 0 (ctlL kc)) w4.heap.size kc):=zN (HZN.out.store kc)
 have HB45:Hid (Below w4.heap.size w4 ((w4.alloc (.cells z41 29)).setCells w4.heap.size 0 (ctlL kc))):=zN (below_setC HZB.out (Nat.le_refl _) _)
 generalize ((w4.alloc (.cells z41 29)).setCells w4.heap.size 0 (ctlL kc))=w5 at *
 obtain⟨RB,hRB⟩:∃ RB,RB=w4.heap.size:=⟨_,rfl⟩
 rw[←hRB] at HK5 ⊢
 have hgRB:g < RB:=by omega
 have HZ5:=zN ((HZ2.out.grown HG24.out).below HB45.out)
 have HC5:=zN ((HC2.out.grown HG24.out (by omega)).below HB45.out)
 have HX5:=zN (ZL.crowd (HR4.out.below HB45.out) HXM.out hg2)
 have HS5:=zN (HS4.out.below HB45.out)
 have HB5:=zN ((HB2.out.grown HG24.out HB2.out.size (fun k hk=>by injection hk with hk;have:=HG.out;omega)).trans (HB45.out.mono (by have h1:=HG24.out.size;have h2:=HB2.out.size;omega)))
 have hg5:g < w5.heap.size:=HS5.out.lt
 clear hRB HZN HZB HB45 HG24 HR4 HS4 HZ2 HC2 HB2 hsz3 hsz4
 have HWE:Hid (Below w5.heap.size w5 (w5.alloc (.cells #[] 44))):=zN ((zBr _ _).alloc (Nat.le_refl _) _)
 have HRX:Hid (∀ r∈X.map Prod.fst,RdOk r):=zN (fun r hr=>by
  obtain⟨x,hx,rfl⟩:=List.mem_map.1 hr
  obtain⟨q,cq,h1,_⟩:=(HX5.out.v.r x hx).ex
  exact⟨_,_,_,h1⟩)
 have hnl:((X.map Prod.fst).flatMap rpc).length=m*8:=by rw[rps_len,List.length_map,HXM.out]
 have hnews:=(HX5.out.v.v.below HWE.out).news (m:=m) (by rw[List.length_map];exact HXM.out)
 have hone:=rpc_one HRX.out
 go_wp2_with (refine RX.wpl_appA (by rfl) elRep _ _ (by rfl) w5.heap.size (some ⟨w5.heap.size,0,none⟩) 0 0 [] (own_empty w5 44 8) (by rfl) p m cp ((X.map Prod.fst).flatMap rpc) (by rfl) hnl hnews hone (by omega) (by omega) (by simp) ?_;intro vy w6 hown hb6;rw[Nat.zero_add,List.nil_append] at hown;obtain⟨py,cy,hvy,hcy⟩:=own_slice hown;subst hvy;have HB6:=zN (HWE.out.trans hb6);have HYR:Hid (RepRow w6 w5.heap.size (.slice py m cy) (X.map Prod.fst)):=zN (by unfold RepRow;rw[List.length_map,HXM.out];exact hown);clear hown hb6;refine Hid.out ?_)
 refine zN ?_
 clear hnl hnews hone HWE
 have HZY:Hid (ZL w6 g py X):=zN (by
  obtain⟨p',c',e2,_,hv,hp⟩:=HYR.out.form HRX.out
  injection e2 with e3 _ _
  subst e3
  exact⟨⟨hv,fun x hx=>(HX5.out.v.r x hx).below HB6.out⟩,fun a ha h0=>by
   obtain⟨yb,e4,h1,_⟩:=hp (by rw[List.length_map];exact h0)
   rw[ha] at e4
   injection e4 with e4
   subst e4
   show yb≠g
   omega,HX5.out.r⟩)
 have HS6:=zN (HS5.out.below HB6.out)
 go_upto_if 51 with fail
 go_cut [17] from 51 to 64 (fun v17 wx=>Hid (∃ Y:List BR,Y.length=m∧ZL wx g py Y∧w5.grownBy wx (some g)∧∃ j,SrcAt wx g b N j))
 case first=>
  by_cases hm0:0 < m
  ·have hdm:decide ((m:Int) > 0)=true:=zDt (by omega)
   have hN6:=zN (srcN_any w6 g b N i4 (m:Int) HS6.out (by omega) (by omega))
   have HY2:Hid (∃ yb,py=some ⟨yb,0,none⟩∧w5.heap.size≤yb∧yb < w6.heap.size):=zN (by
    obtain⟨p',c',e2,_,hv,hp⟩:=HYR.out.form HRX.out
    injection e2 with e3 _ _
    subst e3
    exact hp (by rw[List.length_map,HXM.out];exact hm0))
   go_wp2_with fail
   refine hN6.out.mono ?_
   rintro e w7 ⟨x,rfl,hx0,hx1,hg7,hs7⟩
   obtain⟨xn,rfl⟩:∃ xn:Nat,x=(xn:Int):=⟨x.toNat,by omega⟩
   have hxm:xn < m:=by omega
   obtain⟨yb,hpy,hyb0,hyb1⟩:=HY2.out
   subst hpy
   have HG57:=zN ((grw_below HB6.out (some g)).trans hg7)
   have HYR7:=zN (HYR.out.gr hg7 hg5)
   have HZ7:=zN (HZY.out.grown hg7)
   have hxl:xn < X.length:=by rw[HXM.out];exact hxm
   have HXI:=zN (HZ7.out.v.r _ (List.getElem_mem hxl))
   have HXL:=zN (HLX.out _ (List.getElem_mem hxl))
   have hfi:(X.map Prod.fst)[xn]'(by rw[List.length_map];exact hxl)=X[xn].1:=List.getElem_map _
   obtain⟨x9,hx9⟩:∃ x9,x9=X[xn]:=⟨_,rfl⟩
   rw[←hx9] at HXI HXL hfi
   obtain⟨⟨k9,nm9,t9,f9,a9,b9,c9,rd9⟩,D9⟩:=x9
   have hc8:∀ (c:Nat) (u:Value),c < 8→(rpc ⟨k9,nm9,t9,f9,a9,b9,c9,rd9⟩)[c]?=some u→w7.cell? ⟨yb,xn*8+c,none⟩=some u:=fun c u h1 h2=>RepRow.cell8 HYR7.out (by rw[List.length_map];exact hxl) h1 (by rw[hfi];exact h2)
   have y0:=hc8 0 _ (by decide) rfl
   have y1:=hc8 1 _ (by decide) rfl
   have y2:=hc8 2 _ (by decide) rfl
   have y3:=hc8 3 _ (by decide) rfl
   have y4:=hc8 4 _ (by decide) rfl
   have y5:=hc8 5 _ (by decide) rfl
   have y6:=hc8 6 _ (by decide) rfl
   have y7:=hc8 7 _ (by decide) rfl
   rw[Nat.add_zero] at y0
   obtain⟨j7,hj7⟩:=hs7
   have HBN7:=bent_any w7 g b N j7 hj7 (⟨k9,nm9,t9,f9,a9,b9,c9,rd9⟩,D9) HXI.out HXL.out
   unfold rpv at HBN7
   dsimp only at HBN7
   have HBN7:=zN HBN7
   have hxi0:(0:Int)≤(xn:Int):=by omega
   clear hc8 hfi hx9 hj7 hg7 HY2 hN6 HXI HXL HYR HZY
   go_wp2_with fail
   refine HBN7.out.mono ?_
   rintro e w8 ⟨⟨⟨ky,nmy,ty,fy,ay,by',cy',rdy⟩,Dy⟩,rfl,hbo⟩
   obtain⟨hbok,_,hblk,hg8,hs8⟩:=hbo
   obtain⟨qy,cpy,hrdy,hiny⟩:=hbok.ex
   dsimp only at hrdy hiny
   subst hrdy
   dsimp only
   have HYR8:=zN (HYR7.out.gr hg8 hg5)
   have HZ8:=zN (HZ7.out.grown hg8)
   have hc8:∀ (c:Nat) (u:Value),c < 8→(rpc ((X.map Prod.fst)[xn]'(by rw[List.length_map];exact hxl)))[c]?=some u→w8.cell? ⟨yb,xn*8+c,none⟩=some u:=fun c u h1 h2=>RepRow.cell8 HYR8.out (by rw[List.length_map];exact hxl) h1 h2
   generalize (X.map Prod.fst)[xn]'(by rw[List.length_map];exact hxl)=r8 at hc8
   obtain⟨k8,nm8,t8,f8,a8,b8,c8,rd8⟩:=r8
   have z0:=hc8 0 _ (by decide) rfl
   have z1:=hc8 1 _ (by decide) rfl
   have z2:=hc8 2 _ (by decide) rfl
   have z3:=hc8 3 _ (by decide) rfl
   have z4:=hc8 4 _ (by decide) rfl
   have z5:=hc8 5 _ (by decide) rfl
   have z6:=hc8 6 _ (by decide) rfl
   have z7:=hc8 7 _ (by decide) rfl
   rw[Nat.add_zero] at z0
   have f0:=RepRow.soft8 HYR8.out (xn*8)
   have f1:=RepRow.soft8 HYR8.out (xn*8+1)
   have f2:=RepRow.soft8 HYR8.out (xn*8+2)
   have f3:=RepRow.soft8 HYR8.out (xn*8+3)
   have f4:=RepRow.soft8 HYR8.out (xn*8+4)
   have f5:=RepRow.soft8 HYR8.out (xn*8+5)
   have f6:=RepRow.soft8 HYR8.out (xn*8+6)
   have f7:=RepRow.soft8 HYR8.out (xn*8+7)
   have hw7:yb < w7.heap.size:=zM _ _ y1
   have HBK:=zN (And.intro hbok hblk)
   have HXb:Hid (∀ x∈X,∀ a n c,x.1.rd=.slice (some a) n c→0 < x.2.length→a.block≠yb):=zN (fun x hx a n c ha h0=>by have:=(HX5.out.v.r x hx).blk ha h0;omega)
   have HPUT:Hid (ZL (put8 w8 yb xn ky nmy ty fy ay by' cy' (.slice qy Dy.length cpy)) g (some ⟨yb,0,none⟩) (X.set xn (⟨ky,nmy,ty,fy,ay,by',cy',.slice qy Dy.length cpy⟩,Dy))∧w5.grownBy (put8 w8 yb xn ky nmy ty fy ay by' cy' (.slice qy Dy.length cpy)) (some g)∧∃ j,SrcAt (put8 w8 yb xn ky nmy ty fy ay by' cy' (.slice qy Dy.length cpy)) g b N j):=zN ⟨ZL.put HYR8.out HZ8.out HXb.out HXM.out hxm HBK.out.1 (fun a n c ha h0=>by have h1:=(HBK.out.2 a n c ha h0).1;have h2:=hg8.size;constructor<;>omega),
    grw_put8 (HG57.out.trans hg8) (.inr hyb0),by
     obtain⟨j,hj⟩:=hs8
     have hgS:w8.grownBy (put8 w8 yb xn ky nmy ty fy ay by' cy' (.slice qy Dy.length cpy)) (some yb):=grw_put8 (grw_refl _ _) (.inl rfl)
     exact⟨j,hj.kept (hgS.block g hj.lt (fun e=>by injection e with e;omega)) (fun h0=>hgS.block b (hj.ltb h0) (fun e=>by injection e with e;have:=HBL.out h0;omega))⟩⟩
   clear hc8 hbok hblk hg8 hs8 hiny HYR7 HYR8 HZ7 HZ8 HBK HXb HG57 HBN7 y0 y1 y2 y3 y4 y5 y6 y7
   go_wp2
   go_meet
   case rel=>exact zN ⟨_,by rw[List.length_set];exact HXM.out,HPUT.out.1,HPUT.out.2.1,HPUT.out.2.2⟩
  ·have hdm:decide ((m:Int) > 0)=false:=zDf (by omega)
   go_wp2
   go_meet
   case rel=>exact zN ⟨X,HXM.out,HZY.out,grw_below HB6.out _,⟨i4,HS6.out⟩⟩
 case rest=>
  obtain⟨Y,hYl,hZY,hgY,hsY⟩:=hcut.out
  have HYM:=zN hYl
  have HYZ:=zN hZY
  have HGY:=zN hgY
  have HSY:=zN hsY
  clear hYl hZY hgY hsY hcut HZY HYR HS6 HB6
  generalize wc=w9 at *
  have hg9:g < w9.heap.size:=by obtain⟨j,hj⟩:=HSY.out;exact hj.lt
  go_wp2
  refine absW (F:=fun w'=>Hid ((∀ k,k < 3→∃ pz mz cz LZ,w'.cell? ⟨w9.heap.size,k,none⟩=some (.slice pz mz cz)∧LZ.length=mz∧mz≤20∧ZL w' g pz LZ)∧Below w9.heap.size w9 w')) ?ha2 ?_
  case ha2=>
   have hb:=(zBr w9.heap.size w9).alloc (Nat.le_refl _) (.cells #[.slice pr mr capr,.slice p m cp,.slice py m cy] 25)
   exact zN ⟨fun k hk=>by
    match k,hk with
    |0,_=>exact⟨pr,mr,capr,L,(by simp[zO,zJ,zQ]),HMR.out,hmr20,(HZ5.out.grown HGY.out).below hb⟩
    |1,_=>exact⟨p,m,cp,X,(by simp[zO,zJ,zQ]),HXM.out,by omega,(HX5.out.grown HGY.out).below hb⟩
    |2,_=>exact⟨py,m,cy,Y,(by simp[zO,zJ,zQ]),HYM.out,by omega,HYZ.out.below hb⟩,hb⟩
  rintro W0 HZZ0
  obtain⟨ZB,hZB⟩:∃ ZB,ZB=w9.heap.size:=⟨_,rfl⟩
  rw[←hZB] at HZZ0 ⊢
  have HZZ:=zN HZZ0.out.1
  have hZg:ZB≠g:=by omega
  have HGW:=zN (HGY.out.trans (grw_below (by have h:=HZZ0.out.2;rw[hZB] at h;exact h) (some g)))
  have HGV:=zN (HC5.out.grown HGW.out (by omega))
  have HKV:=zN (HK5.out.grown HGW.out (by omega))
  have HBV:=zN (HB5.out.grown HGW.out HB5.out.size (fun k hk=>by injection hk with hk;have:=HG.out;omega))
  have HLO0:Hid (LoS W0 W0 g b N []):=zN ⟨World.grownBy.refl _ _,by
   obtain⟨j,hj⟩:=HSY.out
   exact⟨j,hj.below (by have h:=HZZ0.out.2;rw[hZB] at h;exact h)⟩,fun q hq=>by cases hq⟩
  have hgz:g < W0.heap.size:=by obtain⟨j,hj⟩:=HLO0.out.s;exact hj.lt
  have HGG:Hid (∀ k,some g=some k→W.heap.size≤k):=zN (fun k hk=>by injection hk with hk;have:=HG.out;omega)
  clear hZB HZZ0 HGY HSY HYZ HYM HGW HC5 HK5 HB5 HZ5 HX5 HS5 HRX HLX hg9 hg5
  generalize w5.heap.size=z5 at *
  clear w9
  go_loopw [70] (fun v70 wx=>∃ k:Nat,k≤3∧v70=.int .i64 (k:Int)∧Hid (LoS W0 wx g b N [])) (fun v70 _=>3-(intOf v70).toNat)
  case atStart=>exact⟨0,by omega,rfl,HLO0⟩
  case round=>
   clear HLO0
   obtain⟨k,hk3,rfl,HLo⟩:=hrel
   by_cases hk:k < 3
   ·have hdk:decide ((k:Int) < 3)=true:=zDt (by omega)
    have hk0:(0:Int)≤(k:Int):=by omega
    have hkI:(k:Int) < 3:=by omega
    obtain⟨pz,mz,cz,LZ,hcz0,hlz,hmz,hZ0⟩:=HZZ.out k hk
    have hcz:=HLo.out.gr.cell hcz0 (by simp;omega)
    have HLZ:=zN hlz
    have HZ0:=zN hZ0
    have HCG:=zN (HGV.out.grown HLo.out.gr (by omega))
    have HCK:=zN (HKV.out.grown HLo.out.gr (by omega))
    have hCG:=HCG.out
    have hCK:=HCK.out
    clear hcz0 hlz hZ0
    generalize wr=wA at *
    go_wp2_with (first|(refine wpl_loadC (by rfl) (.tmp 7) (by rfl) GB given (by rfl) hCG ?_;refine Hid.out ?_))
    refine zN ?_
    go_wp2_with (first|(refine wpl_loadC (by rfl) (.tmp 15) (by rfl) RB kc (by rfl) hCK ?_;refine Hid.out ?_))
    refine zN ?_
    go_wp2_with (first|(refine wpl_two (by rfl) (.tmp 74) (.tmp 75) (by rfl) given kc (by rfl) (by rfl) ?_;refine Hid.out ?_))
    refine zN ?_
    have HCT:=zN (CtlIn.two wA given kc)
    have HBA:Hid (Below wA.heap.size wA (wA.alloc (.cells (ctlL given ++ ctlL kc).toArray 29))):=zN ((zBr _ _).alloc (Nat.le_refl _) _)
    generalize (wA.alloc (.cells (ctlL given ++ ctlL kc).toArray 29))=wB at HCT HBA ⊢
    obtain⟨CB,hCB⟩:∃ CB,CB=wA.heap.size:=⟨_,rfl⟩
    rw[←hCB] at HCT ⊢
    have HLB:=zN (HLo.out.below HBA.out)
    have HZW:=zN (HZ0.out.grown HLB.out.gr)
    have HBW:=zN (HBV.out.grown HLB.out.gr HBV.out.size HGG.out)
    clear hCG hCK hcz hCB HBA HCG HCK HLo
    go_wp2
    go_loopw [78] (fun v78 wx=>∃ j:Nat,j≤2∧v78=.int .i64 (j:Int)∧Hid (Below wB.heap.size wB wx)) (fun v78 _=>2-(intOf v78).toNat)
    case atStart=>exact⟨0,by omega,rfl,zN (zBr _ _)⟩
    case round=>
     obtain⟨j,hj2,rfl,HBJ⟩:=hrel
     by_cases hj:j < 2
     ·have hdj:decide ((j:Int) < 2)=true:=zDt (by omega)
      have hj0:(0:Int)≤(j:Int):=by omega
      have hjI:(j:Int) < 2:=by omega
      obtain⟨kk,hkk⟩:∃ kk,CtlIn wB CB (j*41) kk:=by
       match j,hj with
       |0,_=>exact⟨given,HCT.out.1⟩
       |1,_=>exact⟨kc,HCT.out.2⟩
      have hIn:=hkk.below HBJ.out
      have HBC:=zN (HBW.out.trans (HBJ.out.mono HBW.out.size))
      have HZC:=zN (HZW.out.below HBJ.out)
      clear hkk
      generalize wr=wC at *
      go_wp2_with (first|(refine wpl_loadM (by rfl) (.tmp 80) (by rfl) CB (j*41) kk (by rfl) hIn ?_;refine Hid.out ?_))
      refine zN ?_
      have HZN:=zN (CtlAt.new wC ⟨0,fun _=>0,fun _=>0,0,fun _=>0,0,0,0⟩)
      have HZQ:Hid (Below wC.heap.size wC (wC.alloc (.cells z41 29))):=zN ((zBr _ _).alloc (Nat.le_refl _) _)
      go_wp2_with (refine wpl_storeC (by rfl) (.tmp 21) (.tmp 81) (by rfl) wC.heap.size _ kk (by rfl) (by rfl) HZN.out ?_;refine Hid.out ?_)
      refine zN ?_
      have HCD:Hid (CtlAt ((wC.alloc (.cells z41 29)).setCells wC.heap.size 0 (ctlL kk)) wC.heap.size kk):=zN (HZN.out.store kk)
      have HBD:Hid (Below wC.heap.size wC ((wC.alloc (.cells z41 29)).setCells wC.heap.size 0 (ctlL kk))):=zN (below_setC HZQ.out (Nat.le_refl _) _)
      generalize ((wC.alloc (.cells z41 29)).setCells wC.heap.size 0 (ctlL kk))=wD at HCD HBD ⊢
      obtain⟨DB,hDB⟩:∃ DB,DB=wC.heap.size:=⟨_,rfl⟩
      rw[←hDB] at HCD ⊢
      clear hDB HZN HZQ hIn
      have HBE:=zN (HBC.out.trans (HBD.out.mono HBC.out.size))
      have HZD:=zN (HZC.out.below HBD.out)
      have hCD:=HCD.out
      have HC1:=zN (bcheck_any pz cz mz LZ HLZ.out (by omega) kk wD (HT.out.below HBE.out) (HBN.out.below HBE.out) HZD.out.v)
      go_wp2_with (first|(refine wpl_loadC (by rfl) (.tmp 21) (by rfl) DB kk (by rfl) hCD ?_;refine Hid.out ?_))
      refine zN ?_
      go_wp2_with fail
      refine HC1.out.mono ?_
      rintro e w10 ⟨v10,rfl,hb10,hF10⟩
      have HF10:=zN hF10
      have HB10:=zN hb10
      have HCE:=zN (HCD.out.below hb10)
      have hCE:=HCE.out
      have HC2:=zN (rcheck_any pz cz mz LZ HLZ.out (by omega) kk w10 (HZD.out.v.below hb10))
      obtain⟨er,her⟩:∃ er,er=chkE kk LZ:=⟨_,rfl⟩
      rw[←her] at HC2 ⊢
      clear hb10 hF10 hCD HCD her HC1
      go_wp2_with (first|(refine wpl_loadC (by rfl) (.tmp 21) (by rfl) DB kk (by rfl) hCE ?_;refine Hid.out ?_))
      refine zN ?_
      go_wp2_with fail
      refine HC2.out.mono ?_
      rintro e w11 ⟨v11,rfl,hb11,hF11⟩
      have HFL:Hid (Calls Tryz.prog 21 #[v10,v11] w11 fun e w'=>e=.returned (.bool true)∧Below w11.heap.size w11 w'):=zN (by
       have hlF:(chkL kk LZ).length≤1000000000:=by
        have h1:LZ.length≤20:=by rw[HLZ.out];exact hmz
        unfold chkL
        split
        ·have h2:=outC_len kk.fr.toNat LZ kk.bd 12
         have h3:(sort2 (outC kk.fr.toNat LZ kk.bd 12)).length=(outC kk.fr.toNat LZ kk.bd 12).length:=(List.mergeSort_perm _ _).length_eq
         have h4:LZ.length*12≤240:=by omega
         omega
        ·simp
       have h:=flags_any v10 v11 (chkL kk LZ) (chkL kk LZ) w11 (HF10.out.below hb11) hF11 hlF hlF
       rw[zDt rfl] at h
       exact h)
      have HB11:=zN (HBJ.out.trans ((HBD.out.trans ((HB10.out.trans (hb11.mono HB10.out.size)).mono HBD.out.size)).mono HBJ.out.size))
      have hne:(er != er)=false:=by simp
      clear hb11 hF11 HF10 HB10 HCE hCE HC2 HBC HBE HZC HZD HBD
      go_wp2_with fail
      refine HFL.out.mono ?_
      rintro e w12 ⟨rfl,hb12⟩
      have HB12:=zN (HB11.out.trans (hb12.mono HB11.out.size))
      clear hb12 HFL HB11
      go_wp2
      go_roundw
      case rel=>exact⟨j+1,by omega,by go_num,HB12⟩
      case measure=>simp[intOf]<;>omega
     ·have hdj:decide ((j:Int) < 2)=false:=zDf (by omega)
      have HLE:=zN (HLB.out.below HBJ.out)
      clear HLB HBJ HCT HZW HBW
      generalize wr=wE at *
      obtain⟨jE,hjE⟩:=HLE.out.s
      go_wp2_with fail
      refine (srcRange_any wE g b N jE 1 4 hjE (by omega) (by omega) (by omega)).mono ?_
      rintro e wF ⟨x1,rfl,_,_,hgF,hsF⟩
      have HLF:=zN (HLE.out.grown hgF hsF)
      clear hgF hsF hjE HLE
      go_wp2
      have HL1:=zN (HLF.out.more (.int .i64 rn) (.int .i64 x1) 3)
      generalize hM1:(wF.alloc (.cells #[.int .i64 rn,.int .i64 x1] 3))=w1a at HL1 ⊢
      obtain⟨B1,hB1⟩:∃ B1,B1=wF.heap.size:=⟨_,rfl⟩
      rw[←hB1] at HL1 ⊢
      clear hB1 hM1 HLF
      go_loopw [109] (fun v109 wx=>∃ k1:Nat,k1≤2∧v109=.int .i64 (k1:Int)∧Hid (LoS W0 wx g b N [(⟨B1,0,none⟩,.int .i64 rn),(⟨B1,1,none⟩,.int .i64 x1)])) (fun v109 _=>2-(intOf v109).toNat)
      case atStart=>exact⟨0,by omega,rfl,HL1⟩
      case round=>
       clear HL1
       obtain⟨k1,hk1,rfl,HL⟩:=hrel
       by_cases hka:k1 < 2
       ·have hda:decide ((k1:Int) < 2)=true:=zDt (by omega)
        have ha0:(0:Int)≤(k1:Int):=by omega
        have haI:(k1:Int) < 2:=by omega
        obtain⟨z1,hz1⟩:=HL.out.one (R:=B1) (x:=rn) (y:=x1) (by simp) (by simp) hka
        generalize wr=wG at *
        obtain⟨jG,hjG⟩:=HL.out.s
        go_wp2_with fail
        refine (srcN_any wG g b N jG 9 hjG (by omega) (by omega)).mono ?_
        rintro e wH ⟨x2,rfl,_,_,hgH,hsH⟩
        have HLH:=zN (HL.out.grown hgH hsH)
        clear hgH hsH hjG HL hz1
        go_wp2
        have HL2:=zN (HLH.out.more (.int .i64 rr) (.int .i64 x2) 3)
        generalize hM2:(wH.alloc (.cells #[.int .i64 rr,.int .i64 x2] 3))=w2a at HL2 ⊢
        obtain⟨B2,hB2⟩:∃ B2,B2=wH.heap.size:=⟨_,rfl⟩
        rw[←hB2] at HL2 ⊢
        clear hB2 hM2 HLH
        go_loopw [118] (fun v118 wx=>∃ k2:Nat,k2≤2∧v118=.int .i64 (k2:Int)∧Hid (LoS W0 wx g b N [(⟨B2,0,none⟩,.int .i64 rr),(⟨B2,1,none⟩,.int .i64 x2),(⟨B1,0,none⟩,.int .i64 rn),(⟨B1,1,none⟩,.int .i64 x1)])) (fun v118 _=>2-(intOf v118).toNat)
        case atStart=>exact⟨0,by omega,rfl,HL2⟩
        case round=>
         clear HL2
         obtain⟨k2,hk2,rfl,HL⟩:=hrel
         by_cases hkb:k2 < 2
         ·have hdb:decide ((k2:Int) < 2)=true:=zDt (by omega)
          have hb0:(0:Int)≤(k2:Int):=by omega
          have hbI:(k2:Int) < 2:=by omega
          obtain⟨z2,hz2⟩:=HL.out.one (R:=B2) (x:=rr) (y:=x2) (by simp) (by simp) hkb
          generalize wr=wI at *
          obtain⟨jI,hjI⟩:=HL.out.s
          go_wp2_with fail
          refine (srcRange_any wI g b N jI 1 11 hjI (by omega) (by omega) (by omega)).mono ?_
          rintro e wJ ⟨x3,rfl,_,_,hgJ,hsJ⟩
          have HLJ:=zN (HL.out.grown hgJ hsJ)
          clear hgJ hsJ hjI HL hz2
          go_wp2
          have HL3:=zN (HLJ.out.more (.int .i64 rc) (.int .i64 x3) 3)
          generalize hM3:(wJ.alloc (.cells #[.int .i64 rc,.int .i64 x3] 3))=w3a at HL3 ⊢
          obtain⟨B3,hB3⟩:∃ B3,B3=wJ.heap.size:=⟨_,rfl⟩
          rw[←hB3] at HL3 ⊢
          clear hB3 hM3 HLJ
          go_loopw [127] (fun v127 wx=>∃ k3:Nat,k3≤2∧v127=.int .i64 (k3:Int)∧Hid (LoS W0 wx g b N [(⟨B3,0,none⟩,.int .i64 rc),(⟨B3,1,none⟩,.int .i64 x3),(⟨B2,0,none⟩,.int .i64 rr),(⟨B2,1,none⟩,.int .i64 x2),(⟨B1,0,none⟩,.int .i64 rn),(⟨B1,1,none⟩,.int .i64 x1)])) (fun v127 _=>2-(intOf v127).toNat)
          case atStart=>exact⟨0,by omega,rfl,HL3⟩
          case round=>
           clear HL3
           obtain⟨k3,hk3',rfl,HL⟩:=hrel
           by_cases hkc:k3 < 2
           ·have hdc:decide ((k3:Int) < 2)=true:=zDt (by omega)
            have hc0:(0:Int)≤(k3:Int):=by omega
            have hcI:(k3:Int) < 2:=by omega
            obtain⟨z3,hz3⟩:=HL.out.one (R:=B3) (x:=rc) (y:=x3) (by simp) (by simp) hkc
            generalize wr=wK at *
            have HZK:=zN (HZ0.out.grown HL.out.gr)
            have HBK:=zN (HBV.out.grown HL.out.gr HBV.out.size HGG.out)
            have HN1:=zN (bnei_any pz cz mz LZ HLZ.out (by omega) z1 z2 z3 wK (HT.out.below HBK.out) (HBN.out.below HBK.out) HZK.out.v)
            go_wp2_with fail
            refine HN1.out.mono ?_
            rintro e wM ⟨vM,rfl,hqM,hbM⟩
            obtain⟨pn,cn,rfl,hcn,hVN⟩:=hqM.rd
            have HVN:=zN hVN
            have HN2:=zN (rnei_any pz cz mz LZ HLZ.out (by omega) z1 z2 z3 wM (HZK.out.v.below hbM))
            have HLM:=zN (HL.out.below hbM)
            have hlA:(neiL z1 LZ z2 z3).length≤1000:=Nat.le_trans neiL_lenA (by rw[HLZ.out];omega)
            obtain⟨er,her⟩:∃ er,er=neiE z1 LZ z2:=⟨_,rfl⟩
            rw[←her]
            have HER:=zN her.symm
            clear hqM hbM hVN HN1 HZK HBK her hz3 hcn
            go_wp2_with fail
            refine HN2.out.mono ?_
            rintro e wN ⟨vN,rfl,hqN,hbN⟩
            rw[HER.out]
            obtain⟨pm,cm,rfl,hcm,hUN⟩:=hqN.rd
            have HKI:=zN (kints_len pn pm (natI (neiL z1 LZ z2 z3)) (natI (neiL z1 LZ z2 z3)) cn cm wN (HVN.out.below hbN) hUN rfl (by rw[natI_len];omega))
            have HLN:=zN (HLM.out.below hbN)
            have hne:(er != er)=false:=by simp
            have htt:decide (natI (neiL z1 LZ z2 z3)=natI (neiL z1 LZ z2 z3))=true:=zDt rfl
            rw[htt] at HKI
            generalize (natI (neiL z1 LZ z2 z3)).length=ln at *
            clear hqN hbN hUN hcm HVN HN2 HLM HER hlA htt
            go_wp2_with fail
            refine HKI.out.mono ?_
            rintro e wO ⟨rfl,hbO⟩
            have HLO:=zN (HLN.out.below hbO)
            clear hbO HKI HLN
            go_wp2
            go_roundw
            case rel=>exact⟨k3+1,by omega,by go_num,HLO⟩
            case measure=>simp[intOf]<;>omega
           ·have hdc:decide ((k3:Int) < 2)=false:=zDf (by omega)
            have HLQ:=zN (HL.out.less (cs':=[(⟨B2,0,none⟩,.int .i64 rr),(⟨B2,1,none⟩,.int .i64 x2),(⟨B1,0,none⟩,.int .i64 rn),(⟨B1,1,none⟩,.int .i64 x1)]) (fun q hq=>List.mem_cons_of_mem _ (List.mem_cons_of_mem _ hq)))
            clear HL
            go_wp2
            go_roundw
            case rel=>exact⟨k2+1,by omega,by go_num,HLQ⟩
            case measure=>simp[intOf]<;>omega
         ·have hdb:decide ((k2:Int) < 2)=false:=zDf (by omega)
          have HLQ:=zN (HL.out.less (cs':=[(⟨B1,0,none⟩,.int .i64 rn),(⟨B1,1,none⟩,.int .i64 x1)]) (fun q hq=>List.mem_cons_of_mem _ (List.mem_cons_of_mem _ hq)))
          clear HL
          go_wp2
          go_roundw
          case rel=>exact⟨k1+1,by omega,by go_num,HLQ⟩
          case measure=>simp[intOf]<;>omega
       ·have hda:decide ((k1:Int) < 2)=false:=zDf (by omega)
        have HLQ:=zN (HL.out.less (cs':=[]) (fun q hq=>by cases hq))
        clear HL
        go_wp2
        go_roundw
        case rel=>exact⟨k+1,by omega,by go_num,HLQ⟩
        case measure=>simp[intOf]<;>omega
   ·have hdk:decide ((k:Int) < 3)=false:=zDf (by omega)
    have HBZ:=zN (HBV.out.grown HLo.out.gr HBV.out.size HGG.out)
    clear HLo
    go_wp2_with fail
    refine (awake18_any wr (HT.out.below HBZ.out) (HBN.out.below HBZ.out)).mono ?_
    rintro e wz ⟨rfl,hbz⟩
    have HBY:=zN (HBZ.out.trans (hbz.mono HBZ.out.size))
    clear hbz
    go_wp2
    go_ret
    exact⟨rfl,HBY.out⟩
end Go.Proofs.YtednaajanciabaaGreatDoor
