import Derived.Test.YtednaajanciabaaGreatDoorBentP
import Derived.Test.YtednaajanciabaaGreatDoorKBCr
import Derived.Deep.CutBlock
set_option maxRecDepth 100000
set_option maxHeartbeats 8000000
set_option linter.unusedSimpArgs false
set_option linter.unusedVariables false
namespace Go.Proofs.YtednaajanciabaaGreatDoor
open Go.RowKit Go.Grid Go.Buddy
def bentNames:List ByteArray:=[{ data:=#[] },{ data:=#[65,76,80,72] },{ data:=#[97,108,112,104,97] },{ data:=#[65,76,80,72,65,49] },{ data:=#[65,76,32,80,72] },{ data:=#[65,76,80,72,65] }]
theorem RdgIn.news {w:World} {q:Option Addr} {D:Rdg} {m:Nat} (h:RdgIn w q D) (hm:D.length=m):0 < m→∃ ad,q=some ad∧∀ j u,(rdV D)[j]?=some u→w.cell? (ad.add j)=some u:=by
 intro h0
 obtain⟨b,o,h1,h2⟩:=h
 refine⟨_,h1 (by omega),fun j u hj=>?_⟩
 have hlt:j < D.length*2:=by
  rw[←rdV_len]
  exact (List.getElem?_eq_some_iff.1 hj).1
 have e:j=j / 2*2+j % 2:=by omega
 have hk:j / 2 < D.length:=by omega
 have h8:j % 2 < 2:=by omega
 have hr:=h2 _ hk
 have hv:=rdV_get D _ hk
 rw[Addr.add_lit]
 generalize j / 2=k at *
 generalize j % 2=c at *
 subst e
 match c,h8 with
 |0,_=>rw[show k*2+0=k*2 from rfl,hv.1] at hj;rw[←hj];exact hr.1
 |1,_=>rw[hv.2] at hj;rw[←hj,←zQ];exact hr.2
theorem rdV_one (D:Rdg):∀ u∈rdV D,u.oneCell'=true:=fun u hu=>by
 obtain⟨c,_,hc⟩:=List.mem_flatMap.1 hu
 simp at hc
 rcases hc with rfl|rfl<;>rfl
def slB (j:Nat):Nat:=68+j
theorem slB_inj (i j:Nat) (hi:i < 12) (hj:j < 12) (h:slB i=slB j):i=j:=by unfold slB at h;omega
theorem slB_lt (j:Nat) (hj:j < 12):slB j < 81:=by unfold slB;omega
theorem slB_ne {t:Nat} (h1:t < 68) (j:Nat) (hj:j < 12):t≠slB j:=by unfold slB;omega
def btV:List Int:=[-1001,0,99999]
def btF (g RB qb dl cd:Nat):Nat→Value→World→Prop
 |0,x,_=>x=.pointer (some ⟨RB,7,none⟩)
 |1,x,_=>x=.slice (some ⟨qb,0,none⟩) dl cd
 |2,x,_=>x=.pointer (some ⟨g,0,none⟩)
 |3,x,_=>x=.pointer (some ⟨RB,7,none⟩)
 |4,x,_=>x=.slice (some ⟨qb,0,none⟩) dl cd
 |5,x,_=>x=.int .i64 (dl:Int)
 |6,x,_=>∃ t:Nat,t < dl∧x=.int .i64 (t:Int)
 |7,x,_=>x=.pointer (some ⟨g,0,none⟩)
 |8,x,w=>∃ o,x=.slice (some ⟨o,0,none⟩) 3 3∧o≠g∧o < w.heap.size∧∀ j (h:j < btV.length),w.cell? ⟨o,j,none⟩=some (.int .i64 btV[j])
 |9,x,_=>∃ z,x=.int .i64 z
 |10,x,_=>∃ t:Nat,t < dl∧x=.pointer (some ⟨qb,t*2,none⟩)
 |11,x,_=>∃ t:Nat,t < dl∧x=.pointer (some ⟨qb,t*2+1,none⟩)
 |_,_,_=>True
theorem btF.keep {g RB qb dl cd:Nat} {w w':World} (row:Option Nat) (hg:w.grownBy w' row) (hr:∀ k,row=some k→k=g) (i:Nat) (x:Value) (_:i < 12) (h:btF g RB qb dl cd i x w):btF g RB qb dl cd i x w':=by
 unfold btF at *
 split at h
 all_goals first
  |exact h
  |(obtain⟨o,h1,h2,h3,h4⟩:=h;exact⟨o,h1,h2,Nat.lt_of_lt_of_le h3 hg.size,fun j hj=>hg.cell (h4 j hj) (fun e=>h2 (hr o e.symm))⟩)
def btPost (w:World) (g b n RB:Nat) (y:Nat→Value) (w':World):Prop:=∃ r D,BeS w w' g b n RB r D
theorem RdOwn.val {w:World} {base qb dl cd:Nat} {D:Rdg} (h:RdOwn w base (.slice (some ⟨qb,0,none⟩) dl cd) D) (hd:dl=D.length) {t:Nat} (ht:t < dl):(∃ z,w.cell? ⟨qb,t*2+1,none⟩=some (.int .i64 z))∧w.frozen? ⟨qb,t*2+1,none⟩=false:=by
 subst hd
 refine⟨⟨D[t].2,?_⟩,?_⟩
 ·rw[World.ownsRow.cellAt h (t*2+1) (by omega),(rdV_get D t ht).2]
 ·rcases h.2 with ⟨h1,_⟩|⟨g,cap',cur,h1,_,h3,_⟩
  ·cases h1
  ·injection h1 with e
   injection e with e
   injection e with e
   subst e
   simp[World.frozen?,h3]
theorem bent_any (w:World) (g b n i:Nat) (h:SrcAt w g b n i) (x:BR) (hx:BOk w x) (hl:x.2.length≤50) :
  Calls Tryz.prog 23 #[.pointer (some ⟨g,0,none⟩),rpv x.1] w fun e w'=>∃ y:BR,e=.returned (rpv y.1)∧BentOut w w' g b n y:=by
 obtain⟨r,D⟩:=x
 obtain⟨kd,nm,tm,f0,a0,b0,c0,rd⟩:=r
 obtain⟨⟨q,cap,hrd,hin⟩,_⟩:=hx
 dsimp only at hrd hin hl
 subst hrd
 have HIN:=zN hin
 obtain⟨m,hm⟩:∃ m,m=D.length:=⟨_,rfl⟩
 rw[←hm] at hl ⊢
 have HM:=zN hm
 have H0:=zN h
 clear hin hm h
 unfold rpv
 dsimp only
 go_enter Tryz.func23,Tryz.ntmps23
 go_upto_region 1 with fail
 refine absW (F:=fun w'=>Hid (RptW w' w.heap.size ⟨kd,nm,tm,f0,a0,b0,c0,.slice q m cap⟩∧RptW w' (w.heap.size+1) rep00∧Below w.heap.size w w'∧w'.heap.size=w.heap.size+2)) ?ha ?_
 case ha=>exact zN ⟨(RptW.new w ⟨kd,nm,tm,f0,a0,b0,c0,.slice q m cap⟩).below ((zBr _ _).alloc (Nat.le_refl _) _),by
  have h:=RptW.new (w.alloc (.cells #[.int .i64 kd,.string nm,.int .i64 tm,.int .i64 f0,.int .i64 a0,.int .i64 b0,.int .i64 c0,.slice q m cap] 44)) rep00
  rw[show (w.alloc (.cells #[.int .i64 kd,.string nm,.int .i64 tm,.int .i64 f0,.int .i64 a0,.int .i64 b0,.int .i64 c0,.slice q m cap] 44)).heap.size=w.heap.size+1 by simp] at h
  exact h,(by repeat (first|(with_reducible first|assumption|exact zBr _ _|refine zBs ?_ (by first|omega|(simp<;>omega)) _|refine zBa ?_ (by first|omega|(simp<;>omega)) _|apply zBd)|assumption)),by simp⟩
 rintro w1 HA
 have hw1:w.heap.size < w1.heap.size:=by have:=HA.out.2.2.2;omega
 have HWE:Hid (Below w1.heap.size w1 (w1.alloc (.cells #[] 55))):=zN ((zBr _ _).alloc (Nat.le_refl _) _)
 have hnl:(rdV D).length=m*2:=by rw[rdV_len,HM.out]
 have hnews:=(HIN.out.below (HA.out.2.2.1.trans (HWE.out.mono HA.out.2.2.1.size))).news HM.out.symm
 have hone:=rdV_one D
 have hc7:=HA.out.1.c7
 go_wp2_with (refine RX.wpl_appA (by rfl) elRd _ _ (by rfl) w1.heap.size (some ⟨w1.heap.size,0,none⟩) 0 0 [] (own_empty w1 55 2) (by rfl) q m cap (rdV D) (by rfl) hnl hnews hone (by omega) (by omega) (by simp) ?_;intro v5 w2 hown hb2;rw[Nat.zero_add,List.nil_append] at hown;obtain⟨pq,cq,hv5,hcq⟩:=own_slice hown;subst hv5;have hbb:=HWE.out.trans hb2;have HBS:Hid (BeS w (w2.setCell ⟨w.heap.size,7,none⟩ (.slice pq m cq)) g b n w.heap.size ⟨kd,nm,tm,f0,a0,b0,c0,.slice pq m cq⟩ D):=zN (BeS.start (r:=⟨kd,nm,tm,f0,a0,b0,c0,.slice q m cap⟩) H0.out HA.out.2.2.1 HA.out.2.2.2 HA.out.1 HA.out.2.1 hbb (by rw[←HM.out];exact hown) (by have:=HM.out;omega));have y7:=(HA.out.1.below hbb).c7;have z7:=(HA.out.1.below hbb).z 7;have hw2:w.heap.size < w2.heap.size:=(by have h1:=hbb.size;have h2:=HA.out.2.2.2;omega);clear hown hb2 hbb)
 have HDM:Hid (D.length≤50):=zN (by rw[←HM.out];exact hl)
 clear hnews hnl hone hc7 HIN H0 HWE y7 z7 hw2 HM
 generalize (w2.setCell ⟨w.heap.size,7,none⟩ (.slice pq m cq))=w3 at HBS ⊢
 obtain⟨RB,hRB⟩:∃ RB,RB=w.heap.size:=⟨_,rfl⟩
 rw[←hRB] at HBS ⊢
 generalize w1.heap.size=z5 at *
 clear hRB HA hw1
 obtain⟨j,hj⟩:=HBS.out.s
 refine (srcN_any w3 g b n j 8 hj (by omega) (by omega)).mono ?_
 rintro e w4 ⟨x8,rfl,hx0,hx1,hg4,hs4⟩
 have HB:=zN (HBS.out.grown hg4 hs4)
 have hgR:=HB.out.gR
 generalize (⟨kd,nm,tm,f0,a0,b0,c0,.slice pq m cq⟩:Rep)=r0 at HB
 clear hg4 hs4 hj HBS
 clear w3 w2 w1
 go_upto_block 0 with fail
 go_cut [18] from 12 to 79 (fun v18 wx=>Hid (∃ r' D',BeS w wx g b n RB r' D'))
 case first=>
  have hx:x8=0∨x8=1∨x8=2∨x8=3∨x8=4∨x8=5∨x8=6∨x8=7:=by omega
  clear hx0 hx1
  rcases hx with rfl|rfl|rfl|rfl|rfl|rfl|rfl|rfl
  ·obtain⟨j,hj⟩:=HB.out.s
   go_wp2_with fail
   refine (srcRange_any w4 g b n j (-1) 4 hj (by omega) (by omega) (by omega)).mono ?_
   rintro e w5 ⟨x,rfl,_,_,hg5,hs5⟩
   have HB5:=zN (HB.out.grown hg5 hs5)
   have y0:=HB5.out.rp.c0
   have y1:=HB5.out.rp.z 0
   have HBN:=zN (HB5.out.put (HB5.out.rp.set0 x) rfl)
   clear HB hj hg5 hs5
   go_wp2
   go_meet
   case rel=>exact zN ⟨_,_,HBN.out⟩
  ·obtain⟨j,hj⟩:=HB.out.s
   have hb4:Below w4.heap.size w4 (w4.alloc (.cells #[.string { data:=#[] },.string { data:=#[65,76,80,72] },.string { data:=#[97,108,112,104,97] },.string { data:=#[65,76,80,72,65,49] },.string { data:=#[65,76,32,80,72] },.string { data:=#[65,76,80,72,65] }] 9)):=(zBr _ _).alloc (Nat.le_refl _) _
   have HT:=zN (text_any (w4.alloc (.cells #[.string { data:=#[] },.string { data:=#[65,76,80,72] },.string { data:=#[97,108,112,104,97] },.string { data:=#[65,76,80,72,65,49] },.string { data:=#[65,76,32,80,72] },.string { data:=#[65,76,80,72,65] }] 9)) g b n j w4.heap.size bentNames 6 6 rfl (by omega) (by omega) (hj.below hb4) (fun j hj=>by
    have hj:j < 6:=hj
    have hc:j=0∨j=1∨j=2∨j=3∨j=4∨j=5:=by omega
    rcases hc with rfl|rfl|rfl|rfl|rfl|rfl<;>(simp only[bentNames,List.getElem_cons_zero,List.getElem_cons_succ];exact (by simp[zO,zJ,zQ]))) (by have:=hj.lt;omega))
   have HBA:=zN (HB.out.below hb4)
   clear hj hb4 HB
   go_wp2_with fail
   refine HT.out.mono ?_
   rintro e w5 ⟨x,rfl,_,hg5,hs5⟩
   have HB5:=zN (HBA.out.grown hg5 hs5)
   have y0:=HB5.out.rp.c1
   have y1:=HB5.out.rp.z 1
   have HBN:=zN (HB5.out.put (HB5.out.rp.set1 x) rfl)
   clear HBA HT hg5 hs5
   go_wp2
   go_meet
   case rel=>exact zN ⟨_,_,HBN.out⟩
  ·obtain⟨j,hj⟩:=HB.out.s
   have hb4:Below w4.heap.size w4 (w4.alloc (.cells #[.int .i64 (-1),.int .i64 52596000,.int .i64 0] 3)):=(zBr _ _).alloc (Nat.le_refl _) _
   have HT:=zN (pick_any (w4.alloc (.cells #[.int .i64 (-1),.int .i64 52596000,.int .i64 0] 3)) g b n j w4.heap.size [-1,52596000,0] 3 3 rfl (by omega) (by omega) (hj.below hb4) (fun j hj=>by
    have hj:j < 3:=hj
    have hc:j=0∨j=1∨j=2:=by omega
    rcases hc with rfl|rfl|rfl<;>(simp only[List.getElem_cons_zero,List.getElem_cons_succ];exact (by simp[zO,zJ,zQ]))) (by have:=hj.lt;omega))
   have HBA:=zN (HB.out.below hb4)
   clear hj hb4 HB
   go_wp2_with fail
   refine HT.out.mono ?_
   rintro e w5 ⟨x,rfl,_,hg5,hs5⟩
   have HB5:=zN (HBA.out.grown hg5 hs5)
   have y0:=HB5.out.rp.c2
   have y1:=HB5.out.rp.z 2
   have HBN:=zN (HB5.out.put (HB5.out.rp.set2 x) rfl)
   clear HBA HT hg5 hs5
   go_wp2
   go_meet
   case rel=>exact zN ⟨_,_,HBN.out⟩
  ·obtain⟨j,hj⟩:=HB.out.s
   go_wp2_with fail
   refine (dplace_any w4 g b n j hj (fun h0=>hj.ltb h0)).mono ?_
   rintro e w5 ⟨q,rfl,hq,hg5,hs5⟩
   have hpv:pv q=.agg #[.int .i64 q.f,.int .i64 q.a,.int .i64 q.b,.int .i64 q.c]:=rfl
   rw[hpv]
   have HB5:=zN (HB.out.grown hg5 hs5)
   have y3:=HB5.out.rp.c3
   have y4:=HB5.out.rp.c4
   have y5:=HB5.out.rp.c5
   have y6:=HB5.out.rp.c6
   have z3:=HB5.out.rp.z 3
   have z4:=HB5.out.rp.z 4
   have z5:=HB5.out.rp.z 5
   have z6:=HB5.out.rp.z 6
   have HBN:=zN (HB5.out.place q.f q.a q.b q.c)
   clear HB hj hg5 hs5 hpv
   go_wp2
   go_meet
   case rel=>exact zN ⟨_,_,HBN.out⟩
  ·obtain⟨j,hj⟩:=HB.out.s
   go_wp2_with fail
   refine (srcRange_any w4 g b n j (-1) 20 hj (by omega) (by omega) (by omega)).mono ?_
   rintro e w5 ⟨x,rfl,_,_,hg5,hs5⟩
   have HB5:=zN (HB.out.grown hg5 hs5)
   clear HB hj hg5 hs5
   obtain⟨j,hj⟩:=HB5.out.s
   go_wp2_with fail
   refine (srcN_any w5 g b n j 841 hj (by omega) (by omega)).mono ?_
   rintro e w6 ⟨y,rfl,_,_,hg6,hs6⟩
   have HB6:=zN (HB5.out.grown hg6 hs6)
   clear HB5 hj hg6 hs6
   obtain⟨j,hj⟩:=HB6.out.s
   go_wp2_with fail
   refine (srcN_any w6 g b n j 200 hj (by omega) (by omega)).mono ?_
   rintro e w7 ⟨z,rfl,_,_,hg7,hs7⟩
   have HB7:=zN (HB6.out.grown hg7 hs7)
   have y3:=HB7.out.rp.c3
   have y4:=HB7.out.rp.c4
   have y5:=HB7.out.rp.c5
   have y6:=HB7.out.rp.c6
   have z3:=HB7.out.rp.z 3
   have z4:=HB7.out.rp.z 4
   have z5:=HB7.out.rp.z 5
   have z6:=HB7.out.rp.z 6
   have HBN:=zN (HB7.out.place x y z 0)
   clear HB6 hj hg7 hs7
   go_wp2
   go_meet
   case rel=>exact zN ⟨_,_,HBN.out⟩
  ·obtain⟨pd,cd,hrd,hcd⟩:=own_slice HB.out.own
   have hrc:=HB.out.rp.c7
   have hD9:=HDM.out
   obtain⟨dl,hdl⟩:∃ dl,dl=D.length:=⟨_,rfl⟩
   rw[hrd] at hrc
   rw[←hdl] at hrc hrd hD9
   have HDL:=zN hdl
   have HRD:=zN hrd
   have hS4:w4.drew.cell? ⟨RB,7,none⟩=some (.slice pd dl cd):=hrc
   have HBd:=zN (HB.out.below (zBd (zBr _ _)))
   obtain⟨j,hj⟩:=HBd.out.s
   clear hcd hrd hrc hdl HB
   go_wp2_with fail
   refine RY.region RX.fN (fun w'=>w'.cell? ⟨RB,7,none⟩=some (.slice pd dl cd)) (by kernel_rfl) (by kernel_rfl) (hS4) (fun OPS HO QR hQR=>?_)
   repeat (refine zeY (fun R hR=>?_);(first|refine zaY (by first|rfl|(rw[HO.out];rfl)) (by simp only[zA,zB,zC,zD];rfl) ?_|refine zbY (by first|rfl|(rw[HO.out];rfl)) rfl (by first|exact .inl rfl|exact .inr rfl) (by simp only[zE,zF,zG,zH];rfl) (by simp only[zA,zB,zC,zD];rfl) ?_|refine zcY (by first|rfl|(rw[HO.out];rfl)) rfl rfl (by simp only[zE,zF,zG,zH];rfl) (by simp only[zA,zB,zC,zD];rfl) ?_|(refine zdY (by first|rfl|(rw[HO.out];rfl)) rfl rfl rfl ?_;apply zEx;apply zEx;refine⟨fun w' hS K hK=>?_,?_,?_⟩;(focus (skip;go_wp2;exact hK _ _ (by simp only[zl,zG,zH];first|exact zf (by omega)|exact zg (by omega)|exact zh (by omega)|exact zi (by omega)|exact zj (by omega)|exact zk (by omega)|exact RX.bneB _|rfl) rfl));(focus (simp only[zA,zB,zC,zD];rfl))));refine hR _ _ ?_;clear hR R)
   refine zeY (fun R hR=>?_)
   refine zgY (by first|rfl|(rw[HO.out];rfl)) rfl (fun K hK=>?_)
   go_wp2_with fail
   refine (srcRange_any _ g b n j 0 12 hj (by omega) (by omega) (by omega)).mono ?_
   rintro e w5 ⟨xe,rfl,_,_,hg5,hs5⟩
   have HB5:=zN (HBd.out.grown hg5 hs5)
   have hS5:=hg5.cell hS4 (by simp;omega)
   clear HBd hj hg5 hs5 hS4
   obtain⟨j,hj⟩:=HB5.out.s
   refine hK _ _ ⟨.inr (hS5),hR _ _ ?_⟩;clear hK K hR R
   repeat (refine zeY (fun R hR=>?_);(first|refine zaY (by first|rfl|(rw[HO.out];rfl)) (by simp only[zA,zB,zC,zD];rfl) ?_|refine zbY (by first|rfl|(rw[HO.out];rfl)) rfl (by first|exact .inl rfl|exact .inr rfl) (by simp only[zE,zF,zG,zH];rfl) (by simp only[zA,zB,zC,zD];rfl) ?_|refine zcY (by first|rfl|(rw[HO.out];rfl)) rfl rfl (by simp only[zE,zF,zG,zH];rfl) (by simp only[zA,zB,zC,zD];rfl) ?_|(refine zdY (by first|rfl|(rw[HO.out];rfl)) rfl rfl rfl ?_;apply zEx;apply zEx;refine⟨fun w' hS K hK=>?_,?_,?_⟩;(focus (skip;go_wp2;exact hK _ _ (by simp only[zl,zG,zH];first|exact zf (by omega)|exact zg (by omega)|exact zh (by omega)|exact zi (by omega)|exact zj (by omega)|exact zk (by omega)|exact RX.bneB _|rfl) rfl));(focus (simp only[zA,zB,zC,zD];rfl))));refine hR _ _ ?_;clear hR R)
   refine zeY (fun R hR=>?_)
   refine zgY (by first|rfl|(rw[HO.out];rfl)) rfl (fun K hK=>?_)
   go_wp2_with fail
   refine (srcN_any w5 g b n j 9000 hj (by omega) (by omega)).mono ?_
   rintro e w6 ⟨xv,rfl,_,_,hg6,hs6⟩
   have HB6:=zN (HB5.out.grown hg6 hs6)
   have hS6:=hg6.cell hS5 (by simp;omega)
   have hRl6:=HB6.out.rp.lt
   clear HB5 hj hg6 hs6 hS5
   refine hK _ _ ⟨.inr (hS6),hR _ _ ?_⟩;clear hK K hR R
   repeat (refine zeY (fun R hR=>?_);(first|refine zaY (by first|rfl|(rw[HO.out];rfl)) (by simp only[zA,zB,zC,zD];rfl) ?_|refine zbY (by first|rfl|(rw[HO.out];rfl)) rfl (by first|exact .inl rfl|exact .inr rfl) (by simp only[zE,zF,zG,zH];rfl) (by simp only[zA,zB,zC,zD];rfl) ?_|refine zcY (by first|rfl|(rw[HO.out];rfl)) rfl rfl (by simp only[zE,zF,zG,zH];rfl) (by simp only[zA,zB,zC,zD];rfl) ?_|(refine zdY (by first|rfl|(rw[HO.out];rfl)) rfl rfl rfl ?_;apply zEx;apply zEx;refine⟨fun w' hS K hK=>?_,?_,?_⟩;(focus (skip;go_wp2;exact hK _ _ (by simp only[zl,zG,zH];first|exact zf (by omega)|exact zg (by omega)|exact zh (by omega)|exact zi (by omega)|exact zj (by omega)|exact zk (by omega)|exact RX.bneB _|rfl) rfl));(focus (simp only[zA,zB,zC,zD];rfl))));refine hR _ _ ?_;clear hR R)
   refine zeY (fun R hR=>?_)
   refine zgY (by first|rfl|(rw[HO.out];rfl)) rfl (fun K hK=>?_)
   go_wp2
   refine⟨.inr ((by (try have hLt:=zM _ _ hS6);(try simp only at hLt);(repeat first|rw[zO]|rw[zK _ _ _ _ (by first|(simp<;>omega)|omega)]|rw[zJ,if_neg (by first|(simp<;>omega)|omega)]);first|exact hS6|(rw[zJ,if_pos (by first|(simp;done)|omega)];exact hS6))),hR _ _ ?_⟩;clear hR R
   repeat (refine zeY (fun R hR=>?_);(first|refine zaY (by first|rfl|(rw[HO.out];rfl)) (by simp only[zA,zB,zC,zD];rfl) ?_|refine zbY (by first|rfl|(rw[HO.out];rfl)) rfl (by first|exact .inl rfl|exact .inr rfl) (by simp only[zE,zF,zG,zH];rfl) (by simp only[zA,zB,zC,zD];rfl) ?_|refine zcY (by first|rfl|(rw[HO.out];rfl)) rfl rfl (by simp only[zE,zF,zG,zH];rfl) (by simp only[zA,zB,zC,zD];rfl) ?_|(refine zdY (by first|rfl|(rw[HO.out];rfl)) rfl rfl rfl ?_;apply zEx;apply zEx;refine⟨fun w' hS K hK=>?_,?_,?_⟩;(focus (skip;go_wp2;exact hK _ _ (by simp only[zl,zG,zH];first|exact zf (by omega)|exact zg (by omega)|exact zh (by omega)|exact zi (by omega)|exact zj (by omega)|exact zk (by omega)|exact RX.bneB _|rfl) rfl));(focus (simp only[zA,zB,zC,zD];rfl))));refine hR _ _ ?_;clear hR R)
   refine zeY (fun R hR=>?_)
   refine zgY (by first|rfl|(rw[HO.out];rfl)) rfl (fun K hK=>?_)
   have hown6:w6.ownsRow (RB+2) 55 2 (.slice pd dl cd) dl (rdV D):=by
    have h:=HB6.out.own
    rw[HRD.out,RdOwn,←HDL.out] at h
    exact h
   refine RX.wp_app elRd _ _ rfl (RB+2) _ _ _ (World.ownsRow.alloc hown6 _) (by simp only[zE,zF,zG,zH]) w6.heap.size _ 1 (by simp only[zE,zF,zG,zH]) (heap_alloc_new _ _) rfl (by simp[Value.oneCell']) (by omega) (by omega) (by have:=HB6.out.sz;simp;omega) (fun v5 w7 hown7 hb7 hg7 hat7=>?_)
   obtain⟨p5,c5,rfl,_⟩:=own_slice hown7
   have hRs:RB < (w6.alloc (.cells #[.int .i64 xe,.int .i64 xv] 55)).heap.size:=by simp;omega
   have hblk:∀ k,(Value.slice pd dl cd).ownBlock=some k→RB+2≤k:=fun k hk=>(World.ownsRow.lt hown6 k hk).1
   have hr7:RptW w7 RB r0:=(HB6.out.rp.below ((zBr _ _).alloc (Nat.le_refl _) _)).block (hg7.block RB hRs (fun e=>by have:=hblk RB e.symm;omega))
   have hS7:w7.cell? ⟨RB,7,none⟩=some (.slice pd dl cd):=by rw[hr7.c7,HRD.out]
   have hz7:=hr7.z 7
   have HBN:=zN (HB6.out.add (v':=.slice p5 (dl+1) c5) (e:=xe) (x:=xv) ((zBr _ _).alloc (Nat.le_refl _) _) (by rw[HRD.out];exact hg7) (by rw[←HDL.out];exact hown7) (by have:=HDL.out;omega))
   clear hown6 hown7 hb7 hg7 hat7 hblk hr7 hRs hRl6 HB6 hS6
   refine hK _ _ ⟨.inr (hS7),?_⟩;clear hK K;refine RY.at_ (by simp only[RX.put_some,RX.put_none,List.set_cons_zero,List.set_cons_succ];rfl) (hR _ _ ?_);clear hR R
   repeat (refine zeY (fun R hR=>?_);(first|refine zaY (by first|rfl|(rw[HO.out];rfl)) (by simp only[zA,zB,zC,zD];rfl) ?_|refine zbY (by first|rfl|(rw[HO.out];rfl)) rfl (by first|exact .inl rfl|exact .inr rfl) (by simp only[zE,zF,zG,zH];rfl) (by simp only[zA,zB,zC,zD];rfl) ?_|refine zcY (by first|rfl|(rw[HO.out];rfl)) rfl rfl (by simp only[zE,zF,zG,zH];rfl) (by simp only[zA,zB,zC,zD];rfl) ?_|(refine zdY (by first|rfl|(rw[HO.out];rfl)) rfl rfl rfl ?_;apply zEx;apply zEx;refine⟨fun w' hS K hK=>?_,?_,?_⟩;(focus (skip;go_wp2;exact hK _ _ (by simp only[zl,zG,zH];first|exact zf (by omega)|exact zg (by omega)|exact zh (by omega)|exact zi (by omega)|exact zj (by omega)|exact zk (by omega)|exact RX.bneB _|rfl) rfl));(focus (simp only[zA,zB,zC,zD];rfl))));refine hR _ _ ?_;clear hR R)
   refine zeY (fun R hR=>?_)
   refine zgY (by first|rfl|(rw[HO.out];rfl)) rfl (fun K hK=>?_)
   go_wp2
   first|refine⟨(by first|exact .inl rfl|exact .inl trivial|trivial),hR _ _ (RY.wpL_nil (hQR _ _ ?_))⟩|refine hR _ _ (RY.wpL_nil (hQR _ _ ?_))|refine hQR _ _ ?_
   (try clear hR);(try clear R);clear hQR QR HO OPS
   clear hS7 hz7
   go_wp2
   go_meet
   case rel=>exact zN ⟨_,_,HBN.out⟩
  ·obtain⟨pd,cd,hrd,hcd,_,hpb⟩:=RdOwn.form HB.out.own
   have hrc:=HB.out.rp.c7
   have hD9:=HDM.out
   obtain⟨dl,hdl⟩:∃ dl,dl=D.length:=⟨_,rfl⟩
   rw[hrd] at hrc
   rw[←hdl] at hrc hrd hD9 hpb
   have HDL:=zN hdl
   clear hdl hcd
   by_cases h0:0 < dl
   ·have hd0:decide ((dl:Int) > 0)=true:=zDt (by omega)
    obtain⟨qb,rfl,hq0,hq1⟩:=hpb h0
    have HRD:=zN hrd
    have HBd:=zN (HB.out.below (zBd (zBr _ _)))
    have hrF:∀ w',BeS w w' g b n RB r0 D→w'.cell? ⟨RB,7,none⟩=some (.slice (some ⟨qb,0,none⟩) dl cd):=fun w' h=>by rw[h.rp.c7,HRD.out]
    have HRF:=zN hrF
    have HQB:Hid (RB+2≤qb):=zN hq0
    clear hrd hrF hq0 hq1 hpb HB
    go_wp2_with fail
    refine RX.regionI (fun d ac w'=>RX.RI ?frm0 [] slB 12 (btF g RB qb dl cd) (fun w'=>BeS w w' g b n RB r0 D) (btPost w g b n RB) d ac w'∧(d 11=true→d 10=true)) (by kernel_rfl) (by kernel_rfl) ?h0 ?hs ?hend
    case h0=>
     refine⟨?_,fun h=>by cases h⟩
     refine RX.RI.start ?_
     exact HBd.out
    case hs=>
     refine⟨?_,?_,?_,?_,?_,?_,?_,?_,?_,?_,?_,?_,?_,trivial⟩
     ·intro d ac w' hd hdep ⟨hI,hI2⟩
      obtain⟨hW,hsl,hbs⟩:=hI.live (i:=0) (by omega) hd
      have e0:ac.tmps[3]?.getD undef=.pointer (some ⟨RB,0,none⟩):=(hbs 3 (slB_ne (by omega))).trans rfl
      go_wp2
      exact⟨RX.RI.put hI slB_inj slB_lt (j:=0) (by omega) hd rfl hW (fun i x hi h=>h),by simpa using hI2⟩
     ·intro d ac w' hd hdep ⟨hI,hI2⟩
      obtain⟨hW,hsl,hbs⟩:=hI.live (i:=1) (by omega) hd
      have e0:ac.tmps[68]?.getD undef=.pointer (some ⟨RB,7,none⟩):=hsl 0 68 rfl (by omega) (hdep ⟨0,.data⟩ (by simp) rfl)
      have hcl:=HRF.out w' hW
      go_wp2
      exact⟨RX.RI.put hI slB_inj slB_lt (j:=1) (by omega) hd rfl hW (fun i x hi h=>h),by simpa using hI2⟩
     ·intro d ac w' hd hdep ⟨hI,hI2⟩
      obtain⟨hW,hsl,hbs⟩:=hI.live (i:=2) (by omega) hd
      have e0:ac.tmps[0]?.getD undef=.pointer (some ⟨g,0,none⟩):=(hbs 0 (slB_ne (by omega))).trans rfl
      go_wp2
      exact⟨RX.RI.put hI slB_inj slB_lt (j:=2) (by omega) hd rfl hW (fun i x hi h=>h),by simpa using hI2⟩
     ·intro d ac w' hd hdep ⟨hI,hI2⟩
      obtain⟨hW,hsl,hbs⟩:=hI.live (i:=3) (by omega) hd
      have e0:ac.tmps[3]?.getD undef=.pointer (some ⟨RB,0,none⟩):=(hbs 3 (slB_ne (by omega))).trans rfl
      go_wp2
      exact⟨RX.RI.put hI slB_inj slB_lt (j:=3) (by omega) hd rfl hW (fun i x hi h=>h),by simpa using hI2⟩
     ·intro d ac w' hd hdep ⟨hI,hI2⟩
      obtain⟨hW,hsl,hbs⟩:=hI.live (i:=4) (by omega) hd
      have e0:ac.tmps[71]?.getD undef=.pointer (some ⟨RB,7,none⟩):=hsl 3 71 rfl (by omega) (hdep ⟨3,.data⟩ (by simp) rfl)
      have hcl:=HRF.out w' hW
      go_wp2
      exact⟨RX.RI.put hI slB_inj slB_lt (j:=4) (by omega) hd rfl hW (fun i x hi h=>h),by simpa using hI2⟩
     ·intro d ac w' hd hdep ⟨hI,hI2⟩
      obtain⟨hW,hsl,hbs⟩:=hI.live (i:=5) (by omega) hd
      have e0:ac.tmps[72]?.getD undef=.slice (some ⟨qb,0,none⟩) dl cd:=hsl 4 72 rfl (by omega) (hdep ⟨4,.data⟩ (by simp) rfl)
      go_wp2
      exact⟨RX.RI.put hI slB_inj slB_lt (j:=5) (by omega) hd rfl hW (fun i x hi h=>h),by simpa using hI2⟩
     ·intro d ac w' hd hdep ⟨hI,hI2⟩
      obtain⟨hW,hsl,hbs⟩:=hI.live (i:=6) (by omega) hd
      have e0:ac.tmps[70]?.getD undef=.pointer (some ⟨g,0,none⟩):=hsl 2 70 rfl (by omega) (hdep ⟨2,.data⟩ (by simp) rfl)
      have e1:ac.tmps[73]?.getD undef=.int .i64 (dl:Int):=hsl 5 73 rfl (by omega) (hdep ⟨5,.data⟩ (by simp) rfl)
      obtain⟨j,hj⟩:=hW.s
      go_wp2_with fail
      refine (srcN_any w' g b n j (dl:Int) hj (by omega) (by omega)).mono ?_
      rintro e w5 ⟨x,rfl,hx0,hx1,hg5,hs5⟩
      exact⟨RX.RI.put hI slB_inj slB_lt (j:=6) (by omega) hd ⟨x.toNat,by omega,by rw[Int.toNat_of_nonneg hx0]⟩ (hW.grown hg5 hs5) (btF.keep (some g) hg5 (fun k e=>by injection e with e;exact e.symm)),by simpa using hI2⟩
     ·intro d ac w' hd hdep ⟨hI,hI2⟩
      obtain⟨hW,hsl,hbs⟩:=hI.live (i:=7) (by omega) hd
      have e0:ac.tmps[0]?.getD undef=.pointer (some ⟨g,0,none⟩):=(hbs 0 (slB_ne (by omega))).trans rfl
      go_wp2
      exact⟨RX.RI.put hI slB_inj slB_lt (j:=7) (by omega) hd rfl hW (fun i x hi h=>h),by simpa using hI2⟩
     ·intro d ac w' hd hdep ⟨hI,hI2⟩
      obtain⟨hW,hsl,hbs⟩:=hI.live (i:=8) (by omega) hd
      have hgl:=hW.gR
      have hsz:=hW.sz
      go_wp2
      exact⟨RX.RI.put hI slB_inj slB_lt (j:=8) (by omega) hd ⟨w'.heap.size,rfl,by omega,by simp,fun j hj=>by
       have hj:j < 3:=hj
       have hc:j=0∨j=1∨j=2:=by omega
       rcases hc with rfl|rfl|rfl<;>(simp only[btV,List.getElem_cons_zero,List.getElem_cons_succ];exact (by simp[zO,zJ,zQ]))⟩ (hW.below ((zBr _ _).alloc (Nat.le_refl _) _)) (btF.keep none (World.grownBy_alloc _ _ _) (fun k e=>by cases e)),by simpa using hI2⟩
     ·intro d ac w' hd hdep ⟨hI,hI2⟩
      obtain⟨hW,hsl,hbs⟩:=hI.live (i:=9) (by omega) hd
      have e0:ac.tmps[75]?.getD undef=.pointer (some ⟨g,0,none⟩):=hsl 7 75 rfl (by omega) (hdep ⟨7,.data⟩ (by simp) rfl)
      obtain⟨o,e1,ho,_,hcs⟩:∃ o,ac.tmps[76]?.getD undef=.slice (some ⟨o,0,none⟩) 3 3∧o≠g∧o < w'.heap.size∧∀ j (h:j < btV.length),w'.cell? ⟨o,j,none⟩=some (.int .i64 btV[j]):=hsl 8 76 rfl (by omega) (hdep ⟨8,.data⟩ (by simp) rfl)
      obtain⟨j,hj⟩:=hW.s
      have HP:=zN (pick_any w' g b n j o btV 3 3 rfl (by omega) (by omega) hj hcs ho)
      clear hcs hj
      go_wp2_with fail
      refine HP.out.mono ?_
      rintro e w5 ⟨x,rfl,_,hg5,hs5⟩
      exact⟨RX.RI.put hI slB_inj slB_lt (j:=9) (by omega) hd ⟨x,rfl⟩ (hW.grown hg5 hs5) (btF.keep (some g) hg5 (fun k e=>by injection e with e;exact e.symm)),by simpa using hI2⟩
     ·intro d ac w' hd hdep ⟨hI,hI2⟩
      obtain⟨hW,hsl,hbs⟩:=hI.live (i:=10) (by omega) hd
      have e0:ac.tmps[69]?.getD undef=.slice (some ⟨qb,0,none⟩) dl cd:=hsl 1 69 rfl (by omega) (hdep ⟨1,.data⟩ (by simp) rfl)
      obtain⟨t,ht,e1⟩:∃ t:Nat,t < dl∧ac.tmps[74]?.getD undef=.int .i64 (t:Int):=hsl 6 74 rfl (by omega) (hdep ⟨6,.data⟩ (by simp) rfl)
      have ht0:(0:Int)≤(t:Int):=by omega
      have ht1:(t:Int) < (dl:Int):=by omega
      go_wp2
      exact RX.RI.put hI slB_inj slB_lt (j:=10) (by omega) hd ⟨t,ht,rfl⟩ hW (fun i x hi h=>h)
     ·intro d ac w' hd hdep ⟨hI,hI2⟩
      obtain⟨hW,hsl,hbs⟩:=hI.live (i:=11) (by omega) hd
      obtain⟨t,ht,e0⟩:∃ t:Nat,t < dl∧ac.tmps[78]?.getD undef=.pointer (some ⟨qb,t*2,none⟩):=hsl 10 78 rfl (by omega) (hdep ⟨10,.data⟩ (by simp) rfl)
      have h10:=hdep ⟨10,.data⟩ (by simp) rfl
      go_wp2
      exact RX.RI.put hI slB_inj slB_lt (j:=11) (by omega) hd ⟨t,ht,rfl⟩ hW (fun i x hi h=>h)
     ·intro d ac w' hd hdep ⟨hI,hI2⟩
      obtain⟨hW,hsl,hbs⟩:=hI.live (i:=12) (by omega) hd
      obtain⟨t,ht,e0⟩:∃ t:Nat,t < dl∧ac.tmps[79]?.getD undef=.pointer (some ⟨qb,t*2+1,none⟩):=hsl 11 79 rfl (by omega) (hdep ⟨11,.data⟩ (by simp) rfl)
      obtain⟨z,e1⟩:∃ z,ac.tmps[77]?.getD undef=.int .i64 z:=hsl 9 77 rfl (by omega) (hdep ⟨9,.data⟩ (by simp) rfl)
      have hown:=hW.own
      rw[HRD.out] at hown
      obtain⟨⟨zo,y0⟩,y1⟩:=hown.val HDL.out ht
      have HM:=zN (hW.val HRD.out (by rw[←HDL.out];exact ht) z)
      have h11:=hdep ⟨11,.data⟩ (by simp) rfl
      clear hown
      go_wp2
      exact RX.RI.last hI hd (fun j hj=>by
       by_cases e1:j=11
       ·rw[e1];exact h11
       ·by_cases e2:j=10
        ·rw[e2];exact hI2 h11
        ·exact hdep ⟨j,.phase⟩ (by simp;omega) rfl) ⟨_,_,HM.out⟩
    case hend=>
     intro d ac w6 hall ⟨hI,_⟩
     obtain⟨y,⟨r6,D6,hB6⟩,rfl⟩:=hI.fin (hall 12 (by decide))
     simp only[List.range,List.range.loop,List.foldl_cons,List.foldl_nil,slB,List.set_cons_zero,List.set_cons_succ,Nat.reduceAdd]
     have HBN:=zN hB6
     clear hI hall hB6 HBd
     generalize y 0=y0 at *
     generalize y 1=y1 at *
     generalize y 2=y2 at *
     generalize y 3=y3 at *
     generalize y 4=y4 at *
     generalize y 5=y5 at *
     generalize y 6=y6 at *
     generalize y 7=y7 at *
     generalize y 8=y8 at *
     generalize y 9=y9 at *
     generalize y 10=y10 at *
     generalize y 11=y11 at *
     clear y
     go_wp2
     go_meet
     case rel=>exact zN ⟨_,_,HBN.out⟩
   ·have hd0:decide ((dl:Int) > 0)=false:=zDf (by omega)
    clear hrd hpb
    go_wp2
    go_meet
    case rel=>exact zN ⟨_,_,HB.out⟩
  ·have y6:=HB.out.rp.c6
   have z6:=HB.out.rp.z 6
   have HBN:=zN (HB.out.put (HB.out.rp.set6 (wrap64 (r0.c+1))) rfl)
   clear HB
   go_wp2
   go_meet
   case rel=>exact zN ⟨_,_,HBN.out⟩
 case rest=>
  obtain⟨r1,D1,hB⟩:=hcut.out
  obtain⟨k1,n1,t1,f1,a1,b1,c1,rd1⟩:=r1
  obtain⟨p1,cp1,hrd1,_⟩:=own_slice hB.own
  dsimp only at hrd1
  subst hrd1
  have HBR:=zN hB
  obtain⟨x0,x1,x2,x3,x4,x5,x6,x7,_⟩:=hB.rp
  dsimp only at x0 x1 x2 x3 x4 x5 x6 x7
  obtain⟨y0,y1,y2,y3,y4,y5,y6,y7,zz⟩:=hB.res
  have z0:=zz 0
  have z1:=zz 1
  have z2:=zz 2
  have z3:=zz 3
  have z4:=zz 4
  have z5:=zz 5
  have z6:=zz 6
  have z7:=zz 7
  unfold rep00 at y0 y1 y2 y3 y4 y5 y6 y7
  dsimp only at y0 y1 y2 y3 y4 y5 y6 y7
  have HR8:=zN (RptW.set8 hB.res k1 n1 t1 f1 a1 b1 c1 (.slice p1 D1.length cp1))
  have HGR:Hid (wc.grownBy ((((((((wc.setCell ⟨RB+1,0,none⟩ (.int .i64 k1)).setCell ⟨RB+1,1,none⟩ (.string n1)).setCell ⟨RB+1,2,none⟩ (.int .i64 t1)).setCell ⟨RB+1,3,none⟩ (.int .i64 f1)).setCell ⟨RB+1,4,none⟩ (.int .i64 a1)).setCell ⟨RB+1,5,none⟩ (.int .i64 b1)).setCell ⟨RB+1,6,none⟩ (.int .i64 c1)).setCell ⟨RB+1,7,none⟩ (.slice p1 D1.length cp1)) (some (RB+1))):=zN (grw_set (grw_set (grw_set (grw_set (grw_set (grw_set (grw_set (grw_set (grw_refl _ _) (.inl rfl)) (.inl rfl)) (.inl rfl)) (.inl rfl)) (.inl rfl)) (.inl rfl)) (.inl rfl)) (.inl rfl))
  clear zz hB hcut
  go_wp2
  generalize ((((((((wc.setCell ⟨RB+1,0,none⟩ (.int .i64 k1)).setCell ⟨RB+1,1,none⟩ (.string n1)).setCell ⟨RB+1,2,none⟩ (.int .i64 t1)).setCell ⟨RB+1,3,none⟩ (.int .i64 f1)).setCell ⟨RB+1,4,none⟩ (.int .i64 a1)).setCell ⟨RB+1,5,none⟩ (.int .i64 b1)).setCell ⟨RB+1,6,none⟩ (.int .i64 c1)).setCell ⟨RB+1,7,none⟩ (.slice p1 D1.length cp1))=w9 at HR8 HGR ⊢
  have HO:=zN (HBR.out.fin HGR.out)
  have hlv:(loadVar 44 ⟨RB+1,0,none⟩).run Tryz.prog w9=.ok (.agg #[.int .i64 k1,.string n1,.int .i64 t1,.int .i64 f1,.int .i64 a1,.int .i64 b1,.int .i64 c1,.slice p1 D1.length cp1]) w9:=
   run_loadVar_mid (P:=Tryz.prog) _ (RB+1) 0 44 [.int .i64 k1,.string n1,.int .i64 t1,.int .i64 f1,.int .i64 a1,.int .i64 b1,.int .i64 c1,.slice p1 D1.length cp1] _ (fun j v hv=>by
    have hj:j < 8:=(List.getElem?_eq_some_iff.1 hv).1
    have hc:j=0∨j=1∨j=2∨j=3∨j=4∨j=5∨j=6∨j=7:=by omega
    obtain⟨q0,q1,q2,q3,q4,q5,q6,q7,_⟩:=HR8.out
    rcases hc with rfl|rfl|rfl|rfl|rfl|rfl|rfl|rfl<;>(rw[←hv];first|exact q0|exact q1|exact q2|exact q3|exact q4|exact q5|exact q6|exact q7)) Tryz.underlying44 rfl (by kernel_rfl)
  refine bodyPost_ret (v:=.agg #[.int .i64 k1,.string n1,.int .i64 t1,.int .i64 f1,.int .i64 a1,.int .i64 b1,.int .i64 c1,.slice p1 D1.length cp1]) ?_ rfl ⟨(⟨k1,n1,t1,f1,a1,b1,c1,.slice p1 D1.length cp1⟩,D1),rfl,HO.out⟩
  simp[results,Tryz.results23,Sem.run_bind,Act.put,asAddr,hlv]
end Go.Proofs.YtednaajanciabaaGreatDoor
