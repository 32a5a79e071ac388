import Derived.Test.YtojkamfabapcoaaGreatDoorK23
import Derived.Test.YtojkamfabapcoaaGreatDoorKSpoil
import Derived.Test.YtojkamfabapcoaaGreatDoorKLaw23
import Derived.Test.YtojkamfabapcoaaGreatDoorKEn
set_option maxRecDepth 100000
set_option maxHeartbeats 8000000
set_option linter.unusedSimpArgs false
set_option linter.unusedVariables false
namespace Go.Proofs.YtojkamfabapcoaaGreatDoor
open Go.RowKit Go.Grid Go.Shelf
def Row4 (w:World) (g:Nat) (r:Rw) (q:Option Addr) (cap:Nat):Prop:=w.cell? ⟨g,0,none⟩=some (.slice q r.sh.length cap)∧w.cell? ⟨g,1,none⟩=some (.int .i64 r.value)∧w.cell? ⟨g,2,none⟩=some (.int .i64 r.weight)∧w.cell? ⟨g,3,none⟩=some (.int .i64 r.report)
theorem Row4.below {w w':World} {g:Nat} {r:Rw} {q:Option Addr} {cap:Nat} (h:Row4 w g r q cap) (hb:Below w.heap.size w w'):Row4 w' g r q cap:=⟨zP hb h.1,zP hb h.2.1,zP hb h.2.2.1,zP hb h.2.2.2⟩
theorem VecAt.dropI {w:World} {b:Nat} {zs:List Int} (h:VecAt w (some ⟨b,0,none⟩) zs) (k:Nat):VecAt w (some ⟨b,k,none⟩) (zs.drop k):=by
 refine⟨b,k,fun _=>rfl,fun j hj=>?_⟩
 rw[List.length_drop] at hj
 have:=h.at0 (k:=k+j) (by omega)
 rw[List.getElem_drop]
 exact this
theorem VecAt.takeI {w:World} {b:Nat} {zs:List Int} (h:VecAt w (some ⟨b,0,none⟩) zs) (k:Nat):VecAt w (some ⟨b,0,none⟩) (zs.take k):=by
 refine⟨b,0,fun _=>rfl,fun j hj=>?_⟩
 rw[List.length_take] at hj
 have:=h.at0 (k:=j) (by omega)
 rw[List.getElem_take,Nat.zero_add]
 exact this
theorem sum_ge:∀ l:List (Int × Int),(∀ c∈l,1≤c.2)→(l.length:Int)≤sumI l
 |[],_=>by simp[sumI]
 |c :: l,h=>by
  have ih:=sum_ge l (fun x hx=>h x (List.mem_cons_of_mem _ hx))
  have:=h c (List.mem_cons_self ..)
  unfold sumI at *
  simp only[List.map_cons,List.sum_cons,List.length_cons]
  omega
theorem SyOk.sh840 {S:Sy} (h:SyOk S):∀ r∈S.rows,r.sh.length≤840:=fun r hr=>by
 obtain⟨k,hk,rfl⟩:=List.mem_iff_getElem.1 hr
 obtain⟨h1,h2,h3,h4⟩:=h
 obtain⟨_,ho,hs,_⟩:=h4 k hk (by omega)
 have:=sum_ge _ (fun c hc=>(ho c hc).2.1)
 omega
def SAt (w:World) (A k:Nat):Prop:=∃ (S:Sy) (p:Option Addr) (c:Nat) (p':Option Addr) (c':Nat),(w.cell? ⟨A,k*5,none⟩=some (.int .i64 S.f)∧w.cell? ⟨A,k*5+1,none⟩=some (.int .i64 S.s)∧w.cell? ⟨A,k*5+2,none⟩=some (.int .i64 S.a)∧w.cell? ⟨A,k*5+3,none⟩=some (.slice p S.rows.length c)∧w.cell? ⟨A,k*5+4,none⟩=some (.slice p' S.targets.length c'))∧
 SysIn w (.agg #[.int .i64 S.f,.int .i64 S.s,.int .i64 S.a,.slice p S.rows.length c,.slice p' S.targets.length c']) S∧SyLen S
theorem SAt.below {w w':World} {A k:Nat} (h:SAt w A k) (hb:Below w.heap.size w w'):SAt w' A k:=by
 obtain⟨S,p,c,p',c',⟨h0,h1,h2,h3,h4⟩,h5,h6⟩:=h
 exact⟨S,p,c,p',c',⟨zP hb h0,zP hb h1,zP hb h2,zP hb h3,zP hb h4⟩,h5.below hb,h6⟩
def VAt (w:World) (A k:Nat):Prop:=∃ (p:Option Addr) (c:Nat) (z:List Int),w.cell? ⟨A,k,none⟩=some (.slice p z.length c)∧z.length≤c∧VecAt w p z∧z.length≤1000∧I64L z
theorem VAt.below {w w':World} {A k:Nat} (h:VAt w A k) (hb:Below w.heap.size w w'):VAt w' A k:=by
 obtain⟨p,c,z,h1,h2,h3,h4⟩:=h
 exact⟨p,c,z,zP hb h1,h2,h3.below hb,h4⟩
theorem comp_law (W:World) (q:Option Addr) (cap cb co:Nat) (L:List Int) (hp:0 < L.length→q=some ⟨cb,co,none⟩) (hl:L.length≤cap) (hc:cap≤9223372036854775807)
  (hcell:∀ k (h:k < L.length),W.cell? ⟨cb,co+k,none⟩=some (.int .u8 L[k])∧0≤L[k]∧L[k] < 256) (hT:HasTab W)
  (q1:Option Addr) (cap1:Nat) (O:List Int) (hV1:VecAt W q1 O) (hI1:I64L O) (hl1:O.length≤cap1) :
  Calls Tryz.prog 5 #[.slice q L.length cap,.slice q1 O.length cap1] W fun e w'=>e=.returned (.bool true)∧Below W.heap.size W w':=by
 have HIN:=zN (And.intro hp hcell)
 have HTB:=zN hT
 have HVO:=zN (And.intro hV1 hI1)
 clear hp hcell hV1 hI1
 go_enter Tryz.func5,Tryz.ntmps5
 go_wp2_with fail
 refine (awake23_any W hT).mono ?_
 rintro e w1 ⟨rfl,hB⟩
 clear hT
 by_cases hbig:100 < O.length
 ·have e1:decide ((O.length:Int) > 100)=true:=zDt (by omega)
  go_wp2
  refine bodyPost_ret (v:=.bool true) ?_ rfl ⟨rfl,hB⟩
  simp[results,Tryz.results5,go_sem]
 have e1:decide ((O.length:Int) > 100)=false:=zDf (by omega)
 go_wp2_with fail
 clear e1
 refine (start_any W q cap cb co 240 L w1 (by omega) HIN.out.1 hl hc HIN.out.2 hB).mono ?_
 rintro e w2 ⟨g,b,M,rfl,hg,hb2,hbM,hC⟩
 have hgW:W.heap.size≤g:=by have:=hB.size;omega
 replace hB:=hB.trans (hb2.mono hB.size)
 have hgl:=hC.lt
 have hbg:0 < M.length→b < g:=fun h0=>by have:=hbM h0;omega
 clear hb2 hbM hg HIN hl hc
 clear w1
 go_wp2_with fail
 refine (csys_val w2 g b M 0 6 hC (by omega)).mono ?_
 rintro e w3 ⟨v,S,rfl,hSO,hOk,hPC,hSr,hval,hg3,j3,hC3⟩
 replace hB:=hB.grown hg3 hB.size (fun k hk=>by injection hk with hk;omega)
 have hs3:=hg3.size
 have HOK:=zN hOk
 have HPC:=zN hPC
 have HVAL:=zN hval
 have HSR:=zN hSr
 have hS8:=zN hOk.sh840
 have hSt:=zN hOk.2.2.1
 obtain⟨hn1,hn2,hn3⟩:=hOk.nodes
 have hf1:1≤S.f:=hOk.1.1
 have hf2:S.f≤2:=hPC.1.2
 clear hC hg3 hPC hSr hval hOk
 obtain⟨p1,d1,p2,d2,rfl,-⟩:=hSO.sysin
 have hpv:Hid (prv S.f S.s S.a=.agg #[.int .i64 S.f,.int .i64 S.s,.int .i64 S.a]):=zN rfl
 go_wp2_with fail
 have hP:Five (w3.alloc (.cells #[.int .i64 S.f,.int .i64 S.s,.int .i64 S.a,.slice p1 S.rows.length d1,.slice p2 S.targets.length d2] 27)) w3.heap.size S.f S.s S.a (.slice p1 S.rows.length d1) (.slice p2 S.targets.length d2):=⟨(by simp[zO,zJ,zQ]),(by simp[zO,zJ,zQ]),(by simp[zO,zJ,zQ]),(by simp[zO,zJ,zQ]),(by simp[zO,zJ,zQ])⟩
 have hb4:=(zBr w3.heap.size w3).alloc (Nat.le_refl _) (.cells #[.int .i64 S.f,.int .i64 S.s,.int .i64 S.a,.slice p1 S.rows.length d1,.slice p2 S.targets.length d2] 27)
 replace hB:=hB.trans (hb4.mono hB.size)
 replace hSO:=hSO.grown (grw_below hb4 none) (fun k hk=>by cases hk)
 have hC4:=hC3.below hb4
 have hs4:w3.heap.size < (w3.alloc (.cells #[.int .i64 S.f,.int .i64 S.s,.int .i64 S.a,.slice p1 S.rows.length d1,.slice p2 S.targets.length d2] 27)).heap.size:=by simp
 obtain⟨P,hPe⟩:∃ P,P=w3.heap.size:=⟨_,rfl⟩
 have hgP:g < P:=by omega
 have hPg2:P≠g:=by omega
 rw[←hPe] at hP hs4 ⊢
 have hgb:g < w2.heap.size:=hgl
 have hbw:w2.heap.size≤(w3.alloc (.cells #[.int .i64 S.f,.int .i64 S.s,.int .i64 S.a,.slice p1 S.rows.length d1,.slice p2 S.targets.length d2] 27)).heap.size:=by omega
 obtain⟨Bs,hBs⟩:∃ Bs,Bs=w2.heap.size:=⟨_,rfl⟩
 rw[←hBs] at hSO hgb hbw
 clear hC3 hb4 hPe hs3 hgl hBs
 generalize (w3.alloc (.cells #[.int .i64 S.f,.int .i64 S.s,.int .i64 S.a,.slice p1 S.rows.length d1,.slice p2 S.targets.length d2] 27))=W4 at *
 clear w2 w3
 rw[←hpv.out]
 refine (cfor_any W4 g b M j3 S.f S.s S.a hC4 (fun h0=>by have:=hbg h0;omega) HPC.out).mono ?_
 rintro e w5 ⟨vx,x,rfl,hxl,hxw,hxr,hg5,j5,hC5⟩
 rw[hpv.out]
 replace hB:=hB.grown hg5 hB.size (fun k hk=>by injection hk with hk;omega)
 replace hP:=hP.turn hg5 hPg2
 replace hSO:=hSO.grown hg5 (fun k hk=>by injection hk with hk;omega)
 replace hbw:Bs≤w5.heap.size:=by have:=hg5.size;omega
 have HXW:=zN hxw
 have hxn:x.length=S.n:=by omega
 have HXL:=zN hxn
 have HXI:Hid (I64L x):=zN (i64_within hxw (by omega))
 obtain⟨Bx,hBx⟩:∃ Bx,Bx=W4.heap.size:=⟨_,rfl⟩
 have hgx:g < Bx:=by omega
 rw[←hBx] at hxr
 have hxr0:=hxr
 obtain⟨px,cx,bx,rfl,hcx,hpx,-⟩:=hxr.form
 obtain⟨rfl,hbx1,hbx2⟩:=hpx (by omega)
 clear hC4 hg5 hxw hxl hpx hBx hs4
 clear W4
 have hP5:=hP
 obtain⟨k0,k1,k2,k3,k4⟩:=hP5
 go_wp2_with fail
 clear k0 k1 k2 k3 k4
 obtain⟨fn,hfn⟩:∃ fn:Nat,S.f=fn:=⟨S.f.toNat,by omega⟩
 have HFN:=zN hfn
 have HRW:Hid (∀ w',CodesAt w' g b M j5→Calls Tryz.prog 15 #[.pointer (some ⟨g,0,none⟩),.int .i64 S.f,.int .i64 0] w' fun e w''=>∃ v bb cap zs,e=.returned (.tuple #[v,.slice (some ⟨bb,0,none⟩) zs.length cap])∧zs.length=S.n∧zs.length≤cap∧w'.heap.size≤bb∧IntsAt w'' bb 0 zs∧(∀ y∈zs,0≤y∧y≤4194304)∧w'.grownBy w'' (some g)∧∃ j,CodesAt w'' g b M j):=zN (fun w' h=>by
  have h9:=crows_any w' g b M j5 fn 0 h (by omega) (by omega) (by omega)
  rw[hfn]
  refine h9.mono ?_
  rintro e w'' ⟨v,X,bb,cap,zs,rfl,h1,h2,h3,h4,h5,h6,h7,h8,h10⟩
  exact⟨v,bb,cap,zs,rfl,by have:=HOK.out.nodes.1;rw[hfn] at this;omega,h5,h6,h7,h8,h10⟩)
 clear hfn
 refine (HRW.out w5 hC5).mono ?_
 rintro e w6 ⟨vr,bb,cz,zs,rfl,hzl,hzc,hbz,hzi,hzb,hg6,j6,hC6⟩
 replace hB:=hB.grown hg6 hB.size (fun k hk=>by injection hk with hk;omega)
 replace hP:=hP.turn hg6 hPg2
 replace hSO:=hSO.grown hg6 (fun k hk=>by injection hk with hk;omega)
 replace hxr:=hxr0.kept hg6 (fun k hk=>by injection hk with hk;omega)
 replace hbw:Bs≤w6.heap.size:=by have:=hg6.size;omega
 have hVx:VecAt w6 (some ⟨bx,0,none⟩) x:=hxr.vecAt
 have hVz:VecAt w6 (some ⟨bb,0,none⟩) zs:=vec_of_ints hzi
 have HZL:=zN hzl
 have hbbx:g < bb:=by omega
 have hbxg:g < bx:=by omega
 have HZB:Hid (Bd 1099511627776 zs):=zN (fun y hy=>by have:=hzb y hy;omega)
 have HZB5:Hid (Bd 1099511627776 (zs.take 5)):=zN (fun y hy=>by have:=hzb y (List.mem_of_mem_take hy);omega)
 have HXB:Hid (Bd 1099511627776 x):=zN (fun y hy=>by have:=small_within HXW.out y hy;omega)
 have h5z:(zs.take 5).length=5:=by rw[List.length_take];omega
 rw[hzl] at hzc
 have HTL5:=zN h5z
 clear hg6 hzb hzi hxr hxr0 hC5 h5z hbx2 hbz
 clear w5
 rw[hzl]
 try rw[hxn]
 have HRO:Hid (∀ (k:Nat) (h1:k < S.rows.length) (h2:k < S.targets.length) (cap:Nat) (q:Option Addr) (w':World),ShIn w' q S.rows[k].sh→S.rows[k].sh.length≤cap→VecAt w' (some ⟨bb,0,none⟩) zs→VecAt w' (some ⟨bx,0,none⟩) x→
   ((Calls Tryz.prog 17 #[.slice (some ⟨bb,0,none⟩) S.n cz,rwv S.rows[k] q cap] w' fun e w''=>e=.returned (.int .i64 (215040*S.rows[k].value-valL S.rows[k].sh zs))∧Below w'.heap.size w' w'')∧
    (Calls Tryz.prog 22 #[.slice (some ⟨bb,0,none⟩) S.n cz,rwv S.rows[k] q cap] w' fun e w''=>e=.returned (.int .i64 (215040*S.rows[k].value-valL S.rows[k].sh zs))∧Below w'.heap.size w' w'')∧
    (Calls Tryz.prog 17 #[.slice (some ⟨bb,0,none⟩) 5 cz,rwv S.rows[k] q cap] w' fun e w''=>e=.returned (.int .i64 (215040*S.rows[k].value-valL S.rows[k].sh (zs.take 5)))∧Below w'.heap.size w' w'')∧
    (Calls Tryz.prog 22 #[.slice (some ⟨bb,0,none⟩) 5 cz,rwv S.rows[k] q cap] w' fun e w''=>e=.returned (.int .i64 (215040*S.rows[k].value-valL S.rows[k].sh (zs.take 5)))∧Below w'.heap.size w' w'')∧
    (Calls Tryz.prog 23 #[rwv S.rows[k] q cap,.int .i64 S.targets[k],.slice (some ⟨bx,0,none⟩) S.n cx] w' fun e w''=>e=.returned (.int .i64 (S.targets[k]-valL S.rows[k].sh x))∧Below w'.heap.size w' w'')∧
    (Calls Tryz.prog 24 #[rwv S.rows[k] q cap,.int .i64 S.targets[k],.slice (some ⟨bx,0,none⟩) S.n cx] w' fun e w''=>e=.returned (.int .i64 (S.targets[k]-valL S.rows[k].sh x))∧Below w'.heap.size w' w''))):=zN (fun k h1 h2 cap q w' hq hcap hz hx=>by
  have hrow:=HOK.out.row (List.getElem_mem h1)
  have hv:=HVAL.out _ (List.getElem_mem h1)
  have htg:=HOK.out.target (List.getElem_mem h2)
  have hn:=HOK.out.nodes
  have a1:=ctarget_any S.rows[k] q cap zs _ cz w' hq hcap (by omega) hrow.2.2.1 hz HZB.out (by have:=HZL.out;omega) (by omega)
  have a2:=rtarget_any S.rows[k] q cap zs _ cz w' hq hcap (by omega) hrow.2.2.1 hz HZB.out (by have:=HZL.out;omega) (by omega)
  have a3:=ctarget_any S.rows[k] q cap (zs.take 5) _ cz w' hq hcap (by omega) hrow.2.2.1 (hz.takeI 5) HZB5.out (by have:=HTL5.out;omega) (by omega)
  have a4:=rtarget_any S.rows[k] q cap (zs.take 5) _ cz w' hq hcap (by omega) hrow.2.2.1 (hz.takeI 5) HZB5.out (by have:=HTL5.out;omega) (by omega)
  have a5:=cmisfit_any S.rows[k] q cap S.targets[k] x _ cx w' hq hcap (by omega) hrow.2.2.1 hx HXB.out (by have:=HXL.out;omega) (by omega)
  have a6:=rmisfit_any S.rows[k] q cap S.targets[k] x _ cx w' hq hcap (by omega) hrow.2.2.1 hx HXB.out (by have:=HXL.out;omega) (by omega)
  rw[HZL.out] at a1 a2
  rw[HTL5.out] at a3 a4
  rw[HXL.out] at a5 a6
  exact⟨a1,a2,a3,a4,a5,a6⟩)
 have HX0:=zN hVx
 have HZ0:=zN hVz
 have HB:=zN hB
 have HP:=zN hP
 have HSO:=zN hSO
 have HC6:=zN hC6
 have HSI:=zN hSO.sysin
 have hPl:P < w6.heap.size:=zM _ _ hP.1
 have HCX:=zN hcx
 obtain⟨n,hn⟩:∃ n,n=S.n:=⟨_,rfl⟩
 have HN:=zN hn
 rw[←hn] at hn1 hn2 hn3 HRO hzc hxn ⊢
 clear hn hVx hVz hB hSO hC6 hzl HRW HXB HZB HZB5 HVAL
 obtain⟨k0,k1,k2,k3,k4⟩:=hP
 go_wp2
 clear k0 k1 k2 k3 k4
 go_loopw [60] (fun i wr=>∃ k:Nat,k≤S.rows.length∧i=.int .i64 k∧Below w6.heap.size w6 wr) (fun i _=>S.rows.length-(intOf i).toNat)
 case atStart=>exact⟨0,Nat.zero_le _,rfl,zBr _ _⟩
 case round=>
  obtain⟨k,hk,rfl,hb⟩:=hrel
  by_cases hlt:k < S.rows.length
  ·have hdk:decide ((k:Int) < (S.rows.length:Int))=true:=zDt (by omega)
   have hltT:k < S.targets.length:=by rw[hSt.out];exact hlt
   obtain⟨e1,c1',e2,c2',hv9,hd1,hd2,hR,hTg⟩:=HSI.out.below hb
   injection hv9 with hv9
   simp only[Array.mk.injEq,List.cons.injEq,Value.slice.injEq,true_and,and_true] at hv9
   obtain⟨⟨rfl,rfl⟩,rfl,rfl⟩:=hv9
   obtain⟨bR,oR,rfl,hbR,hcR⟩:=hR.get (by omega)
   obtain⟨bT,oT,rfl,hbT,hcT⟩:=hTg.cell (by omega)
   obtain⟨q',cap',g0,gcap,gsh,g1,g2,g3⟩:=hcR k hlt
   have tk:=hcT k hltT
   have HCAL:=zN (HRO.out k hlt hltT cap' q')
   have hP9:=HP.out.below hb
   obtain⟨r,hr⟩:∃ r,r=S.rows[k]:=⟨_,rfl⟩
   obtain⟨t,ht⟩:∃ t,t=S.targets[k]:=⟨_,rfl⟩
   rw[←hr] at g0 gcap gsh g1 g2 g3 HCAL
   rw[←ht] at tk HCAL
   have hrw:Hid (rwv r q' cap'=.agg #[.slice q' r.sh.length cap',.int .i64 r.value,.int .i64 r.weight,.int .i64 r.report]):=zN rfl
   obtain⟨T1,hT1⟩:∃ T1,T1=215040*r.value-valL r.sh zs:=⟨_,rfl⟩
   obtain⟨T2,hT2⟩:∃ T2,T2=215040*r.value-valL r.sh (zs.take 5):=⟨_,rfl⟩
   obtain⟨T3,hT3⟩:∃ T3,T3=t-valL r.sh x:=⟨_,rfl⟩
   rw[←hT1,←hT2,←hT3,hrw.out] at HCAL
   have hk0:(0:Int)≤(k:Int):=by omega
   have hrl6:=HSR.out
   have hkI:(k:Int) < (S.rows.length:Int):=by omega
   have hkT:(k:Int) < (S.targets.length:Int):=by omega
   have HGS:=zN gsh
   have hXr:=HX0.out.below hb
   have hZr:=HZ0.out.below hb
   clear hr ht hT1 hT2 hT3 hcR hcT hR hTg gsh hrw
   obtain⟨k0,k1,k2,k3,k4⟩:=hP9
   go_wp2
   have hb7:Below wr.heap.size wr (wr.alloc (.cells #[.slice q' r.sh.length cap',.int .i64 r.value,.int .i64 r.weight,.int .i64 r.report] 45)):=(by repeat (first|(with_reducible first|assumption|exact zBr _ _|refine zBs ?_ (by first|omega|(simp<;>omega)) _|refine zBa ?_ (by first|omega|(simp<;>omega)) _|apply zBd)|assumption))
   have hR4:Row4 (wr.alloc (.cells #[.slice q' r.sh.length cap',.int .i64 r.value,.int .i64 r.weight,.int .i64 r.report] 45)) wr.heap.size r q' cap':=⟨(by simp[zO,zJ,zQ]),(by simp[zO,zJ,zQ]),(by simp[zO,zJ,zQ]),(by simp[zO,zJ,zQ])⟩
   replace k4:=zP hb7 k4
   replace tk:=zP hb7 tk
   have HX7:=zN (hXr.below hb7)
   have HZ7:=zN (hZr.below hb7)
   replace HGS:=zN (HGS.out.below hb7)
   replace hb:=hb.trans (hb7.mono hb.size)
   obtain⟨Rb,hRb⟩:∃ Rb,Rb=wr.heap.size:=⟨_,rfl⟩
   rw[←hRb] at hR4 ⊢
   clear hb7 hRb g0 g1 g2 g3 k0 k1 k2 k3 hXr hZr hbR hbT
   generalize (wr.alloc (.cells #[.slice q' r.sh.length cap',.int .i64 r.value,.int .i64 r.weight,.int .i64 r.report] 45))=W8 at *
   clear wr
   refine RX.region RX.fN (fun w'=>Row4 w' Rb r q' cap'∧w'.cell? ⟨P,4,none⟩=some (.slice (some ⟨bT,oT,none⟩) S.targets.length d2)∧w'.cell? ⟨bT,oT+k,none⟩=some (.int .i64 t)) (by kernel_rfl) (by kernel_rfl) (⟨hR4,k4,tk⟩) (fun OPS HO QR hQR=>?_)
   replace hb:=hb.drew
   replace hR4:Row4 W8.drew Rb r q' cap':=hR4
   replace k4:W8.drew.cell? ⟨P,4,none⟩=some (.slice (some ⟨bT,oT,none⟩) S.targets.length d2):=k4
   replace tk:W8.drew.cell? ⟨bT,oT+k,none⟩=some (.int .i64 t):=tk
   replace HX7:Hid (VecAt W8.drew (some ⟨bx,0,none⟩) x):=HX7
   replace HZ7:Hid (VecAt W8.drew (some ⟨bb,0,none⟩) zs):=HZ7
   replace HGS:Hid (ShIn W8.drew q' r.sh):=HGS
   generalize W8.drew=W9 at *
   clear W8
   repeat (refine zeX (fun R hR=>?_);(first|refine zaX (by first|rfl|(rw[HO.out];rfl)) (by simp only[zA,zB,zC,zD];rfl) ?_|refine zbX (by first|rfl|(rw[HO.out];rfl)) rfl (by first|exact .inl rfl|exact .inr rfl) (by simp only[zE,zF,zG,zH];rfl) (by simp only[zA,zB,zC,zD];rfl) ?_|refine zcX (by first|rfl|(rw[HO.out];rfl)) rfl rfl (by simp only[zE,zF,zG,zH];rfl) (by simp only[zA,zB,zC,zD];rfl) ?_|(refine zdX (by first|rfl|(rw[HO.out];rfl)) rfl rfl rfl ?_;apply zEx;apply zEx;refine⟨fun w' hS K hK=>?_,?_,?_⟩;(focus (obtain⟨⟨hS1,hS2,hS3,hS4⟩,hS5,hS6⟩:=hS;go_wp2;exact hK _ _ (by simp only[zl,zG,zH];first|exact zf (by omega)|exact zg (by omega)|exact zh (by omega)|exact zi (by omega)|exact zj (by omega)|exact zk (by omega)|exact RX.bneB _|rfl) rfl));(focus (simp only[zA,zB,zC,zD];rfl))));refine hR _ _ ?_;clear hR R)
   refine zeX (fun R hR=>?_)
   refine zgX (by first|rfl|(rw[HO.out];rfl)) rfl (fun K hK=>?_)
   go_wp2_with fail
   refine ((HCAL.out _ HGS.out gcap HZ7.out HX7.out).1).mono ?_
   rintro e u0 ⟨rfl,hbm⟩
   have hR5:=hR4.below hbm
   have k5:=zP hbm k4
   have tk5:=zP hbm tk
   replace HX7:=zN (HX7.out.below hbm)
   replace HZ7:=zN (HZ7.out.below hbm)
   replace HGS:=zN (HGS.out.below hbm)
   replace hb:=hb.trans (hbm.mono hb.size)
   clear hbm hR4 k4 tk
   refine hK _ _ ⟨⟨hR5,k5,tk5⟩,hR _ _ ?_⟩;clear hK K hR R
   have hR4:=hR5
   have k4:=k5
   have tk:=tk5
   clear hR5 k5 tk5
   clear W9
   repeat (refine zeX (fun R hR=>?_);(first|refine zaX (by first|rfl|(rw[HO.out];rfl)) (by simp only[zA,zB,zC,zD];rfl) ?_|refine zbX (by first|rfl|(rw[HO.out];rfl)) rfl (by first|exact .inl rfl|exact .inr rfl) (by simp only[zE,zF,zG,zH];rfl) (by simp only[zA,zB,zC,zD];rfl) ?_|refine zcX (by first|rfl|(rw[HO.out];rfl)) rfl rfl (by simp only[zE,zF,zG,zH];rfl) (by simp only[zA,zB,zC,zD];rfl) ?_|(refine zdX (by first|rfl|(rw[HO.out];rfl)) rfl rfl rfl ?_;apply zEx;apply zEx;refine⟨fun w' hS K hK=>?_,?_,?_⟩;(focus (obtain⟨⟨hS1,hS2,hS3,hS4⟩,hS5,hS6⟩:=hS;go_wp2;exact hK _ _ (by simp only[zl,zG,zH];first|exact zf (by omega)|exact zg (by omega)|exact zh (by omega)|exact zi (by omega)|exact zj (by omega)|exact zk (by omega)|exact RX.bneB _|rfl) rfl));(focus (simp only[zA,zB,zC,zD];rfl))));refine hR _ _ ?_;clear hR R)
   refine zeX (fun R hR=>?_)
   refine zgX (by first|rfl|(rw[HO.out];rfl)) rfl (fun K hK=>?_)
   go_wp2_with fail
   refine ((HCAL.out _ HGS.out gcap HZ7.out HX7.out).2.1).mono ?_
   rintro e u1 ⟨rfl,hbm⟩
   have hR5:=hR4.below hbm
   have k5:=zP hbm k4
   have tk5:=zP hbm tk
   replace HX7:=zN (HX7.out.below hbm)
   replace HZ7:=zN (HZ7.out.below hbm)
   replace HGS:=zN (HGS.out.below hbm)
   replace hb:=hb.trans (hbm.mono hb.size)
   clear hbm hR4 k4 tk
   refine hK _ _ ⟨⟨hR5,k5,tk5⟩,hR _ _ ?_⟩;clear hK K hR R
   have hR4:=hR5
   have k4:=k5
   have tk:=tk5
   clear hR5 k5 tk5
   clear u0
   repeat (refine zeX (fun R hR=>?_);(first|refine zaX (by first|rfl|(rw[HO.out];rfl)) (by simp only[zA,zB,zC,zD];rfl) ?_|refine zbX (by first|rfl|(rw[HO.out];rfl)) rfl (by first|exact .inl rfl|exact .inr rfl) (by simp only[zE,zF,zG,zH];rfl) (by simp only[zA,zB,zC,zD];rfl) ?_|refine zcX (by first|rfl|(rw[HO.out];rfl)) rfl rfl (by simp only[zE,zF,zG,zH];rfl) (by simp only[zA,zB,zC,zD];rfl) ?_|(refine zdX (by first|rfl|(rw[HO.out];rfl)) rfl rfl rfl ?_;apply zEx;apply zEx;refine⟨fun w' hS K hK=>?_,?_,?_⟩;(focus (obtain⟨⟨hS1,hS2,hS3,hS4⟩,hS5,hS6⟩:=hS;go_wp2;exact hK _ _ (by simp only[zl,zG,zH];first|exact zf (by omega)|exact zg (by omega)|exact zh (by omega)|exact zi (by omega)|exact zj (by omega)|exact zk (by omega)|exact RX.bneB _|rfl) rfl));(focus (simp only[zA,zB,zC,zD];rfl))));refine hR _ _ ?_;clear hR R)
   refine zeX (fun R hR=>?_)
   refine zgX (by first|rfl|(rw[HO.out];rfl)) rfl (fun K hK=>?_)
   go_wp2_with fail
   refine ((HCAL.out _ HGS.out gcap HZ7.out HX7.out).2.2.2.2.1).mono ?_
   rintro e u2 ⟨rfl,hbm⟩
   have hR5:=hR4.below hbm
   have k5:=zP hbm k4
   have tk5:=zP hbm tk
   replace HX7:=zN (HX7.out.below hbm)
   replace HZ7:=zN (HZ7.out.below hbm)
   replace HGS:=zN (HGS.out.below hbm)
   replace hb:=hb.trans (hbm.mono hb.size)
   clear hbm hR4 k4 tk
   refine hK _ _ ⟨⟨hR5,k5,tk5⟩,hR _ _ ?_⟩;clear hK K hR R
   have hR4:=hR5
   have k4:=k5
   have tk:=tk5
   clear hR5 k5 tk5
   clear u1
   repeat (refine zeX (fun R hR=>?_);(first|refine zaX (by first|rfl|(rw[HO.out];rfl)) (by simp only[zA,zB,zC,zD];rfl) ?_|refine zbX (by first|rfl|(rw[HO.out];rfl)) rfl (by first|exact .inl rfl|exact .inr rfl) (by simp only[zE,zF,zG,zH];rfl) (by simp only[zA,zB,zC,zD];rfl) ?_|refine zcX (by first|rfl|(rw[HO.out];rfl)) rfl rfl (by simp only[zE,zF,zG,zH];rfl) (by simp only[zA,zB,zC,zD];rfl) ?_|(refine zdX (by first|rfl|(rw[HO.out];rfl)) rfl rfl rfl ?_;apply zEx;apply zEx;refine⟨fun w' hS K hK=>?_,?_,?_⟩;(focus (obtain⟨⟨hS1,hS2,hS3,hS4⟩,hS5,hS6⟩:=hS;go_wp2;exact hK _ _ (by simp only[zl,zG,zH];first|exact zf (by omega)|exact zg (by omega)|exact zh (by omega)|exact zi (by omega)|exact zj (by omega)|exact zk (by omega)|exact RX.bneB _|rfl) rfl));(focus (simp only[zA,zB,zC,zD];rfl))));refine hR _ _ ?_;clear hR R)
   refine zeX (fun R hR=>?_)
   refine zgX (by first|rfl|(rw[HO.out];rfl)) rfl (fun K hK=>?_)
   go_wp2_with fail
   refine ((HCAL.out _ HGS.out gcap HZ7.out HX7.out).2.2.2.2.2).mono ?_
   rintro e u3 ⟨rfl,hbm⟩
   have hR5:=hR4.below hbm
   have k5:=zP hbm k4
   have tk5:=zP hbm tk
   replace HX7:=zN (HX7.out.below hbm)
   replace HZ7:=zN (HZ7.out.below hbm)
   replace HGS:=zN (HGS.out.below hbm)
   replace hb:=hb.trans (hbm.mono hb.size)
   clear hbm hR4 k4 tk
   refine hK _ _ ⟨⟨hR5,k5,tk5⟩,hR _ _ ?_⟩;clear hK K hR R
   have hR4:=hR5
   have k4:=k5
   have tk:=tk5
   clear hR5 k5 tk5
   clear u2
   repeat (refine zeX (fun R hR=>?_);(first|refine zaX (by first|rfl|(rw[HO.out];rfl)) (by simp only[zA,zB,zC,zD];rfl) ?_|refine zbX (by first|rfl|(rw[HO.out];rfl)) rfl (by first|exact .inl rfl|exact .inr rfl) (by simp only[zE,zF,zG,zH];rfl) (by simp only[zA,zB,zC,zD];rfl) ?_|refine zcX (by first|rfl|(rw[HO.out];rfl)) rfl rfl (by simp only[zE,zF,zG,zH];rfl) (by simp only[zA,zB,zC,zD];rfl) ?_|(refine zdX (by first|rfl|(rw[HO.out];rfl)) rfl rfl rfl ?_;apply zEx;apply zEx;refine⟨fun w' hS K hK=>?_,?_,?_⟩;(focus (obtain⟨⟨hS1,hS2,hS3,hS4⟩,hS5,hS6⟩:=hS;go_wp2;exact hK _ _ (by simp only[zl,zG,zH];first|exact zf (by omega)|exact zg (by omega)|exact zh (by omega)|exact zi (by omega)|exact zj (by omega)|exact zk (by omega)|exact RX.bneB _|rfl) rfl));(focus (simp only[zA,zB,zC,zD];rfl))));refine hR _ _ ?_;clear hR R)
   refine zeX (fun R hR=>?_)
   refine zgX (by first|rfl|(rw[HO.out];rfl)) rfl (fun K hK=>?_)
   go_wp2_with fail
   refine ((HCAL.out _ HGS.out gcap HZ7.out HX7.out).2.2.1).mono ?_
   rintro e u4 ⟨rfl,hbm⟩
   have hR5:=hR4.below hbm
   have k5:=zP hbm k4
   have tk5:=zP hbm tk
   replace HX7:=zN (HX7.out.below hbm)
   replace HZ7:=zN (HZ7.out.below hbm)
   replace HGS:=zN (HGS.out.below hbm)
   replace hb:=hb.trans (hbm.mono hb.size)
   clear hbm hR4 k4 tk
   refine hK _ _ ⟨⟨hR5,k5,tk5⟩,hR _ _ ?_⟩;clear hK K hR R
   have hR4:=hR5
   have k4:=k5
   have tk:=tk5
   clear hR5 k5 tk5
   clear u3
   repeat (refine zeX (fun R hR=>?_);(first|refine zaX (by first|rfl|(rw[HO.out];rfl)) (by simp only[zA,zB,zC,zD];rfl) ?_|refine zbX (by first|rfl|(rw[HO.out];rfl)) rfl (by first|exact .inl rfl|exact .inr rfl) (by simp only[zE,zF,zG,zH];rfl) (by simp only[zA,zB,zC,zD];rfl) ?_|refine zcX (by first|rfl|(rw[HO.out];rfl)) rfl rfl (by simp only[zE,zF,zG,zH];rfl) (by simp only[zA,zB,zC,zD];rfl) ?_|(refine zdX (by first|rfl|(rw[HO.out];rfl)) rfl rfl rfl ?_;apply zEx;apply zEx;refine⟨fun w' hS K hK=>?_,?_,?_⟩;(focus (obtain⟨⟨hS1,hS2,hS3,hS4⟩,hS5,hS6⟩:=hS;go_wp2;exact hK _ _ (by simp only[zl,zG,zH];first|exact zf (by omega)|exact zg (by omega)|exact zh (by omega)|exact zi (by omega)|exact zj (by omega)|exact zk (by omega)|exact RX.bneB _|rfl) rfl));(focus (simp only[zA,zB,zC,zD];rfl))));refine hR _ _ ?_;clear hR R)
   refine zeX (fun R hR=>?_)
   refine zgX (by first|rfl|(rw[HO.out];rfl)) rfl (fun K hK=>?_)
   go_wp2_with fail
   refine ((HCAL.out _ HGS.out gcap HZ7.out HX7.out).2.2.2.1).mono ?_
   rintro e u5 ⟨rfl,hbm⟩
   have hR5:=hR4.below hbm
   have k5:=zP hbm k4
   have tk5:=zP hbm tk
   replace HX7:=zN (HX7.out.below hbm)
   replace HZ7:=zN (HZ7.out.below hbm)
   replace HGS:=zN (HGS.out.below hbm)
   replace hb:=hb.trans (hbm.mono hb.size)
   clear hbm hR4 k4 tk
   refine hK _ _ ⟨⟨hR5,k5,tk5⟩,hR _ _ ?_⟩;clear hK K hR R
   have hR4:=hR5
   have k4:=k5
   have tk:=tk5
   clear hR5 k5 tk5
   clear u4
   repeat (refine zeX (fun R hR=>?_);(first|refine zaX (by first|rfl|(rw[HO.out];rfl)) (by simp only[zA,zB,zC,zD];rfl) ?_|refine zbX (by first|rfl|(rw[HO.out];rfl)) rfl (by first|exact .inl rfl|exact .inr rfl) (by simp only[zE,zF,zG,zH];rfl) (by simp only[zA,zB,zC,zD];rfl) ?_|refine zcX (by first|rfl|(rw[HO.out];rfl)) rfl rfl (by simp only[zE,zF,zG,zH];rfl) (by simp only[zA,zB,zC,zD];rfl) ?_|(refine zdX (by first|rfl|(rw[HO.out];rfl)) rfl rfl rfl ?_;apply zEx;apply zEx;refine⟨fun w' hS K hK=>?_,?_,?_⟩;(focus (obtain⟨⟨hS1,hS2,hS3,hS4⟩,hS5,hS6⟩:=hS;go_wp2;exact hK _ _ (by simp only[zl,zG,zH];first|exact zf (by omega)|exact zg (by omega)|exact zh (by omega)|exact zi (by omega)|exact zj (by omega)|exact zk (by omega)|exact RX.bneB _|rfl) rfl));(focus (simp only[zA,zB,zC,zD];rfl))));refine hR _ _ ?_;clear hR R)
   refine RX.wpL_nil (hQR _ _ (⟨hR4,k4,tk⟩) ?_);clear hQR QR HO OPS
   clear hR4 k4 tk HX7 HZ7 HGS
   go_wp2
   go_roundw
   case rel=>exact⟨k+1,by omega,by go_num,hb⟩
   case measure=>simp[intOf];omega
  ·have hdk:decide ((k:Int) < (S.rows.length:Int))=false:=zDf (by omega)
   obtain rfl:k=S.rows.length:=by omega
   have hP:=HP.out.below hb
   have hB:=HB.out.trans (hb.mono HB.out.size)
   have HSO7:=zN (HSO.out.grown (grw_below hb none) (fun k hk=>by cases hk))
   have HC7:=zN (HC6.out.below hb)
   have HX7:=zN (HX0.out.below hb)
   have hbw7:Bs≤wr.heap.size:=by have:=hb.size;omega
   clear HP HSO HC6 HX0 HZ0 HB HRO hdk hb HSI hk hPl hbw
   go_wp2
   refine RX.region RX.fL (fun w'=>Five w' P S.f S.s S.a (.slice p1 S.rows.length d1) (.slice p2 S.targets.length d2)) (by kernel_rfl) (by kernel_rfl) (hP) (fun OPS HO QR hQR=>?_)
   repeat (refine zeX (fun R hR=>?_);(first|refine zaX (by first|rfl|(rw[HO.out];rfl)) (by simp only[zA,zB,zC,zD];rfl) ?_|refine zbX (by first|rfl|(rw[HO.out];rfl)) rfl (by first|exact .inl rfl|exact .inr rfl) (by simp only[zE,zF,zG,zH];rfl) (by simp only[zA,zB,zC,zD];rfl) ?_|refine zcX (by first|rfl|(rw[HO.out];rfl)) rfl rfl (by simp only[zE,zF,zG,zH];rfl) (by simp only[zA,zB,zC,zD];rfl) ?_|(refine zdX (by first|rfl|(rw[HO.out];rfl)) rfl rfl rfl ?_;apply zEx;apply zEx;refine⟨fun w' hS K hK=>?_,?_,?_⟩;(focus (obtain⟨y0,y1,y2,y3,y4⟩:=hS;go_wp2;exact hK _ _ (by simp only[zl,zG,zH];first|exact zf (by omega)|exact zg (by omega)|exact zh (by omega)|exact zi (by omega)|exact zj (by omega)|exact zk (by omega)|exact RX.bneB _|rfl) rfl));(focus (simp only[zA,zB,zC,zD];rfl))));refine hR _ _ ?_;clear hR R)
   refine zeX (fun R hR=>?_)
   refine zgX (by first|rfl|(rw[HO.out];rfl)) rfl (fun K hK=>?_)
   go_wp2_with fail
   have hdr:Hid (SysOwn wr.drew Bs (.agg #[.int .i64 S.f,.int .i64 S.s,.int .i64 S.a,.slice p1 S.rows.length d1,.slice p2 S.targets.length d2]) S):=zN (HSO7.out.grown (grw_drew (grw_refl wr none)) (fun k hk=>by cases hk))
   refine (spoilsys_any wr.drew g b M j6 (HC7.out.below (by repeat (first|(with_reducible first|assumption|exact zBr _ _|refine zBs ?_ (by first|omega|(simp<;>omega)) _|refine zBa ?_ (by first|omega|(simp<;>omega)) _|apply zBd)|assumption))) _ S Bs 840 hdr.out hgb hbw7 (by have:=HSR.out;omega) (by have:=HSR.out;have:=hSt.out;omega) hS8.out (by omega)).mono ?_
   rintro e w7 ⟨va,Sa,rfl,hSa,hra,hta,hsa,hg7,j7,hC7⟩
   replace hg7:wr.grownBy w7 (some g):=⟨hg7.os,hg7.tape,hg7.output,hg7.size,hg7.block⟩
   replace hB:=hB.grown hg7 hB.size (fun k hk=>by injection hk with hk;omega)
   replace hP:=hP.turn hg7 hPg2
   have HSO8:=zN (HSO7.out.grown hg7 (fun k hk=>by injection hk with hk;omega))
   have hVx7:VecAt w7 (some ⟨bx,0,none⟩) x:=by
    refine⟨bx,0,fun _=>rfl,fun j hj=>?_⟩
    rw[Nat.zero_add]
    exact hg7.cell (HX7.out.at0 hj) (by simp;omega)
   have HX8:=zN hVx7
   have HSa:=zN hSa
   have HLa:=zN (And.intro hra (And.intro hta hsa))
   obtain⟨p5,d5,p6,d6,rfl,-⟩:=hSa.sysin
   clear hg7 hSa hra hta hsa hdr HSO7 HX7 hC7 hVx7 hbw7 HC7
   refine hK _ _ ⟨hP,hR _ _ ?_⟩;clear hK K hR R
   clear wr
   repeat (refine zeX (fun R hR=>?_);(first|refine zaX (by first|rfl|(rw[HO.out];rfl)) (by simp only[zA,zB,zC,zD];rfl) ?_|refine zbX (by first|rfl|(rw[HO.out];rfl)) rfl (by first|exact .inl rfl|exact .inr rfl) (by simp only[zE,zF,zG,zH];rfl) (by simp only[zA,zB,zC,zD];rfl) ?_|refine zcX (by first|rfl|(rw[HO.out];rfl)) rfl rfl (by simp only[zE,zF,zG,zH];rfl) (by simp only[zA,zB,zC,zD];rfl) ?_|(refine zdX (by first|rfl|(rw[HO.out];rfl)) rfl rfl rfl ?_;apply zEx;apply zEx;refine⟨fun w' hS K hK=>?_,?_,?_⟩;(focus (obtain⟨y0,y1,y2,y3,y4⟩:=hS;go_wp2;exact hK _ _ (by simp only[zl,zG,zH];first|exact zf (by omega)|exact zg (by omega)|exact zh (by omega)|exact zi (by omega)|exact zj (by omega)|exact zk (by omega)|exact RX.bneB _|rfl) rfl));(focus (simp only[zA,zB,zC,zD];rfl))));refine hR _ _ ?_;clear hR R)
   refine zeX (fun R hR=>?_)
   refine zgX (by first|rfl|(rw[HO.out];rfl)) rfl (fun K hK=>?_)
   go_wp2
   refine⟨hP.below (by repeat (first|(with_reducible first|assumption|exact zBr _ _|refine zBs ?_ (by first|omega|(simp<;>omega)) _|refine zBa ?_ (by first|omega|(simp<;>omega)) _|apply zBd)|assumption)),hR _ _ ?_⟩;clear hR R
   repeat (refine zeX (fun R hR=>?_);(first|refine zaX (by first|rfl|(rw[HO.out];rfl)) (by simp only[zA,zB,zC,zD];rfl) ?_|refine zbX (by first|rfl|(rw[HO.out];rfl)) rfl (by first|exact .inl rfl|exact .inr rfl) (by simp only[zE,zF,zG,zH];rfl) (by simp only[zA,zB,zC,zD];rfl) ?_|refine zcX (by first|rfl|(rw[HO.out];rfl)) rfl rfl (by simp only[zE,zF,zG,zH];rfl) (by simp only[zA,zB,zC,zD];rfl) ?_|(refine zdX (by first|rfl|(rw[HO.out];rfl)) rfl rfl rfl ?_;apply zEx;apply zEx;refine⟨fun w' hS K hK=>?_,?_,?_⟩;(focus (obtain⟨y0,y1,y2,y3,y4⟩:=hS;go_wp2;exact hK _ _ (by simp only[zl,zG,zH];first|exact zf (by omega)|exact zg (by omega)|exact zh (by omega)|exact zi (by omega)|exact zj (by omega)|exact zk (by omega)|exact RX.bneB _|rfl) rfl));(focus (simp only[zA,zB,zC,zD];rfl))));refine hR _ _ ?_;clear hR R)
   refine RX.wpL_nil (hQR _ _ (hP.below (by repeat (first|(with_reducible first|assumption|exact zBr _ _|refine zBs ?_ (by first|omega|(simp<;>omega)) _|refine zBa ?_ (by first|omega|(simp<;>omega)) _|apply zBd)|assumption))) ?_);clear hQR QR HO OPS
   have hb8:Below w7.heap.size w7 (w7.alloc (.cells #[.int .i64 S.f,.int .i64 S.s,.int .i64 S.a,.slice p1 S.rows.length d1,.slice p2 S.targets.length d2,.int .i64 Sa.f,.int .i64 Sa.s,.int .i64 Sa.a,.slice p5 Sa.rows.length d5,.slice p6 Sa.targets.length d6] 27)):=(by repeat (first|(with_reducible first|assumption|exact zBr _ _|refine zBs ?_ (by first|omega|(simp<;>omega)) _|refine zBa ?_ (by first|omega|(simp<;>omega)) _|apply zBd)|assumption))
   have hA:∀ k,k < 2→SAt (w7.alloc (.cells #[.int .i64 S.f,.int .i64 S.s,.int .i64 S.a,.slice p1 S.rows.length d1,.slice p2 S.targets.length d2,.int .i64 Sa.f,.int .i64 Sa.s,.int .i64 Sa.a,.slice p5 Sa.rows.length d5,.slice p6 Sa.targets.length d6] 27)) w7.heap.size k:=fun k hk=>by
    match k,hk with
    |0,_=>exact⟨S,p1,d1,p2,d2,⟨(by simp[zO,zJ,zQ]),(by simp[zO,zJ,zQ]),(by simp[zO,zJ,zQ]),(by simp[zO,zJ,zQ]),(by simp[zO,zJ,zQ])⟩,HSO8.out.sysin.below hb8,by have:=HSR.out;omega,by have:=HSR.out;have:=hSt.out;omega,fun r hr=>by have:=hS8.out r hr;omega⟩
    |1,_=>exact⟨Sa,p5,d5,p6,d6,⟨(by simp[zO,zJ,zQ]),(by simp[zO,zJ,zQ]),(by simp[zO,zJ,zQ]),(by simp[zO,zJ,zQ]),(by simp[zO,zJ,zQ])⟩,HSa.out.sysin.below hb8,by have:=HSR.out;have:=HLa.out.1;omega,by have:=HSR.out;have:=hSt.out;have:=HLa.out.2.1;omega,fun r hr=>by have:=HLa.out.2.2 r hr;omega⟩
    |k+2,hk=>omega
   have HA:=zN hA
   replace hB:=hB.trans (hb8.mono hB.size)
   have HX9:=zN (HX8.out.below hb8)
   clear hA hP HSO8 HSa HLa HX8 hb8
   obtain⟨A,hAe⟩:∃ A,A=w7.heap.size:=⟨_,rfl⟩
   rw[←hAe] at HA ⊢
   clear hAe
   generalize (w7.alloc (.cells #[.int .i64 S.f,.int .i64 S.s,.int .i64 S.a,.slice p1 S.rows.length d1,.slice p2 S.targets.length d2,.int .i64 Sa.f,.int .i64 Sa.s,.int .i64 Sa.a,.slice p5 Sa.rows.length d5,.slice p6 Sa.targets.length d6] 27))=W8 at *
   clear w7
   have HB8:=zN hB
   clear hB
   go_wp2
   go_loopw [109] (fun i wr=>∃ k:Nat,k≤2∧i=.int .i64 k∧Below W8.heap.size W8 wr) (fun i _=>2-(intOf i).toNat)
   case atStart=>exact⟨0,by omega,rfl,zBr _ _⟩
   case round=>
    obtain⟨k,hk,rfl,hb⟩:=hrel
    by_cases hlt:k < 2
    ·obtain⟨Sk,p,c,p',c',⟨k0,k1,k2,k3,k4⟩,hin,hln⟩:=(HA.out k hlt).below hb
     have hk0:(0:Int)≤(k:Int):=by omega
     have hk4:(k:Int) < 2:=by omega
     have HIN:=zN hin
     have hx1:decide ((x.length:Int) < 1)=false:=zDf (by omega)
     have hnx:(1:Int)≤(n:Int):=by omega
     have hxc1:n≤cx:=by have:=HCX.out;omega
     clear hin
     go_wp2
     clear k0 k1 k2 k3 k4
     have hb9:Below wr.heap.size wr ((wr.alloc (.cells #[.int .i64 Sk.f,.int .i64 Sk.s,.int .i64 Sk.a,.slice p Sk.rows.length c,.slice p' Sk.targets.length c'] 27)).alloc (.cells #[.slice (some ⟨bx,0,none⟩) n cx,.slice q1 O.length cap1,.slice (some ⟨bx,1,none⟩) (n-1) (cx-1)] 25)):=((zBr wr.heap.size wr).alloc (Nat.le_refl _) _).alloc (by simp) _
     have h5:Five ((wr.alloc (.cells #[.int .i64 Sk.f,.int .i64 Sk.s,.int .i64 Sk.a,.slice p Sk.rows.length c,.slice p' Sk.targets.length c'] 27)).alloc (.cells #[.slice (some ⟨bx,0,none⟩) n cx,.slice q1 O.length cap1,.slice (some ⟨bx,1,none⟩) (n-1) (cx-1)] 25)) wr.heap.size Sk.f Sk.s Sk.a (.slice p Sk.rows.length c) (.slice p' Sk.targets.length c'):=⟨(by simp[zO,zJ,zQ]),(by simp[zO,zJ,zQ]),(by simp[zO,zJ,zQ]),(by simp[zO,zJ,zQ]),(by simp[zO,zJ,zQ])⟩
     have hVw:VecAt wr (some ⟨bx,0,none⟩) x:=HX9.out.below hb
     have hVO:VecAt wr q1 O:=HVO.out.1.below (HB8.out.trans (hb.mono HB8.out.size))
     have hVA:∀ j,j < 3→VAt ((wr.alloc (.cells #[.int .i64 Sk.f,.int .i64 Sk.s,.int .i64 Sk.a,.slice p Sk.rows.length c,.slice p' Sk.targets.length c'] 27)).alloc (.cells #[.slice (some ⟨bx,0,none⟩) n cx,.slice q1 O.length cap1,.slice (some ⟨bx,1,none⟩) (n-1) (cx-1)] 25)) (wr.heap.size+1) j:=fun j hj=>by
      match j,hj with
      |0,_=>exact⟨some ⟨bx,0,none⟩,cx,x,by rw[HXL.out,←HN.out];exact (by simp[zO,zJ,zQ]),by omega,hVw.below hb9,by omega,HXI.out⟩
      |1,_=>exact⟨q1,cap1,O,(by simp[zO,zJ,zQ]),hl1,hVO.below hb9,by omega,HVO.out.2⟩
      |2,_=>exact⟨some ⟨bx,1,none⟩,cx-1,x.drop 1,by rw[List.length_drop,HXL.out,←HN.out];exact (by simp[zO,zJ,zQ]),by rw[List.length_drop];omega,(hVw.dropI 1).below hb9,by rw[List.length_drop];omega,fun y hy=>HXI.out y (List.mem_of_mem_drop hy)⟩
      |j+3,hj=>omega
     have HVA:=zN hVA
     have hSI:=HIN.out.below hb9
     replace hb:=hb.trans (hb9.mono hb.size)
     obtain⟨Q,hQ⟩:∃ Q,Q=wr.heap.size:=⟨_,rfl⟩
     rw[←hQ] at h5 HVA ⊢
     clear hQ hb9 HIN hVA hVw hVO
     generalize ((wr.alloc (.cells #[.int .i64 Sk.f,.int .i64 Sk.s,.int .i64 Sk.a,.slice p Sk.rows.length c,.slice p' Sk.targets.length c'] 27)).alloc (.cells #[.slice (some ⟨bx,0,none⟩) n cx,.slice q1 O.length cap1,.slice (some ⟨bx,1,none⟩) (n-1) (cx-1)] 25))=W9 at *
     clear wr
     have HP5:=zN h5
     have HSI:=zN hSI
     have HB9:=zN hb
     have HLN:=zN hln
     clear h5 hSI hb hln
     go_loopw [119] (fun i wr=>∃ j:Nat,j≤3∧i=.int .i64 j∧Below W9.heap.size W9 wr) (fun i _=>3-(intOf i).toNat)
     case atStart=>exact⟨0,by omega,rfl,zBr _ _⟩
     case round=>
      obtain⟨j,hj,rfl,hb⟩:=hrel
      have hP:=HP5.out.below hb
      have hSI:=HSI.out.below hb
      have hTb:HasTab wr:=HTB.out.below ((HB8.out.trans (HB9.out.mono HB8.out.size)).trans (hb.mono (by have:=HB8.out.size;have:=HB9.out.size;omega)))
      by_cases hltj:j < 3
      ·obtain⟨pz,cz',z,hz0,hzc,hzV,hzl,hzI⟩:=(HVA.out j hltj).below hb
       have hj0:(0:Int)≤(j:Int):=by omega
       have hjI:(j:Int) < 3:=by omega
       have hRz:RdI wr (.slice pz z.length cz') z:=⟨pz,cz',rfl,hzc,hzV⟩
       have HK:Hid (∀ w',HasTab w'→SysIn w' (.agg #[.int .i64 Sk.f,.int .i64 Sk.s,.int .i64 Sk.a,.slice p Sk.rows.length c,.slice p' Sk.targets.length c']) Sk→RdI w' (.slice pz z.length cz') z→(Calls Tryz.prog 25 #[.agg #[.int .i64 Sk.f,.int .i64 Sk.s,.int .i64 Sk.a,.slice p Sk.rows.length c,.slice p' Sk.targets.length c'],.slice pz z.length cz'] w' fun e w''=>e=.returned (.tuple #[wv (costV Sk z),.int .i64 (sxErr Sk z)])∧Below w'.heap.size w' w'')∧(Calls Tryz.prog 26 #[.agg #[.int .i64 Sk.f,.int .i64 Sk.s,.int .i64 Sk.a,.slice p Sk.rows.length c,.slice p' Sk.targets.length c'],.slice pz z.length cz'] w' fun e w''=>e=.returned (.tuple #[wv (costV Sk z),.int .i64 (sxErr Sk z)])∧Below w'.heap.size w' w'')∧(Calls Tryz.prog 21 #[.agg #[.int .i64 Sk.f,.int .i64 Sk.s,.int .i64 Sk.a,.slice p Sk.rows.length c,.slice p' Sk.targets.length c'],.slice pz z.length cz'] w' fun e w''=>∃ zz,e=.returned (.tuple #[zz,.int .i64 (sxErr Sk z)])∧RdI w'' zz (multV Sk z)∧Below w'.heap.size w' w'')∧(Calls Tryz.prog 27 #[.agg #[.int .i64 Sk.f,.int .i64 Sk.s,.int .i64 Sk.a,.slice p Sk.rows.length c,.slice p' Sk.targets.length c'],.slice pz z.length cz'] w' fun e w''=>∃ zz,e=.returned (.tuple #[zz,.int .i64 (sxErr Sk z)])∧RdI w'' zz (multV Sk z)∧Below w'.heap.size w' w'')∧(Calls Tryz.prog 28 #[.agg #[.int .i64 Sk.f,.int .i64 Sk.s,.int .i64 Sk.a,.slice p Sk.rows.length c,.slice p' Sk.targets.length c'],.slice pz z.length cz'] w' fun e w''=>∃ zz,e=.returned (.tuple #[zz,.int .i64 (sxErr Sk z)])∧RdI w'' zz (resV Sk z)∧Below w'.heap.size w' w'')∧(Calls Tryz.prog 29 #[.agg #[.int .i64 Sk.f,.int .i64 Sk.s,.int .i64 Sk.a,.slice p Sk.rows.length c,.slice p' Sk.targets.length c'],.slice pz z.length cz'] w' fun e w''=>∃ zz,e=.returned (.tuple #[zz,.int .i64 (sxErr Sk z)])∧RdI w'' zz (resV Sk z)∧Below w'.heap.size w' w'')):=zN (fun w' h1 h2 h3=>⟨ccostA Sk _ _ z w' h1 h2 HLN.out h3 (by omega),rcostA Sk _ _ z w' h2 HLN.out h3 (by omega) hzI,cmultA Sk _ _ z w' h1 h2 HLN.out h3 (by omega),rmultA Sk _ _ z w' h2 HLN.out h3 (by omega) hzI,cresidA Sk _ _ z w' h1 h2 HLN.out h3 (by omega),rresidA Sk _ _ z w' h2 HLN.out h3 (by omega) hzI⟩)
       have HML:=zN (multV_len Sk z)
       have HRL:=zN (resV_len Sk z)
       obtain⟨E,hE⟩:∃ E,E=sxErr Sk z:=⟨_,rfl⟩
       obtain⟨Mz,hMz⟩:∃ Mz,Mz=multV Sk z:=⟨_,rfl⟩
       obtain⟨Rz,hRzz⟩:∃ Rz,Rz=resV Sk z:=⟨_,rfl⟩
       obtain⟨C,D,q1',q2',hWV⟩:=wv_parts (costV Sk z)
       rw[hWV,←hE,←hMz,←hRzz] at HK
       rw[←hMz] at HML
       rw[←hRzz] at HRL
       clear hE hMz hRzz hWV q1' q2' hzV hzI
       obtain⟨k0,k1,k2,k3,k4⟩:=hP
       go_wp2_with fail
       have hP:Five wr Q Sk.f Sk.s Sk.a (.slice p Sk.rows.length c) (.slice p' Sk.targets.length c'):=⟨k0,k1,k2,k3,k4⟩
       clear k0 k1 k2 k3 k4 hz0
       refine ((HK.out _ hTb hSI hRz).1).mono ?_
       rintro e u0 ⟨rfl,hbm⟩
       replace hP:=hP.below hbm
       replace hSI:=hSI.below hbm
       replace hTb:=hTb.below hbm
       replace hRz:=hRz.below hbm
       replace hb:=hb.trans (hbm.mono hb.size)
       clear hbm
       have t1:Duo (u0.alloc (.cells #[.int .i64 C,.int .u64 D] 56)) u0.heap.size C D:=⟨(by simp[zO,zJ,zQ]),(by simp[zO,zJ,zQ])⟩
       have hbm:=(zBr u0.heap.size u0).alloc (Nat.le_refl _) (.cells #[.int .i64 C,.int .u64 D] 56)
       replace hP:=hP.below hbm
       replace hSI:=hSI.below hbm
       replace hTb:=hTb.below hbm
       replace hRz:=hRz.below hbm
       replace hb:=hb.trans (hbm.mono hb.size)
       clear hbm
       obtain⟨k0,k1,k2,k3,k4⟩:=hP
       go_wp2_with fail
       have hP:Five (u0.alloc (.cells #[.int .i64 C,.int .u64 D] 56)) Q Sk.f Sk.s Sk.a (.slice p Sk.rows.length c) (.slice p' Sk.targets.length c'):=⟨k0,k1,k2,k3,k4⟩
       clear k0 k1 k2 k3 k4
       obtain⟨g1,hgi⟩:∃ g,g=u0.heap.size:=⟨_,rfl⟩
       rw[←hgi] at t1 ⊢
       clear hgi
       generalize (u0.alloc (.cells #[.int .i64 C,.int .u64 D] 56))=Yw1 at *
       clear u0
       refine ((HK.out _ hTb hSI hRz).2.1).mono ?_
       rintro e u1 ⟨rfl,hbm⟩
       replace hP:=hP.below hbm
       replace hSI:=hSI.below hbm
       replace hTb:=hTb.below hbm
       replace hRz:=hRz.below hbm
       replace t1:=t1.below hbm
       replace hb:=hb.trans (hbm.mono hb.size)
       clear hbm
       have t2:Duo (u1.alloc (.cells #[.int .i64 C,.int .u64 D] 56)) u1.heap.size C D:=⟨(by simp[zO,zJ,zQ]),(by simp[zO,zJ,zQ])⟩
       have hbm:=(zBr u1.heap.size u1).alloc (Nat.le_refl _) (.cells #[.int .i64 C,.int .u64 D] 56)
       replace hP:=hP.below hbm
       replace hSI:=hSI.below hbm
       replace hTb:=hTb.below hbm
       replace hRz:=hRz.below hbm
       replace t1:=t1.below hbm
       replace hb:=hb.trans (hbm.mono hb.size)
       clear hbm
       obtain⟨k0,k1,k2,k3,k4⟩:=hP
       go_wp2_with fail
       have hP:Five (u1.alloc (.cells #[.int .i64 C,.int .u64 D] 56)) Q Sk.f Sk.s Sk.a (.slice p Sk.rows.length c) (.slice p' Sk.targets.length c'):=⟨k0,k1,k2,k3,k4⟩
       clear k0 k1 k2 k3 k4
       obtain⟨g2,hgi⟩:∃ g,g=u1.heap.size:=⟨_,rfl⟩
       rw[←hgi] at t2 ⊢
       clear hgi
       generalize (u1.alloc (.cells #[.int .i64 C,.int .u64 D] 56))=Yw2 at *
       clear u1
       refine ((HK.out _ hTb hSI hRz).2.2.1).mono ?_
       rintro e Yw3 ⟨za1,rfl,a1,hbm⟩
       replace hP:=hP.below hbm
       replace hSI:=hSI.below hbm
       replace hTb:=hTb.below hbm
       replace hRz:=hRz.below hbm
       replace t1:=t1.below hbm
       replace t2:=t2.below hbm
       replace hb:=hb.trans (hbm.mono hb.size)
       clear hbm
       obtain⟨pa1,ca1,rfl,ha1,va1⟩:=a1
       have a1:RdI Yw3 (.slice pa1 Mz.length ca1) Mz:=⟨pa1,ca1,rfl,ha1,va1⟩
       clear ha1 va1
       obtain⟨k0,k1,k2,k3,k4⟩:=hP
       go_wp2_with fail
       have hP:Five Yw3 Q Sk.f Sk.s Sk.a (.slice p Sk.rows.length c) (.slice p' Sk.targets.length c'):=⟨k0,k1,k2,k3,k4⟩
       clear k0 k1 k2 k3 k4
       clear Yw2
       refine ((HK.out _ hTb hSI hRz).2.2.2.1).mono ?_
       rintro e Yw4 ⟨za2,rfl,a2,hbm⟩
       replace hP:=hP.below hbm
       replace hSI:=hSI.below hbm
       replace hTb:=hTb.below hbm
       replace hRz:=hRz.below hbm
       replace t1:=t1.below hbm
       replace t2:=t2.below hbm
       replace a1:=a1.below hbm
       replace hb:=hb.trans (hbm.mono hb.size)
       clear hbm
       obtain⟨pa2,ca2,rfl,ha2,va2⟩:=a2
       have a2:RdI Yw4 (.slice pa2 Mz.length ca2) Mz:=⟨pa2,ca2,rfl,ha2,va2⟩
       clear ha2 va2
       obtain⟨k0,k1,k2,k3,k4⟩:=hP
       go_wp2_with fail
       have hP:Five Yw4 Q Sk.f Sk.s Sk.a (.slice p Sk.rows.length c) (.slice p' Sk.targets.length c'):=⟨k0,k1,k2,k3,k4⟩
       clear k0 k1 k2 k3 k4
       clear Yw3
       refine ((HK.out _ hTb hSI hRz).2.2.2.2.1).mono ?_
       rintro e Yw5 ⟨za3,rfl,a3,hbm⟩
       replace hP:=hP.below hbm
       replace hSI:=hSI.below hbm
       replace hTb:=hTb.below hbm
       replace hRz:=hRz.below hbm
       replace t1:=t1.below hbm
       replace t2:=t2.below hbm
       replace a1:=a1.below hbm
       replace a2:=a2.below hbm
       replace hb:=hb.trans (hbm.mono hb.size)
       clear hbm
       obtain⟨pa3,ca3,rfl,ha3,va3⟩:=a3
       have a3:RdI Yw5 (.slice pa3 Rz.length ca3) Rz:=⟨pa3,ca3,rfl,ha3,va3⟩
       clear ha3 va3
       obtain⟨k0,k1,k2,k3,k4⟩:=hP
       go_wp2_with fail
       have hP:Five Yw5 Q Sk.f Sk.s Sk.a (.slice p Sk.rows.length c) (.slice p' Sk.targets.length c'):=⟨k0,k1,k2,k3,k4⟩
       clear k0 k1 k2 k3 k4
       clear Yw4
       refine ((HK.out _ hTb hSI hRz).2.2.2.2.2).mono ?_
       rintro e Yw6 ⟨za4,rfl,a4,hbm⟩
       replace hP:=hP.below hbm
       replace hSI:=hSI.below hbm
       replace hTb:=hTb.below hbm
       replace hRz:=hRz.below hbm
       replace t1:=t1.below hbm
       replace t2:=t2.below hbm
       replace a1:=a1.below hbm
       replace a2:=a2.below hbm
       replace a3:=a3.below hbm
       replace hb:=hb.trans (hbm.mono hb.size)
       clear hbm
       obtain⟨pa4,ca4,rfl,ha4,va4⟩:=a4
       have a4:RdI Yw6 (.slice pa4 Rz.length ca4) Rz:=⟨pa4,ca4,rfl,ha4,va4⟩
       clear ha4 va4
       clear Yw5
       clear hP hSI hTb hRz HK
       obtain⟨x1,x2⟩:=t1
       obtain⟨x3,x4⟩:=t2
       go_wp2_with fail
       refine (kints_sameA _ _ Mz Yw6 a1 a2 HML.out).mono ?_
       rintro e Yw7 ⟨rfl,hbm⟩
       replace a3:=a3.below hbm
       replace a4:=a4.below hbm
       replace hb:=hb.trans (hbm.mono hb.size)
       clear hbm a1 a2 x1 x2 x3 x4
       go_wp2_with fail
       refine (kints_sameA _ _ Rz _ a3 a4 HRL.out).mono ?_
       rintro e Yw8 ⟨rfl,hbm⟩
       replace hb:=hb.trans (hbm.mono hb.size)
       clear hbm a3 a4
       go_wp2
       go_roundw
       case rel=>exact⟨j+1,by omega,by go_num,hb⟩
       case measure=>simp[intOf];omega
      ·have hdj:decide ((j:Int) < 3)=false:=zDf (by omega)
       have HK:Hid (∀ w',HasTab w'→SysIn w' (.agg #[.int .i64 Sk.f,.int .i64 Sk.s,.int .i64 Sk.a,.slice p Sk.rows.length c,.slice p' Sk.targets.length c']) Sk→(Calls Tryz.prog 31 #[.agg #[.int .i64 Sk.f,.int .i64 Sk.s,.int .i64 Sk.a,.slice p Sk.rows.length c,.slice p' Sk.targets.length c']] w' fun e w''=>∃ zz,e=.returned (.tuple #[zz,.int .i64 (sysErr Sk)])∧RdI w'' zz (rightV Sk)∧Below w'.heap.size w' w'')∧(Calls Tryz.prog 32 #[.agg #[.int .i64 Sk.f,.int .i64 Sk.s,.int .i64 Sk.a,.slice p Sk.rows.length c,.slice p' Sk.targets.length c']] w' fun e w''=>∃ zz,e=.returned (.tuple #[zz,.int .i64 (sysErr Sk)])∧RdI w'' zz (rightV Sk)∧Below w'.heap.size w' w'')∧(Calls Tryz.prog 33 #[.agg #[.int .i64 Sk.f,.int .i64 Sk.s,.int .i64 Sk.a,.slice p Sk.rows.length c,.slice p' Sk.targets.length c']] w' fun e w''=>∃ zz,e=.returned (.tuple #[zz,.int .i64 (sysErr Sk)])∧RdI w'' zz (diagV Sk)∧Below w'.heap.size w' w'')∧(Calls Tryz.prog 34 #[.agg #[.int .i64 Sk.f,.int .i64 Sk.s,.int .i64 Sk.a,.slice p Sk.rows.length c,.slice p' Sk.targets.length c']] w' fun e w''=>∃ zz,e=.returned (.tuple #[zz,.int .i64 (sysErr Sk)])∧RdI w'' zz (diagV Sk)∧Below w'.heap.size w' w'')):=zN (fun w' h1 h2=>⟨crightA Sk _ w' h2 HLN.out,rrightA Sk _ w' h2 HLN.out,cdiagA Sk _ w' h1 h2 HLN.out,rdiagA Sk _ w' h2 HLN.out⟩)
       have HML:=zN (rightV_len Sk)
       have HRL:=zN (diagV_len Sk)
       obtain⟨E,hE⟩:∃ E,E=sysErr Sk:=⟨_,rfl⟩
       obtain⟨Mz,hMz⟩:∃ Mz,Mz=rightV Sk:=⟨_,rfl⟩
       obtain⟨Rz,hRzz⟩:∃ Rz,Rz=diagV Sk:=⟨_,rfl⟩
       rw[←hE,←hMz,←hRzz] at HK
       rw[←hMz] at HML
       rw[←hRzz] at HRL
       clear hE hMz hRzz
       obtain⟨k0,k1,k2,k3,k4⟩:=hP
       go_wp2_with fail
       have hP:Five wr Q Sk.f Sk.s Sk.a (.slice p Sk.rows.length c) (.slice p' Sk.targets.length c'):=⟨k0,k1,k2,k3,k4⟩
       clear k0 k1 k2 k3 k4
       refine ((HK.out _ hTb hSI).1).mono ?_
       rintro e Yw1 ⟨za1,rfl,a1,hbm⟩
       replace hP:=hP.below hbm
       replace hSI:=hSI.below hbm
       replace hTb:=hTb.below hbm
       replace hb:=hb.trans (hbm.mono hb.size)
       clear hbm
       obtain⟨pa1,ca1,rfl,ha1,va1⟩:=a1
       have a1:RdI Yw1 (.slice pa1 Mz.length ca1) Mz:=⟨pa1,ca1,rfl,ha1,va1⟩
       clear ha1 va1
       obtain⟨k0,k1,k2,k3,k4⟩:=hP
       go_wp2_with fail
       have hP:Five Yw1 Q Sk.f Sk.s Sk.a (.slice p Sk.rows.length c) (.slice p' Sk.targets.length c'):=⟨k0,k1,k2,k3,k4⟩
       clear k0 k1 k2 k3 k4
       clear wr
       refine ((HK.out _ hTb hSI).2.1).mono ?_
       rintro e Yw2 ⟨za2,rfl,a2,hbm⟩
       replace hP:=hP.below hbm
       replace hSI:=hSI.below hbm
       replace hTb:=hTb.below hbm
       replace a1:=a1.below hbm
       replace hb:=hb.trans (hbm.mono hb.size)
       clear hbm
       obtain⟨pa2,ca2,rfl,ha2,va2⟩:=a2
       have a2:RdI Yw2 (.slice pa2 Mz.length ca2) Mz:=⟨pa2,ca2,rfl,ha2,va2⟩
       clear ha2 va2
       obtain⟨k0,k1,k2,k3,k4⟩:=hP
       go_wp2_with fail
       have hP:Five Yw2 Q Sk.f Sk.s Sk.a (.slice p Sk.rows.length c) (.slice p' Sk.targets.length c'):=⟨k0,k1,k2,k3,k4⟩
       clear k0 k1 k2 k3 k4
       clear Yw1
       refine ((HK.out _ hTb hSI).2.2.1).mono ?_
       rintro e Yw3 ⟨za3,rfl,a3,hbm⟩
       replace hP:=hP.below hbm
       replace hSI:=hSI.below hbm
       replace hTb:=hTb.below hbm
       replace a1:=a1.below hbm
       replace a2:=a2.below hbm
       replace hb:=hb.trans (hbm.mono hb.size)
       clear hbm
       obtain⟨pa3,ca3,rfl,ha3,va3⟩:=a3
       have a3:RdI Yw3 (.slice pa3 Rz.length ca3) Rz:=⟨pa3,ca3,rfl,ha3,va3⟩
       clear ha3 va3
       obtain⟨k0,k1,k2,k3,k4⟩:=hP
       go_wp2_with fail
       have hP:Five Yw3 Q Sk.f Sk.s Sk.a (.slice p Sk.rows.length c) (.slice p' Sk.targets.length c'):=⟨k0,k1,k2,k3,k4⟩
       clear k0 k1 k2 k3 k4
       clear Yw2
       refine ((HK.out _ hTb hSI).2.2.2).mono ?_
       rintro e Yw4 ⟨za4,rfl,a4,hbm⟩
       replace hP:=hP.below hbm
       replace hSI:=hSI.below hbm
       replace hTb:=hTb.below hbm
       replace a1:=a1.below hbm
       replace a2:=a2.below hbm
       replace a3:=a3.below hbm
       replace hb:=hb.trans (hbm.mono hb.size)
       clear hbm
       obtain⟨pa4,ca4,rfl,ha4,va4⟩:=a4
       have a4:RdI Yw4 (.slice pa4 Rz.length ca4) Rz:=⟨pa4,ca4,rfl,ha4,va4⟩
       clear ha4 va4
       clear Yw3
       clear hP hSI hTb HK
       go_wp2_with fail
       refine (kints_sameA _ _ Mz Yw4 a1 a2 HML.out).mono ?_
       rintro e Yw5 ⟨rfl,hbm⟩
       replace a3:=a3.below hbm
       replace a4:=a4.below hbm
       replace hb:=hb.trans (hbm.mono hb.size)
       clear hbm a1 a2
       go_wp2_with fail
       refine (kints_sameA _ _ Rz _ a3 a4 HRL.out).mono ?_
       rintro e Yw6 ⟨rfl,hbm⟩
       replace hb:=hb.trans (hbm.mono hb.size)
       clear hbm a3 a4
       have hb9:=HB9.out.trans (hb.mono HB9.out.size)
       clear hb
       go_wp2
       go_roundw
       case rel=>exact⟨k+1,by omega,by go_num,hb9⟩
       case measure=>simp[intOf];omega
    ·have hdk:decide ((k:Int) < 2)=false:=zDf (by omega)
     have HBF:=zN (HB8.out.trans (hb.mono HB8.out.size))
     clear hb
     go_wp2
     refine bodyPost_ret (v:=.bool true) ?_ rfl ⟨rfl,HBF.out⟩
     simp[results,Tryz.results5,go_sem]
end Go.Proofs.YtojkamfabapcoaaGreatDoor
