import Derived.Test.YtojkamfabapcoaaGreatDoorKCert
import Derived.Test.YtojkamfabapcoaaGreatDoorKSpoil
import Derived.Test.YtojkamfabapcoaaGreatDoorKLaw23
set_option maxRecDepth 100000
set_option maxHeartbeats 8000000
set_option linter.unusedSimpArgs false
set_option linter.unusedVariables false
namespace Go.Proofs.YtojkamfabapcoaaGreatDoor
open Go.RowKit Go.Grid Go.Shelf Go.Proofs
def VecT (w:World) (g:Nat) (p:Option Addr) (z:List Int):Prop:=∃ b o,b≠g∧(0 < z.length→p=some ⟨b,o,none⟩)∧∀ k (h:k < z.length),w.cell? ⟨b,o+k,none⟩=some (.int .i64 z[k])
theorem VecT.vec {w:World} {g:Nat} {p:Option Addr} {z:List Int} (h:VecT w g p z):VecAt w p z:=by
 obtain⟨b,o,_,h1,h2⟩:=h
 exact⟨b,o,h1,h2⟩
theorem VecT.turn {w w':World} {g:Nat} {p:Option Addr} {z:List Int} (h:VecT w g p z) (hg:w.grownBy w' (some g)):VecT w' g p z:=by
 obtain⟨b,o,h0,h1,h2⟩:=h
 exact⟨b,o,h0,h1,fun k hk=>hg.cell (h2 k hk) (by simpa using h0)⟩
theorem VecT.of {w:World} {g b o:Nat} {z:List Int} (h:VecAt w (some ⟨b,o,none⟩) z) (hz:0 < z.length) (hb:b≠g):VecT w g (some ⟨b,o,none⟩) z:=by
 obtain⟨b',o',h1,h2⟩:=h
 have:=h1 hz
 simp only[Option.some.injEq,Addr.mk.injEq,and_true] at this
 obtain⟨rfl,rfl⟩:=this
 exact⟨_,_,hb,h1,h2⟩
theorem VecT.arg {W:World} {g:Nat} {p:Option Addr} {z:List Int} (h:VecAt W p z) (hg:W.heap.size≤g):VecT W g p z:=by
 by_cases hz:0 < z.length
 ·obtain⟨b,o,h1,h2⟩:=h
  have hb:b < W.heap.size:=zM _ _ (h2 0 hz)
  exact⟨b,o,by omega,h1,h2⟩
 ·exact⟨g+1,0,by omega,fun e=>absurd e hz,fun k hk=>absurd hk (by omega)⟩
theorem CertAt.turn {w w':World} {o g:Nat} {c d a r:Int} (h:CertAt w o c d a r) (hg:w.grownBy w' (some g)) (hne:o≠g):CertAt w' o c d a r:=by
 have hlt:o < w.heap.size:=zM _ _ h.1
 obtain⟨h1,h2,h3,h4,f1,f2,f3,f4⟩:=h
 have hb:=hg.block o hlt (by simpa using hne)
 exact⟨hg.cell h1 (by simpa using hne),hg.cell h2 (by simpa using hne),hg.cell h3 (by simpa using hne),hg.cell h4 (by simpa using hne),(zFb hb).trans f1,(zFb hb).trans f2,(zFb hb).trans f3,(zFb hb).trans f4⟩
theorem CertAt.put3 {w:World} {o:Nat} {c d a r:Int} (h:CertAt w o c d a r) (r':Int):CertAt (w.setCell ⟨o,3,none⟩ (.int .i64 r')) o c d a r':=by
 obtain⟨h1,h2,h3,h4,f1,f2,f3,f4⟩:=h
 refine⟨?_,?_,?_,zL _ _ _ (by rw[h4];rfl),by rw[World.frozen?_setCell];exact f1,by rw[World.frozen?_setCell];exact f2,by rw[World.frozen?_setCell];exact f3,by rw[World.frozen?_setCell];exact f4⟩
 ·rw[zK _ _ _ _ (by simp)];exact h1
 ·rw[zK _ _ _ _ (by simp)];exact h2
 ·rw[zK _ _ _ _ (by simp)];exact h3
theorem CertAt.put2 {w:World} {o:Nat} {c d a r:Int} (h:CertAt w o c d a r) (a':Int):CertAt (w.setCell ⟨o,2,none⟩ (.int .i64 a')) o c d a' r:=by
 obtain⟨h1,h2,h3,h4,f1,f2,f3,f4⟩:=h
 refine⟨?_,?_,zL _ _ _ (by rw[h3];rfl),?_,by rw[World.frozen?_setCell];exact f1,by rw[World.frozen?_setCell];exact f2,by rw[World.frozen?_setCell];exact f3,by rw[World.frozen?_setCell];exact f4⟩
 ·rw[zK _ _ _ _ (by simp)];exact h1
 ·rw[zK _ _ _ _ (by simp)];exact h2
 ·rw[zK _ _ _ _ (by simp)];exact h4
theorem sum_ge26:∀ l:List (Int × Int),(∀ c∈l,1≤c.2)→(l.length:Int)≤sumI l
 |[],_=>by simp[sumI]
 |c :: l,h=>by
  have ih:=sum_ge26 l (fun x hx=>h x (List.mem_cons_of_mem _ hx))
  have:=h c (List.mem_cons_self ..)
  unfold sumI at *
  simp only[List.map_cons,List.sum_cons,List.length_cons]
  omega
theorem SyOk.sh26 {S:Sy} (h:SyOk S):∀ r∈S.rows,r.sh.length≤840:=fun r hr=>by
 obtain⟨k,hk,rfl⟩:=List.mem_iff_getElem.1 hr
 obtain⟨h1,h2,h3,h4⟩:=h
 obtain⟨_,ho,hs,_⟩:=h4 k hk (by omega)
 have:=sum_ge26 _ (fun c hc=>(ho c hc).2.1)
 omega
def SAtO (w:World) (g Bs A k:Nat):Prop:=∃ (S:Sy) (p:Option Addr) (c:Nat) (p':Option Addr) (c':Nat),A≠g∧(w.cell? ⟨A,k*5,none⟩=some (.int .i64 S.f)∧w.cell? ⟨A,k*5+1,none⟩=some (.int .i64 S.s)∧w.cell? ⟨A,k*5+2,none⟩=some (.int .i64 S.a)∧w.cell? ⟨A,k*5+3,none⟩=some (.slice p S.rows.length c)∧w.cell? ⟨A,k*5+4,none⟩=some (.slice p' S.targets.length c'))∧
 SysOwn w Bs (.agg #[.int .i64 S.f,.int .i64 S.s,.int .i64 S.a,.slice p S.rows.length c,.slice p' S.targets.length c']) S∧SyLen S
theorem SAtO.turn {w w':World} {g Bs A k:Nat} (h:SAtO w g Bs A k) (hg:w.grownBy w' (some g)) (hgB:g < Bs):SAtO w' g Bs A k:=by
 obtain⟨S,p,c,p',c',h6,⟨h0,h1,h2,h3,h4⟩,h5,h7⟩:=h
 exact⟨S,p,c,p',c',h6,⟨hg.cell h0 (by simpa using h6),hg.cell h1 (by simpa using h6),hg.cell h2 (by simpa using h6),hg.cell h3 (by simpa using h6),hg.cell h4 (by simpa using h6)⟩,h5.grown hg (fun k hk=>by injection hk with hk;omega),h7⟩
def VAtT (w:World) (g A k:Nat):Prop:=∃ (p:Option Addr) (c:Nat) (z:List Int),A≠g∧w.cell? ⟨A,k,none⟩=some (.slice p z.length c)∧VecT w g p z∧z.length≤1000∧I64L z
theorem VAtT.turn {w w':World} {g A k:Nat} (h:VAtT w g A k) (hg:w.grownBy w' (some g)):VAtT w' g A k:=by
 obtain⟨p,c,z,h0,h1,h2,h3⟩:=h
 exact⟨p,c,z,h0,hg.cell h1 (by simpa using h0),h2.turn hg,h3⟩
def WAt (w:World) (A k:Nat):Prop:=∃ h l:Int,w.cell? ⟨A,k*2,none⟩=some (.int .i64 h)∧w.cell? ⟨A,k*2+1,none⟩=some (.int .u64 l)∧0≤l∧l≤18446744073709551615
theorem WAt.below {w w':World} {A k:Nat} (h:WAt w A k) (hb:Below w.heap.size w w'):WAt w' A k:=by
 obtain⟨x,l,h1,h2,h3⟩:=h
 exact⟨x,l,zP hb h1,zP hb h2,h3⟩
theorem cert_law (W:World) (q:Option Addr) (cap cb co:Nat) (L:List Int) (hp:0 < L.length→q=some ⟨cb,co,none⟩) (hl:L.length≤cap) (hc:cap≤9223372036854775807)
  (hcell:∀ k (h:k < L.length),W.cell? ⟨cb,co+k,none⟩=some (.int .u8 L[k])∧0≤L[k]∧L[k] < 256) (hT:HasTab W) (wh wl anc:Int) (hwl0:0≤wl) (hwl1:wl≤18446744073709551615) (ha0:-9223372036854775808≤anc) (ha1:anc≤9223372036854775807)
  (q1:Option Addr) (cap1:Nat) (O:List Int) (hVO1:VecAt W q1 O) (hI1:I64L O) :
  Calls Tryz.prog 6 #[.slice q L.length cap,.agg #[.int .i64 wh,.int .u64 wl],.int .i64 anc,.slice q1 O.length cap1] W fun e w'=>e=.returned (.bool true)∧Below W.heap.size W w':=by
 have HIN:=zN (And.intro hp hcell)
 have HTB:=zN hT
 have HVO:=zN (And.intro hVO1 hI1)
 have HWL:=zN (And.intro hwl0 hwl1)
 clear hp hcell hVO1 hI1 hT hwl0 hwl1
 go_enter Tryz.func6,Tryz.ntmps6
 go_wp2_with fail
 have hD0:Duo (W.alloc (.cells #[.int .i64 wh,.int .u64 wl] 56)) W.heap.size wh wl:=⟨(by simp[zO,zJ,zQ]),(by simp[zO,zJ,zQ])⟩
 have hB:Below W.heap.size W (W.alloc (.cells #[.int .i64 wh,.int .u64 wl] 56)):=(by repeat (first|(with_reducible first|assumption|exact zBr _ _|refine zBs ?_ (by first|omega|simp<;>omega) _|refine zBa ?_ (by first|omega|simp<;>omega) _|apply zBd)|assumption))
 obtain⟨N0,hN0⟩:∃ N0,N0=W.heap.size:=⟨_,rfl⟩
 have hNW:N0 < (W.alloc (.cells #[.int .i64 wh,.int .u64 wl] 56)).heap.size:=by rw[hN0];simp
 rw[←hN0] at hD0 ⊢
 have HN0:=zN hN0
 clear hN0
 generalize (W.alloc (.cells #[.int .i64 wh,.int .u64 wl] 56))=W1 at *
 refine (awake26_any W1).mono ?_
 rintro e w1 ⟨rfl,hb⟩
 replace hD0:=hD0.below hb
 replace hB:=hB.trans (hb.mono hB.size)
 replace hNW:N0 < w1.heap.size:=Nat.lt_of_lt_of_le hNW hb.size
 clear hb
 clear W1
 by_cases hbig:100 < O.length
 ·have e1:decide ((O.length:Int) > 100)=true:=zDt (by omega)
  go_wp2
  refine bodyPost_ret (v:=.bool true) ?_ rfl ⟨rfl,hB⟩
  simp[results,Tryz.results6,go_sem]
 have e1:decide ((O.length:Int) > 100)=false:=zDf (by omega)
 go_wp2_with fail
 clear e1
 refine (start_any W q cap cb co 240 L w1 (by omega) HIN.out.1 hl hc HIN.out.2 hB).mono ?_
 rintro e w2 ⟨g,b,M,rfl,hg,hb2,hbM,hC⟩
 have hgW:W.heap.size≤g:=by have:=hB.size;omega
 have hNg:N0 < g:=by omega
 replace hD0:=hD0.below hb2
 replace hB:=hB.trans (hb2.mono hB.size)
 have hgl:=hC.lt
 have hbg:0 < M.length→b < g:=fun h0=>by have:=hbM h0;omega
 clear hb2 hbM hg HIN hl hc hNW
 clear w1
 go_wp2_with fail
 refine (csys_any w2 g b M 0 5 hC (by omega)).mono ?_
 rintro e w3 ⟨v,S,rfl,hSO,hOk,hPC,hSr,hg3,j3,hC3⟩
 replace hB:=hB.grown hg3 hB.size (fun k hk=>by injection hk with hk;omega)
 replace hD0:Duo w3 N0 wh wl:=⟨hg3.cell hD0.1 (by simp;omega),hg3.cell hD0.2 (by simp;omega)⟩
 have hs3:=hg3.size
 have HPC:=zN hPC
 have HSR:=zN hSr
 have hS8:=zN hOk.sh26
 have hSt:=zN hOk.2.2.1
 obtain⟨hn1,hn2,hn3⟩:=hOk.nodes
 have hf1:1≤S.f:=hOk.1.1
 have hf2:S.f≤2:=hPC.1.2
 have hn4:S.n≤42:=by
  have:=Int.mul_le_mul (show 10*S.f≤20 by omega) hf2 (by omega) (by omega)
  omega
 clear hC hg3 hPC hSr hOk
 obtain⟨p1,d1,p2,d2,rfl,-⟩:=hSO.sysin
 have hpv:Hid (prv S.f S.s S.a=.agg #[.int .i64 S.f,.int .i64 S.s,.int .i64 S.a]):=zN rfl
 go_wp2_with fail
 have hP:Five (w3.alloc (.cells #[.int .i64 S.f,.int .i64 S.s,.int .i64 S.a,.slice p1 S.rows.length d1,.slice p2 S.targets.length d2] 27)) w3.heap.size S.f S.s S.a (.slice p1 S.rows.length d1) (.slice p2 S.targets.length d2):=⟨(by simp[zO,zJ,zQ]),(by simp[zO,zJ,zQ]),(by simp[zO,zJ,zQ]),(by simp[zO,zJ,zQ]),(by simp[zO,zJ,zQ])⟩
 have hb4:=(zBr w3.heap.size w3).alloc (Nat.le_refl _) (.cells #[.int .i64 S.f,.int .i64 S.s,.int .i64 S.a,.slice p1 S.rows.length d1,.slice p2 S.targets.length d2] 27)
 replace hB:=hB.trans (hb4.mono hB.size)
 replace hD0:=hD0.below hb4
 replace hSO:=hSO.grown (grw_below hb4 none) (fun k hk=>by cases hk)
 have hC4:=hC3.below hb4
 obtain⟨P,hPe⟩:∃ P,P=w3.heap.size:=⟨_,rfl⟩
 have hgP:g < P:=by omega
 have hPg2:P≠g:=by omega
 have hs4:P < (w3.alloc (.cells #[.int .i64 S.f,.int .i64 S.s,.int .i64 S.a,.slice p1 S.rows.length d1,.slice p2 S.targets.length d2] 27)).heap.size:=by rw[hPe];simp
 rw[←hPe] at hP ⊢
 have hgb:g < w2.heap.size:=hgl
 have hbw:w2.heap.size≤(w3.alloc (.cells #[.int .i64 S.f,.int .i64 S.s,.int .i64 S.a,.slice p1 S.rows.length d1,.slice p2 S.targets.length d2] 27)).heap.size:=by omega
 obtain⟨Bs,hBs⟩:∃ Bs,Bs=w2.heap.size:=⟨_,rfl⟩
 rw[←hBs] at hSO hgb hbw
 clear hC3 hb4 hPe hs3 hgl hBs
 generalize (w3.alloc (.cells #[.int .i64 S.f,.int .i64 S.s,.int .i64 S.a,.slice p1 S.rows.length d1,.slice p2 S.targets.length d2] 27))=W4 at *
 clear w2 w3
 rw[←hpv.out]
 refine (cfor_any W4 g b M j3 S.f S.s S.a hC4 (fun h0=>by have:=hbg h0;omega) HPC.out).mono ?_
 rintro e w5 ⟨vx,x,rfl,hxl,hxw,hxr,hg5,j5,hC5⟩
 rw[hpv.out]
 replace hB:=hB.grown hg5 hB.size (fun k hk=>by injection hk with hk;omega)
 replace hP:=hP.turn hg5 hPg2
 replace hD0:Duo w5 N0 wh wl:=⟨hg5.cell hD0.1 (by simp;omega),hg5.cell hD0.2 (by simp;omega)⟩
 replace hSO:=hSO.grown hg5 (fun k hk=>by injection hk with hk;omega)
 replace hbw:Bs≤w5.heap.size:=by have:=hg5.size;omega
 have HXW:=zN hxw
 have hxn:x.length=S.n:=by omega
 have HXL:=zN hxn
 have HXI:Hid (I64L x):=zN (i64_within hxw (by omega))
 have HXB:Hid (Bd 1099511627776 x):=zN (fun y hy=>by have:=small_within HXW.out y hy;omega)
 obtain⟨Bx,hBx⟩:∃ Bx,Bx=W4.heap.size:=⟨_,rfl⟩
 have hgx:g < Bx:=by omega
 rw[←hBx] at hxr
 obtain⟨px,cx,bx,rfl,hcx,hpx,-⟩:=hxr.form
 obtain⟨rfl,hbx1,hbx2⟩:=hpx (by omega)
 have hVx:VecT w5 g (some ⟨bx,0,none⟩) x:=VecT.of hxr.vecAt (by omega) (by omega)
 clear hC4 hg5 hxw hxl hpx hBx hs4 hxr
 clear W4
 try rw[hxn]
 obtain⟨n,hn⟩:∃ n,n=S.n:=⟨_,rfl⟩
 have HN:=zN hn
 rw[←hn] at hn1 hn2 hn3 hn4 hxn ⊢
 have hgw5:P < w5.heap.size:=zM _ _ hP.1
 clear hn hbx2 hn1
 go_wp2_with fail
 have c:∀ k,k < 3→∃ m:Nat,(w5.alloc (.cells #[.int .i64 100,.int .i64 1099511627776,.int .i64 144115188075855872] 3)).cell? ⟨w5.heap.size,k,none⟩=some (.int .i64 m)∧m≤144115188075855872:=by
  intro k hk
  match k,hk with
  |0,_=>exact⟨100,(by simp[zO,zJ,zQ]),by omega⟩
  |1,_=>exact⟨1099511627776,(by simp[zO,zJ,zQ]),by omega⟩
  |2,_=>exact⟨144115188075855872,(by simp[zO,zJ,zQ]),by omega⟩
  |k+3,hk=>omega
 have hb5:=(zBr w5.heap.size w5).alloc (Nat.le_refl _) (.cells #[.int .i64 100,.int .i64 1099511627776,.int .i64 144115188075855872] 3)
 replace hB:=hB.trans (hb5.mono hB.size)
 have hgx5:=grw_below hb5 (some g)
 replace hSO:=hSO.grown hgx5 (fun k hk=>by injection hk with hk;omega)
 replace hP:=hP.below hb5
 replace hD0:=hD0.below hb5
 replace hVx:=hVx.turn hgx5
 have hC6:=hC5.below hb5
 have hs5:w5.heap.size < (w5.alloc (.cells #[.int .i64 100,.int .i64 1099511627776,.int .i64 144115188075855872] 3)).heap.size:=by simp
 obtain⟨Q0,hQe⟩:∃ Q0,Q0=w5.heap.size:=⟨_,rfl⟩
 rw[←hQe] at c hs5 hgw5 hbw ⊢
 clear hC5 hb5 hgx5 hQe
 generalize (w5.alloc (.cells #[.int .i64 100,.int .i64 1099511627776,.int .i64 144115188075855872] 3))=W5 at *
 clear w5
 refine (next_any _ g b M j5 3 hC6 (by omega)).mono ?_
 rintro e w6 ⟨r,rfl,hr,hg6,j6,hC7⟩
 have hr3:r < 3:=by omega
 obtain⟨m,hm0,hm1⟩:=c r hr3
 have hm:=hg6.cell hm0 (by simp;omega)
 replace hB:=hB.grown hg6 hB.size (fun k hk=>by injection hk with hk;omega)
 replace hP:=hP.turn hg6 hPg2
 replace hD0:Duo w6 N0 wh wl:=⟨hg6.cell hD0.1 (by simp;omega),hg6.cell hD0.2 (by simp;omega)⟩
 replace hSO:=hSO.grown hg6 (fun k hk=>by injection hk with hk;omega)
 replace hVx:=hVx.turn hg6
 have hs6:Q0 < w6.heap.size:=by have:=hg6.size;omega
 have hr0:(0:Int)≤(r:Int):=by omega
 have hr3I:(r:Int) < 3:=by omega
 clear c hm0 hg6 hC6 hr hs5
 clear W5
 go_wp2_with fail
 clear hm
 refine (cvec_any w6 g b M j6 n m hC7 (fun h0=>by have:=hbg h0;omega) (by omega) (by omega)).mono ?_
 rintro e w7 ⟨vr,R0,rfl,hrl,hrw,hrr,hg7,j7,hC8⟩
 replace hB:=hB.grown hg7 hB.size (fun k hk=>by injection hk with hk;omega)
 replace hP:=hP.turn hg7 hPg2
 replace hD0:Duo w7 N0 wh wl:=⟨hg7.cell hD0.1 (by simp;omega),hg7.cell hD0.2 (by simp;omega)⟩
 replace hSO:=hSO.grown hg7 (fun k hk=>by injection hk with hk;omega)
 replace hVx:=hVx.turn hg7
 obtain⟨pr,cr,br,rfl,hcr,hpr,-⟩:=hrr.form
 obtain⟨rfl,hbr1,hbr2⟩:=hpr (by omega)
 have hVr:VecT w7 g (some ⟨br,0,none⟩) R0:=VecT.of hrr.vecAt (by omega) (by omega)
 have HRI:Hid (I64L R0):=zN (i64_within hrw (by omega))
 have HRL:=zN hrl
 rw[hrl]
 replace hbw:Bs≤w7.heap.size:=by have:=hg7.size;omega
 have hbrg:g < br:=by omega
 clear hC7 hg7 hrw hpr hrr hr0 hr3I hm1 hr3 hbr1 hbr2 hs6
 clear w6
 go_wp2_with fail
 refine (fmod_any anc 1000000 _ ha0 ha1 (by omega) (by omega)).mono ?_
 rintro e w8 ⟨rfl,rfl⟩
 obtain⟨ka,hka⟩:∃ ka,1+anc % 1000000=ka:=⟨_,rfl⟩
 have hka1:0≤anc % 1000000∧anc % 1000000 < 1000000:=by omega
 have hka2:1≤ka∧ka≤1000000:=by omega
 have hbm:=(zBr w7.heap.size w7).alloc (Nat.le_refl _) (.cells #[.int .i64 anc,.int .i64 ka,.int .i64 1] 3)
 have hA3:∀ k,k < 3→∃ m:Int,(w7.alloc (.cells #[.int .i64 anc,.int .i64 ka,.int .i64 1] 3)).cell? ⟨w7.heap.size,k,none⟩=some (.int .i64 m)∧-9223372036854775808≤m∧m≤9223372036854775807:=by
  intro k hk
  match k,hk with
  |0,_=>exact⟨anc,(by simp[zO,zJ,zQ]),ha0,ha1⟩
  |1,_=>exact⟨ka,(by simp[zO,zJ,zQ]),by omega,by omega⟩
  |2,_=>exact⟨1,(by simp[zO,zJ,zQ]),by omega,by omega⟩
  |k+3,hk=>omega
 go_wp2
 try simp only[hka]
 replace hB:=hB.trans (hbm.mono hB.size)
 have hgx7:=grw_below hbm (some g)
 replace hSO:=hSO.grown hgx7 (fun k hk=>by injection hk with hk;omega)
 replace hP:=hP.below hbm
 replace hD0:=hD0.below hbm
 replace hVx:=hVx.turn hgx7
 replace hVr:=hVr.turn hgx7
 have hC9:=hC8.below hbm
 obtain⟨A3,hA3e⟩:∃ A3,A3=w7.heap.size:=⟨_,rfl⟩
 replace hbw:Bs≤(w7.alloc (.cells #[.int .i64 anc,.int .i64 ka,.int .i64 1] 3)).heap.size:=by have:=hbm.size;omega
 rw[←hA3e] at hA3 ⊢
 clear hC8 hbm hgx7 hA3e hka hka1 hka2
 generalize (w7.alloc (.cells #[.int .i64 anc,.int .i64 ka,.int .i64 1] 3))=W7 at *
 clear w7
 have HA3:=zN hA3
 have HD0:=zN hD0
 have HB:=zN hB
 have HSO:=zN hSO
 have HP:=zN hP
 have HVX:=zN hVx
 have HVR:=zN hVr
 have HC9:=zN hC9
 clear hA3 hD0 hB hSO hP hVx hVr hC9 ha0 ha1
 go_loopw [59] (fun i wr=>∃ k:Nat,k≤3∧i=.int .i64 k∧Below W7.heap.size W7 wr) (fun i _=>3-(intOf i).toNat)
 case atStart=>exact⟨0,by omega,rfl,zBr _ _⟩
 case round=>
  obtain⟨k,hk,rfl,hb⟩:=hrel
  by_cases hlt:k < 3
  ·obtain⟨m,hm0,hm1,hm2⟩:=HA3.out k hlt
   replace hm0:=zP hb hm0
   have hk0:(0:Int)≤(k:Int):=by omega
   have hk3:(k:Int) < 3:=by omega
   have hD:=HD0.out.below hb
   obtain⟨C,D,hCe,hDe,hWV⟩:=wv_parts (m*m)
   have hDr:0≤D∧D≤18446744073709551615:=by omega
   have HDR:=zN hDr
   have HWV:=zN hWV
   clear hCe hDe hWV hDr
   go_wp2
   clear hm0
   refine RX.region RX.fL (fun w'=>Duo w' N0 wh wl) (by kernel_rfl) (by kernel_rfl) (hD) (fun OPS HO QR hQR=>?_)
   repeat (refine zeX (fun R hR=>?_);(first|refine zbX rfl rfl (by first|exact .inl rfl|exact .inr rfl) (by simp only[zE,zF,zG,zH];rfl) (by simp only[zA,zB,zC,zD];rfl) ?_|(refine zdX rfl rfl rfl rfl ?_;apply zEx;apply zEx;refine⟨fun w' hS K hK=>?_,?_,?_⟩;(focus (obtain⟨hS1,hS2⟩:=hS;go_wp2;exact hK _ _ (by simp only[zl,zG,zH];first|exact RX.bneB _|rfl) rfl));(focus (simp only[zA,zB,zC,zD];rfl))));refine hR _ _ ?_;clear hR R)
   refine zeX (fun R hR=>?_)
   refine zgX (by first|rfl|(rw[HO.out];rfl)) rfl (fun K hK=>?_)
   go_wp2_with fail
   refine (product_wv m m _ hm1 hm2 hm1 hm2).mono ?_
   rintro e w9 ⟨rfl,hbm⟩
   rw[HWV.out]
   replace hbm:Below wr.heap.size wr w9:=⟨hbm.os,hbm.tape,hbm.output,hbm.size,hbm.block⟩
   have hD9:=hD.below hbm
   have hb9:=hb.trans (hbm.mono hb.size)
   clear hbm hD hb
   refine hK _ _ ⟨hD9,hR _ _ ?_⟩;clear hK K hR R
   repeat (refine zeX (fun R hR=>?_);(first|refine zbX rfl rfl (by first|exact .inl rfl|exact .inr rfl) (by simp only[zE,zF,zG,zH];rfl) (by simp only[zA,zB,zC,zD];rfl) ?_|(refine zdX rfl rfl rfl rfl ?_;apply zEx;apply zEx;refine⟨fun w' hS K hK=>?_,?_,?_⟩;(focus (obtain⟨hS1,hS2⟩:=hS;go_wp2;exact hK _ _ (by simp only[zl,zG,zH];first|exact RX.bneB _|rfl) rfl));(focus (simp only[zA,zB,zC,zD];rfl))));refine hR _ _ ?_;clear hR R)
   refine zeX (fun R hR=>?_)
   refine zgX (by first|rfl|(rw[HO.out];rfl)) rfl (fun K hK=>?_)
   go_wp2
   refine⟨hD9.below (by repeat (first|(with_reducible first|assumption|exact zBr _ _|refine zBs ?_ (by first|omega|simp<;>omega) _|refine zBa ?_ (by first|omega|simp<;>omega) _|apply zBd)|assumption)),hR _ _ ?_⟩;clear hR R
   repeat (refine zeX (fun R hR=>?_);(first|refine zbX rfl rfl (by first|exact .inl rfl|exact .inr rfl) (by simp only[zE,zF,zG,zH];rfl) (by simp only[zA,zB,zC,zD];rfl) ?_|(refine zdX rfl rfl rfl rfl ?_;apply zEx;apply zEx;refine⟨fun w' hS K hK=>?_,?_,?_⟩;(focus (obtain⟨hS1,hS2⟩:=hS;go_wp2;exact hK _ _ (by simp only[zl,zG,zH];first|exact RX.bneB _|rfl) rfl));(focus (simp only[zA,zB,zC,zD];rfl))));refine hR _ _ ?_;clear hR R)
   refine RX.wpL_nil (hQR _ _ (hD9.below (by repeat (first|(with_reducible first|assumption|exact zBr _ _|refine zBs ?_ (by first|omega|simp<;>omega) _|refine zBa ?_ (by first|omega|simp<;>omega) _|apply zBd)|assumption))) ?_);clear hQR QR HO OPS
   obtain⟨mh,hmh⟩:∃ mh,mh=bits .and .i64 wh 1152921504606846975:=⟨_,rfl⟩
   try rw[←hmh]
   have hWA:∀ j,j < 4→WAt (w9.alloc (.cells #[.int .i64 wh,.int .u64 wl,.int .i64 mh,.int .u64 wl,.int .i64 0,.int .u64 wl,.int .i64 C,.int .u64 D] 56)) w9.heap.size j:=fun j hj=>by
    match j,hj with
    |0,_=>exact⟨wh,wl,(by simp[zO,zJ,zQ]),(by simp[zO,zJ,zQ]),HWL.out.1,HWL.out.2⟩
    |1,_=>exact⟨mh,wl,(by simp[zO,zJ,zQ]),(by simp[zO,zJ,zQ]),HWL.out.1,HWL.out.2⟩
    |2,_=>exact⟨0,wl,(by simp[zO,zJ,zQ]),(by simp[zO,zJ,zQ]),HWL.out.1,HWL.out.2⟩
    |3,_=>exact⟨C,D,(by simp[zO,zJ,zQ]),(by simp[zO,zJ,zQ]),HDR.out.1,HDR.out.2⟩
    |j+4,hj=>omega
   have hb10:=hb9.trans (((zBr w9.heap.size w9).alloc (Nat.le_refl _) (.cells #[.int .i64 wh,.int .u64 wl,.int .i64 mh,.int .u64 wl,.int .i64 0,.int .u64 wl,.int .i64 C,.int .u64 D] 56)).mono hb9.size)
   obtain⟨A4,hA4⟩:∃ A4,A4=w9.heap.size:=⟨_,rfl⟩
   rw[←hA4] at hWA ⊢
   clear hA4 hD9 hb9 hmh
   generalize (w9.alloc (.cells #[.int .i64 wh,.int .u64 wl,.int .i64 mh,.int .u64 wl,.int .i64 0,.int .u64 wl,.int .i64 C,.int .u64 D] 56))=W10 at *
   clear w9
   have HWA:=zN hWA
   have HB10:=zN hb10
   clear hWA hb10
   go_wp2
   go_loopw [78] (fun i wr=>∃ j:Nat,j≤4∧i=.int .i64 j∧Below W10.heap.size W10 wr) (fun i _=>4-(intOf i).toNat)
   case atStart=>exact⟨0,by omega,rfl,zBr _ _⟩
   case round=>
    obtain⟨j,hj,rfl,hb⟩:=hrel
    by_cases hltj:j < 4
    ·obtain⟨h,l,h1,h2,h3,h4⟩:=(HWA.out j hltj).below hb
     have hj0:(0:Int)≤(j:Int):=by omega
     have hj4:(j:Int) < 4:=by omega
     have HL2:=zN (And.intro h3 h4)
     clear h3 h4
     go_wp2_with fail
     have hDb:Duo (wr.alloc (.cells #[.int .i64 h,.int .u64 l] 56)) wr.heap.size h l:=⟨(by simp[zO,zJ,zQ]),(by simp[zO,zJ,zQ])⟩
     have hb11:=hb.trans (((zBr wr.heap.size wr).alloc (Nat.le_refl _) (.cells #[.int .i64 h,.int .u64 l] 56)).mono hb.size)
     obtain⟨e0,he0⟩:∃ e0,e0=radV h l m:=⟨_,rfl⟩
     obtain⟨e1,he1⟩:∃ e1,e1=radE h l m:=⟨_,rfl⟩
     refine (cradiusA h l m _ HL2.out.1 HL2.out.2).mono ?_
     rintro e w12 ⟨rfl,hbm⟩
     rw[←he0,←he1]
     replace hDb:=hDb.below hbm
     replace hb11:=hb11.trans (hbm.mono hb11.size)
     clear hbm h1 h2 hb
     obtain⟨x0,x1⟩:=hDb
     go_wp2_with fail
     refine (rradiusA h l m _ HL2.out.1 HL2.out.2).mono ?_
     rintro e w13 ⟨rfl,hbm⟩
     rw[←he0,←he1]
     have hb12:=hb11.trans (hbm.mono hb11.size)
     clear hbm hb11 x0 x1 he0 he1
     go_wp2
     go_roundw
     case rel=>exact⟨j+1,by omega,by go_num,hb12⟩
     case measure=>simp[intOf];omega
    ·have hdj:decide ((j:Int) < 4)=false:=zDf (by omega)
     have hb11:=HB10.out.trans (hb.mono HB10.out.size)
     clear hb
     go_wp2
     go_roundw
     case rel=>exact⟨k+1,by omega,by go_num,hb11⟩
     case measure=>simp[intOf];omega
  ·have hdk:decide ((k:Int) < 3)=false:=zDf (by omega)
   have hgr:=grw_below hb (some g)
   have hB:=HB.out.trans (hb.mono HB.out.size)
   have hP:=HP.out.below hb
   have HSO1:=zN (HSO.out.grown hgr (fun k hk=>by injection hk with hk;omega))
   have HVX1:=zN (HVX.out.turn hgr)
   have HVR1:=zN (HVR.out.turn hgr)
   have HC1:=zN (HC9.out.below hb)
   have hbw1:Bs≤wr.heap.size:=by have:=hb.size;omega
   clear HA3 HD0 HB HSO HP HVX HVR HC9 hdk hb hk hgr hbw
   go_wp2
   refine RX.region RX.fL (fun w'=>Five w' P S.f S.s S.a (.slice p1 S.rows.length d1) (.slice p2 S.targets.length d2)) (by kernel_rfl) (by kernel_rfl) (hP) (fun OPS HO QR hQR=>?_)
   repeat (refine zeX (fun R hR=>?_);(first|refine zbX rfl rfl (by first|exact .inl rfl|exact .inr rfl) (by simp only[zE,zF,zG,zH];rfl) (by simp only[zA,zB,zC,zD];rfl) ?_|(refine zdX rfl rfl rfl rfl ?_;apply zEx;apply zEx;refine⟨fun w' hS K hK=>?_,?_,?_⟩;(focus (obtain⟨y0,y1,y2,y3,y4⟩:=hS;go_wp2;exact hK _ _ (by simp only[zl,zG,zH];first|exact RX.bneB _|rfl) rfl));(focus (simp only[zA,zB,zC,zD];rfl))));refine hR _ _ ?_;clear hR R)
   refine zeX (fun R hR=>?_)
   refine zgX (by first|rfl|(rw[HO.out];rfl)) rfl (fun K hK=>?_)
   go_wp2_with fail
   have hdr:Hid (SysOwn wr.drew Bs (.agg #[.int .i64 S.f,.int .i64 S.s,.int .i64 S.a,.slice p1 S.rows.length d1,.slice p2 S.targets.length d2]) S):=zN (HSO1.out.grown (grw_drew (grw_refl wr none)) (fun k hk=>by cases hk))
   refine (spoilsys_any wr.drew g b M j7 (HC1.out.below (by repeat (first|(with_reducible first|assumption|exact zBr _ _|refine zBs ?_ (by first|omega|simp<;>omega) _|refine zBa ?_ (by first|omega|simp<;>omega) _|apply zBd)|assumption))) _ S Bs 840 hdr.out hgb hbw1 (by have:=HSR.out;omega) (by have:=HSR.out;have:=hSt.out;omega) hS8.out (by omega)).mono ?_
   rintro e w7 ⟨va,Sa,rfl,hSa,hra,hta,hsa,hg7,j8,hC7⟩
   replace hg7:wr.grownBy w7 (some g):=⟨hg7.os,hg7.tape,hg7.output,hg7.size,hg7.block⟩
   replace hB:=hB.grown hg7 hB.size (fun k hk=>by injection hk with hk;omega)
   replace hP:=hP.turn hg7 hPg2
   have HSO8:=zN (HSO1.out.grown hg7 (fun k hk=>by injection hk with hk;omega))
   have HVX8:=zN (HVX1.out.turn hg7)
   have HVR8:=zN (HVR1.out.turn hg7)
   have HSa:=zN hSa
   have HLa:=zN (And.intro hra (And.intro hta hsa))
   have hgs7:g < w7.heap.size:=hC7.lt
   obtain⟨p5,d5,p6,d6,rfl,-⟩:=hSa.sysin
   clear hg7 hSa hra hta hsa hdr HSO1 HVX1 HVR1 hbw1 HC1
   refine hK _ _ ⟨hP,hR _ _ ?_⟩;clear hK K hR R
   clear wr
   repeat (refine zeX (fun R hR=>?_);(first|refine zbX rfl rfl (by first|exact .inl rfl|exact .inr rfl) (by simp only[zE,zF,zG,zH];rfl) (by simp only[zA,zB,zC,zD];rfl) ?_|(refine zdX rfl rfl rfl rfl ?_;apply zEx;apply zEx;refine⟨fun w' hS K hK=>?_,?_,?_⟩;(focus (obtain⟨y0,y1,y2,y3,y4⟩:=hS;go_wp2;exact hK _ _ (by simp only[zl,zG,zH];first|exact RX.bneB _|rfl) rfl));(focus (simp only[zA,zB,zC,zD];rfl))));refine hR _ _ ?_;clear hR R)
   refine zeX (fun R hR=>?_)
   refine zgX (by first|rfl|(rw[HO.out];rfl)) rfl (fun K hK=>?_)
   go_wp2
   refine⟨hP.below (by repeat (first|(with_reducible first|assumption|exact zBr _ _|refine zBs ?_ (by first|omega|simp<;>omega) _|refine zBa ?_ (by first|omega|simp<;>omega) _|apply zBd)|assumption)),hR _ _ ?_⟩;clear hR R
   repeat (refine zeX (fun R hR=>?_);(first|refine zbX rfl rfl (by first|exact .inl rfl|exact .inr rfl) (by simp only[zE,zF,zG,zH];rfl) (by simp only[zA,zB,zC,zD];rfl) ?_|(refine zdX rfl rfl rfl rfl ?_;apply zEx;apply zEx;refine⟨fun w' hS K hK=>?_,?_,?_⟩;(focus (obtain⟨y0,y1,y2,y3,y4⟩:=hS;go_wp2;exact hK _ _ (by simp only[zl,zG,zH];first|exact RX.bneB _|rfl) rfl));(focus (simp only[zA,zB,zC,zD];rfl))));refine hR _ _ ?_;clear hR R)
   refine RX.wpL_nil (hQR _ _ (hP.below (by repeat (first|(with_reducible first|assumption|exact zBr _ _|refine zBs ?_ (by first|omega|simp<;>omega) _|refine zBa ?_ (by first|omega|simp<;>omega) _|apply zBd)|assumption))) ?_);clear hQR QR HO OPS
   have hb8:Below w7.heap.size w7 (w7.alloc (.cells #[.int .i64 S.f,.int .i64 S.s,.int .i64 S.a,.slice p1 S.rows.length d1,.slice p2 S.targets.length d2,.int .i64 Sa.f,.int .i64 Sa.s,.int .i64 Sa.a,.slice p5 Sa.rows.length d5,.slice p6 Sa.targets.length d6] 27)):=(by repeat (first|(with_reducible first|assumption|exact zBr _ _|refine zBs ?_ (by first|omega|simp<;>omega) _|refine zBa ?_ (by first|omega|simp<;>omega) _|apply zBd)|assumption))
   have hg8:=grw_below hb8 (some g)
   have hA:∀ k,k < 2→SAtO (w7.alloc (.cells #[.int .i64 S.f,.int .i64 S.s,.int .i64 S.a,.slice p1 S.rows.length d1,.slice p2 S.targets.length d2,.int .i64 Sa.f,.int .i64 Sa.s,.int .i64 Sa.a,.slice p5 Sa.rows.length d5,.slice p6 Sa.targets.length d6] 27)) g Bs w7.heap.size k:=fun k hk=>by
    match k,hk with
    |0,_=>exact⟨S,p1,d1,p2,d2,by omega,⟨(by simp[zO,zJ,zQ]),(by simp[zO,zJ,zQ]),(by simp[zO,zJ,zQ]),(by simp[zO,zJ,zQ]),(by simp[zO,zJ,zQ])⟩,HSO8.out.grown hg8 (fun k hk=>by injection hk with hk;omega),by have:=HSR.out;omega,by have:=HSR.out;have:=hSt.out;omega,fun r hr=>by have:=hS8.out r hr;omega⟩
    |1,_=>exact⟨Sa,p5,d5,p6,d6,by omega,⟨(by simp[zO,zJ,zQ]),(by simp[zO,zJ,zQ]),(by simp[zO,zJ,zQ]),(by simp[zO,zJ,zQ]),(by simp[zO,zJ,zQ])⟩,HSa.out.grown hg8 (fun k hk=>by injection hk with hk;omega),by have:=HSR.out;have:=HLa.out.1;omega,by have:=HSR.out;have:=hSt.out;have:=HLa.out.2.1;omega,fun r hr=>by have:=HLa.out.2.2 r hr;omega⟩
    |k+2,hk=>omega
   have HA:=zN hA
   replace hB:=hB.trans (hb8.mono hB.size)
   have HVX9:=zN (HVX8.out.turn hg8)
   have HVR9:=zN (HVR8.out.turn hg8)
   have HC8:=zN (hC7.below hb8)
   clear hA hP HSO8 HSa HLa HVX8 HVR8 hb8 hg8 hC7 hgs7
   obtain⟨A2,hAe⟩:∃ A2,A2=w7.heap.size:=⟨_,rfl⟩
   rw[←hAe] at HA ⊢
   clear hAe
   generalize (w7.alloc (.cells #[.int .i64 S.f,.int .i64 S.s,.int .i64 S.a,.slice p1 S.rows.length d1,.slice p2 S.targets.length d2,.int .i64 Sa.f,.int .i64 Sa.s,.int .i64 Sa.a,.slice p5 Sa.rows.length d5,.slice p6 Sa.targets.length d6] 27))=W8 at *
   clear w7
   have HB8:=zN hB
   have HVOT:=zN (VecT.arg HVO.out.1 hgW)
   clear hB
   go_wp2
   go_loopw [110] (fun i wr=>∃ (k jc:Nat),k≤2∧i=.int .i64 k∧CodesAt wr g b M jc∧W8.grownBy wr (some g)) (fun i _=>2-(intOf i).toNat)
   case atStart=>exact⟨0,j8,by omega,rfl,HC8.out,grw_refl _ _⟩
   case round=>
    obtain⟨k,jc,hk,rfl,hC,hg⟩:=hrel
    by_cases hlt:k < 2
    ·obtain⟨Sk,p,c,p',c',hAg,⟨k0,k1,k2,k3,k4⟩,hSo,hln⟩:=(HA.out k hlt).turn hg hgb
     have hk0:(0:Int)≤(k:Int):=by omega
     have hk4:(k:Int) < 2:=by omega
     have HSOk:=zN hSo
     clear hSo
     go_wp2
     clear k0 k1 k2 k3 k4
     have hb9:Below wr.heap.size wr ((wr.alloc (.cells #[.int .i64 Sk.f,.int .i64 Sk.s,.int .i64 Sk.a,.slice p Sk.rows.length c,.slice p' Sk.targets.length c'] 27)).alloc (.cells #[.slice (some ⟨br,0,none⟩) n cr,.slice q1 O.length cap1] 25)):=((zBr wr.heap.size wr).alloc (Nat.le_refl _) _).alloc (by simp) _
     have hg9:=grw_below hb9 (some g)
     have h5:Five ((wr.alloc (.cells #[.int .i64 Sk.f,.int .i64 Sk.s,.int .i64 Sk.a,.slice p Sk.rows.length c,.slice p' Sk.targets.length c'] 27)).alloc (.cells #[.slice (some ⟨br,0,none⟩) n cr,.slice q1 O.length cap1] 25)) wr.heap.size Sk.f Sk.s Sk.a (.slice p Sk.rows.length c) (.slice p' Sk.targets.length c'):=⟨(by simp[zO,zJ,zQ]),(by simp[zO,zJ,zQ]),(by simp[zO,zJ,zQ]),(by simp[zO,zJ,zQ]),(by simp[zO,zJ,zQ])⟩
     have hgl:g < wr.heap.size:=hC.lt
     have hBw:=HB8.out.grown hg HB8.out.size (fun k hk=>by injection hk with hk;omega)
     have hVR:=(HVR9.out.turn hg).turn hg9
     have hVO:=(HVOT.out.turn (grw_below hBw (some g))).turn hg9
     have hVA:∀ j,j < 2→VAtT ((wr.alloc (.cells #[.int .i64 Sk.f,.int .i64 Sk.s,.int .i64 Sk.a,.slice p Sk.rows.length c,.slice p' Sk.targets.length c'] 27)).alloc (.cells #[.slice (some ⟨br,0,none⟩) n cr,.slice q1 O.length cap1] 25)) g (wr.heap.size+1) j:=fun j hj=>by
      match j,hj with
      |0,_=>exact⟨some ⟨br,0,none⟩,cr,R0,by omega,by rw[HRL.out];exact (by simp[zO,zJ,zQ]),hVR,by have:=HRL.out;omega,HRI.out⟩
      |1,_=>exact⟨q1,cap1,O,by omega,(by simp[zO,zJ,zQ]),hVO,by omega,HVO.out.2⟩
      |j+2,hj=>omega
     have HVA:=zN hVA
     have HVXk:=zN ((HVX9.out.turn hg).turn hg9)
     have HSOk2:=zN (HSOk.out.grown hg9 (fun k hk=>by injection hk with hk;omega))
     have HBk:=zN (hBw.trans (hb9.mono hBw.size))
     have HCk:=zN (hC.below hb9)
     have HGk:=zN (hg.trans hg9)
     obtain⟨Q,hQ⟩:∃ Q,Q=wr.heap.size:=⟨_,rfl⟩
     have hQg:Q≠g:=by omega
     rw[←hQ] at h5 HVA ⊢
     have hQl:Q+1 < ((wr.alloc (.cells #[.int .i64 Sk.f,.int .i64 Sk.s,.int .i64 Sk.a,.slice p Sk.rows.length c,.slice p' Sk.targets.length c'] 27)).alloc (.cells #[.slice (some ⟨br,0,none⟩) n cr,.slice q1 O.length cap1] 25)).heap.size:=by rw[hQ];simp
     clear hQ hb9 hg9 HSOk hVA hVR hVO hBw hC hg hgl
     generalize ((wr.alloc (.cells #[.int .i64 Sk.f,.int .i64 Sk.s,.int .i64 Sk.a,.slice p Sk.rows.length c,.slice p' Sk.targets.length c'] 27)).alloc (.cells #[.slice (some ⟨br,0,none⟩) n cr,.slice q1 O.length cap1] 25))=W9 at *
     clear wr
     have HP5:=zN h5
     have HLN:=zN hln
     clear h5 hln
     go_loopw [118] (fun i wr=>∃ (j jc:Nat),j≤2∧i=.int .i64 j∧CodesAt wr g b M jc∧W9.grownBy wr (some g)) (fun i _=>2-(intOf i).toNat)
     case atStart=>exact⟨0,jc,by omega,rfl,HCk.out,grw_refl _ _⟩
     case round=>
      obtain⟨j,jc,hj,rfl,hC,hg⟩:=hrel
      by_cases hltj:j < 2
      ·obtain⟨pz,cz,z,hAg2,hz0,hzV,hzl,hzI⟩:=(HVA.out j hltj).turn hg
       have hj0:(0:Int)≤(j:Int):=by omega
       have hjI:(j:Int) < 2:=by omega
       have hgl:g < wr.heap.size:=hC.lt
       have hBw:=HBk.out.grown hg HBk.out.size (fun k hk=>by injection hk with hk;omega)
       have HFIVE:Hid (∀ U,wr.grownBy U (some g)→Five U Q Sk.f Sk.s Sk.a (.slice p Sk.rows.length c) (.slice p' Sk.targets.length c')):=zN (fun U hU=>(HP5.out.turn hg hQg).turn hU hQg)
       have HFACT:Hid (∀ U,wr.grownBy U (some g)→HasTab U∧SysIn U (.agg #[.int .i64 Sk.f,.int .i64 Sk.s,.int .i64 Sk.a,.slice p Sk.rows.length c,.slice p' Sk.targets.length c']) Sk∧VecAt U pz z∧VecAt U (some ⟨bx,0,none⟩) x):=zN (fun U hU=>
        ⟨HTB.out.below (hBw.grown hU hBw.size (fun k hk=>by injection hk with hk;omega)),((HSOk2.out.grown hg (fun k hk=>by injection hk with hk;omega)).grown hU (fun k hk=>by injection hk with hk;omega)).sysin,(hzV.turn hU).vec,((HVXk.out.turn hg).turn hU).vec⟩)
       have hx92:x.length≤92:=by have:=HXL.out;have:=HN.out;omega
       have HCALL:Hid (∀ U,wr.grownBy U (some g)→(Calls Tryz.prog 42 #[.agg #[.int .i64 Sk.f,.int .i64 Sk.s,.int .i64 Sk.a,.slice p Sk.rows.length c,.slice p' Sk.targets.length c'],.slice pz z.length cz,.slice (some ⟨bx,0,none⟩) n cx] U fun e w''=>e=.returned (.tuple #[.agg #[.int .i64 (ofC Sk z x),.int .u64 (ofD Sk z x),.int .i64 (ofA Sk z x),.int .i64 (ofR Sk z x)],.int .i64 (ofE Sk z x)])∧Below U.heap.size U w'')∧(Calls Tryz.prog 43 #[.agg #[.int .i64 Sk.f,.int .i64 Sk.s,.int .i64 Sk.a,.slice p Sk.rows.length c,.slice p' Sk.targets.length c'],.slice pz z.length cz,.slice (some ⟨bx,0,none⟩) n cx] U fun e w''=>e=.returned (.tuple #[.agg #[.int .i64 (ofC Sk z x),.int .u64 (ofD Sk z x),.int .i64 (ofA Sk z x),.int .i64 (ofR Sk z x)],.int .i64 (ofE Sk z x)])∧Below U.heap.size U w'')∧(∀ a r,(Calls Tryz.prog 44 #[.agg #[.int .i64 Sk.f,.int .i64 Sk.s,.int .i64 Sk.a,.slice p Sk.rows.length c,.slice p' Sk.targets.length c'],.slice pz z.length cz,.slice (some ⟨bx,0,none⟩) n cx,.agg #[.int .i64 (ofC Sk z x),.int .u64 (ofD Sk z x),.int .i64 a,.int .i64 r]] U fun e w''=>e=.returned (.int .i64 (verV (ofE Sk z x) (ofA Sk z x) (ofR Sk z x) a r))∧Below U.heap.size U w''))∧∀ a r,(Calls Tryz.prog 45 #[.agg #[.int .i64 Sk.f,.int .i64 Sk.s,.int .i64 Sk.a,.slice p Sk.rows.length c,.slice p' Sk.targets.length c'],.slice pz z.length cz,.slice (some ⟨bx,0,none⟩) n cx,.agg #[.int .i64 (ofC Sk z x),.int .u64 (ofD Sk z x),.int .i64 a,.int .i64 r]] U fun e w''=>e=.returned (.int .i64 (verV (ofE Sk z x) (ofA Sk z x) (ofR Sk z x) a r))∧Below U.heap.size U w'')):=zN (fun U hU=>by
        obtain⟨f1,f2,f3,f4⟩:=HFACT.out U hU
        have e1:=cofA Sk _ pz _ z x cz cx U f1 f2 HLN.out f3 f4 hzI HXI.out hx92 hzl
        have e2:=rofA Sk _ pz _ z x cz cx U f2 HLN.out f3 f4 hzI HXI.out hx92 hzl
        have e3:=fun a r=>cverA Sk _ pz (some ⟨bx,0,none⟩) z.length cz cx x.length U (ofC Sk z x) (ofD Sk z x) (ofA Sk z x) (ofR Sk z x) (ofE Sk z x) a r f2 (zN (fun w2 v2 hb h2=>cofA Sk v2 pz _ z x cz cx w2 (f1.below hb) h2 HLN.out (f3.below hb) (f4.below hb) hzI HXI.out hx92 hzl))
        have e4:=fun a r=>rverA Sk _ pz (some ⟨bx,0,none⟩) z.length cz cx x.length U (ofC Sk z x) (ofD Sk z x) (ofA Sk z x) (ofR Sk z x) (ofE Sk z x) a r f2 (zN (fun w2 v2 hb h2=>rofA Sk v2 pz _ z x cz cx w2 h2 HLN.out (f3.below hb) (f4.below hb) hzI HXI.out hx92 hzl))
        rw[HXL.out,←HN.out] at e1 e2 e3 e4
        exact⟨e1,e2,e3,e4⟩)
       have hRb:=(ofR_bd (S:=Sk) (R:=z) hx92)
       obtain⟨C,hCe⟩:∃ C,C=ofC Sk z x:=⟨_,rfl⟩
       obtain⟨D,hDe⟩:∃ D,D=ofD Sk z x:=⟨_,rfl⟩
       obtain⟨A,hAe⟩:∃ A,A=ofA Sk z x:=⟨_,rfl⟩
       obtain⟨Ra,hRe⟩:∃ Ra,Ra=ofR Sk z x:=⟨_,rfl⟩
       obtain⟨E,hEe⟩:∃ E,E=ofE Sk z x:=⟨_,rfl⟩
       rw[←hCe,←hDe,←hAe,←hRe,←hEe] at HCALL
       rw[←hAe,←hRe] at hRb
       obtain⟨⟨hR0,hR1⟩,hA0,hA1⟩:=hRb
       obtain⟨T1,hT1⟩:∃ T1,T1=verV E A Ra A Ra:=⟨_,rfl⟩
       have HT1:=zN hT1
       have HGS:=zN hg
       clear hCe hDe hAe hRe hEe hT1 hzV hzI hg hBw hx92
       obtain⟨k0,k1,k2,k3,k4⟩:=HFIVE.out wr (grw_refl _ _)
       go_wp2_with fail
       clear k0 k1 k2 k3 k4 hz0
       refine ((HCALL.out wr (grw_refl _ _)).1).mono ?_
       rintro e u0 ⟨rfl,hbm⟩
       have t1:=CertAt.new u0 C D A Ra
       have HG:wr.grownBy (u0.alloc (.cells #[.int .i64 C,.int .u64 D,.int .i64 A,.int .i64 Ra] 70)) (some g):=grw_alloc (grw_below hbm (some g)) _
       replace hC:=(hC.below hbm).below ((zBr u0.heap.size u0).alloc (Nat.le_refl _) (.cells #[.int .i64 C,.int .u64 D,.int .i64 A,.int .i64 Ra] 70))
       have ho1:wr.heap.size≤u0.heap.size:=hbm.size
       obtain⟨k0,k1,k2,k3,k4⟩:=HFIVE.out _ HG
       go_wp2_with fail
       clear k0 k1 k2 k3 k4 hbm
       obtain⟨o1,hgi⟩:∃ o1,o1=u0.heap.size:=⟨_,rfl⟩
       rw[←hgi] at t1 ho1 ⊢
       clear hgi
       generalize (u0.alloc (.cells #[.int .i64 C,.int .u64 D,.int .i64 A,.int .i64 Ra] 70))=U1 at *
       clear u0
       refine ((HCALL.out U1 HG).2.1).mono ?_
       rintro e u1 ⟨rfl,hbm⟩
       have t2:=CertAt.new u1 C D A Ra
       replace t1:=(t1.below hbm).below ((zBr u1.heap.size u1).alloc (Nat.le_refl _) (.cells #[.int .i64 C,.int .u64 D,.int .i64 A,.int .i64 Ra] 70))
       have HG2:wr.grownBy (u1.alloc (.cells #[.int .i64 C,.int .u64 D,.int .i64 A,.int .i64 Ra] 70)) (some g):=grw_alloc (HG.trans (grw_below hbm (some g))) _
       replace hC:=(hC.below hbm).below ((zBr u1.heap.size u1).alloc (Nat.le_refl _) (.cells #[.int .i64 C,.int .u64 D,.int .i64 A,.int .i64 Ra] 70))
       have ho2:wr.heap.size≤u1.heap.size:=by have:=HG.size;have:=hbm.size;omega
       have ho12:o1 < u1.heap.size+1:=by have:=zM _ _ t1.1;simpa using this
       go_wp2_with fail
       clear hbm HG
       obtain⟨o2,hgi⟩:∃ o2,o2=u1.heap.size:=⟨_,rfl⟩
       rw[←hgi] at t2 ho2 ⊢
       clear hgi ho12
       generalize (u1.alloc (.cells #[.int .i64 C,.int .u64 D,.int .i64 A,.int .i64 Ra] 70))=U2 at *
       clear u1 U1
       have HTT:=zN (And.intro t1 t2)
       refine RX.region RX.fL (fun w'=>Five w' Q Sk.f Sk.s Sk.a (.slice p Sk.rows.length c) (.slice p' Sk.targets.length c')∧CertAt w' o1 C D A Ra∧CertAt w' o2 C D A Ra) (by kernel_rfl) (by kernel_rfl) (⟨HFIVE.out _ (grw_drew HG2),t1,t2⟩) (fun OPS HO QR hQR=>?_)
       repeat (refine zeX (fun R hR=>?_);(first|refine zaX (by first|rfl|(rw[HO.out];rfl)) (by simp only[zA,zB,zC,zD];rfl) ?_|refine zbX (by first|rfl|(rw[HO.out];rfl)) rfl (by first|exact .inl rfl|exact .inr rfl) (by simp only[zE,zF,zG,zH];rfl) (by simp only[zA,zB,zC,zD];rfl) ?_|(refine zdX (by first|rfl|(rw[HO.out];rfl)) rfl rfl rfl ?_;apply zEx;apply zEx;refine⟨fun w' hS K hK=>?_,?_,?_⟩;(focus (obtain⟨⟨y0,y1,y2,y3,y4⟩,⟨r0,r1,r2,r3,-⟩,s0,s1,s2,s3,-⟩:=hS;go_wp2;exact hK _ _ (by simp only[zl,zG,zH];first|exact zf (by omega)|exact zg (by omega)|exact zh (by omega)|exact zi (by omega)|exact zj (by omega)|exact zk (by omega)|exact RX.bneB _|rfl) rfl));(focus (simp only[zA,zB,zC,zD];rfl))));refine hR _ _ ?_;clear hR R)
       refine zeX (fun R hR=>?_)
       refine zgX (by first|rfl|(rw[HO.out];rfl)) rfl (fun K hK=>?_)
       go_wp2_with fail
       refine ((HCALL.out U2.drew (grw_drew HG2)).2.2.1 A Ra).mono ?_
       rintro e u3 ⟨rfl,hbm⟩
       rw[←HT1.out]
       replace hbm:Below U2.heap.size U2 u3:=⟨hbm.os,hbm.tape,hbm.output,hbm.size,hbm.block⟩
       have HG3:=HG2.trans (grw_below hbm (some g))
       have t13:=t1.below hbm
       have t23:=t2.below hbm
       have hC3:=hC.below hbm
       clear hbm HG2 t1 t2 hC HTT
       refine hK _ _ ⟨⟨HFIVE.out _ HG3,t13,t23⟩,hR _ _ ?_⟩;clear hK K hR R
       repeat (refine zeX (fun R hR=>?_);(first|refine zaX (by first|rfl|(rw[HO.out];rfl)) (by simp only[zA,zB,zC,zD];rfl) ?_|refine zbX (by first|rfl|(rw[HO.out];rfl)) rfl (by first|exact .inl rfl|exact .inr rfl) (by simp only[zE,zF,zG,zH];rfl) (by simp only[zA,zB,zC,zD];rfl) ?_|(refine zdX (by first|rfl|(rw[HO.out];rfl)) rfl rfl rfl ?_;apply zEx;apply zEx;refine⟨fun w' hS K hK=>?_,?_,?_⟩;(focus (obtain⟨⟨y0,y1,y2,y3,y4⟩,⟨r0,r1,r2,r3,-⟩,s0,s1,s2,s3,-⟩:=hS;go_wp2;exact hK _ _ (by simp only[zl,zG,zH];first|exact zf (by omega)|exact zg (by omega)|exact zh (by omega)|exact zi (by omega)|exact zj (by omega)|exact zk (by omega)|exact RX.bneB _|rfl) rfl));(focus (simp only[zA,zB,zC,zD];rfl))));refine hR _ _ ?_;clear hR R)
       refine zeX (fun R hR=>?_)
       refine zgX (by first|rfl|(rw[HO.out];rfl)) rfl (fun K hK=>?_)
       go_wp2_with fail
       refine ((HCALL.out u3 HG3).2.2.2 A Ra).mono ?_
       rintro e u4 ⟨rfl,hbm⟩
       rw[←HT1.out]
       have HG4:=HG3.trans (grw_below hbm (some g))
       have t14:=t13.below hbm
       have t24:=t23.below hbm
       have hC4:=hC3.below hbm
       clear hbm HG3 t13 t23 hC3
       refine hK _ _ ⟨⟨HFIVE.out _ HG4,t14,t24⟩,hR _ _ ?_⟩;clear hK K hR R
       repeat (refine zeX (fun R hR=>?_);(first|refine zaX (by first|rfl|(rw[HO.out];rfl)) (by simp only[zA,zB,zC,zD];rfl) ?_|refine zbX (by first|rfl|(rw[HO.out];rfl)) rfl (by first|exact .inl rfl|exact .inr rfl) (by simp only[zE,zF,zG,zH];rfl) (by simp only[zA,zB,zC,zD];rfl) ?_|(refine zdX (by first|rfl|(rw[HO.out];rfl)) rfl rfl rfl ?_;apply zEx;apply zEx;refine⟨fun w' hS K hK=>?_,?_,?_⟩;(focus (obtain⟨⟨y0,y1,y2,y3,y4⟩,⟨r0,r1,r2,r3,-⟩,s0,s1,s2,s3,-⟩:=hS;go_wp2;exact hK _ _ (by simp only[zl,zG,zH];first|exact zf (by omega)|exact zg (by omega)|exact zh (by omega)|exact zi (by omega)|exact zj (by omega)|exact zk (by omega)|exact RX.bneB _|rfl) rfl));(focus (simp only[zA,zB,zC,zD];rfl))));refine hR _ _ ?_;clear hR R)
       refine RX.wpL_nil (hQR _ _ (⟨HFIVE.out _ HG4,t14,t24⟩) ?_);clear hQR QR HO OPS
       clear t14
       go_wp2
       refine RY.region RX.fL (fun w'=>w'.cell? ⟨o2,3,none⟩=some (.int .i64 Ra)) (by kernel_rfl) (by kernel_rfl) (t24.2.2.2.1) (fun OPS HO QR hQR=>?_)
       repeat (refine zeY (fun R hR=>?_);(first|refine zbY rfl rfl (by first|exact .inl rfl|exact .inr rfl) (by simp only[zE,zF,zG,zH];rfl) (by simp only[zA,zB,zC,zD];rfl) ?_|(refine zdY rfl rfl rfl rfl ?_;apply zEx;apply zEx;refine⟨fun w' hS K hK=>?_,?_,?_⟩;(focus (have hS1:=hS;go_wp2;exact hK _ _ (by simp only[zl,zG,zH];first|exact RX.bneB _|rfl) rfl));(focus (simp only[zA,zB,zC,zD];rfl))));refine hR _ _ ?_;clear hR R)
       refine zeY (fun R hR=>?_)
       refine zgY (by first|rfl|(rw[HO.out];rfl)) rfl (fun K hK=>?_)
       go_wp2_with fail
       refine (next_any _ g b M jc 3 (hC4.below (by repeat (first|(with_reducible first|assumption|exact zBr _ _|refine zBs ?_ (by first|omega|simp<;>omega) _|refine zBa ?_ (by first|omega|simp<;>omega) _|apply zBd)|assumption))) (by omega)).mono ?_
       rintro e u5 ⟨r,rfl,hr,hg5,jc5,hC5⟩
       replace hg5:u4.grownBy u5 (some g):=⟨hg5.os,hg5.tape,hg5.output,hg5.size,hg5.block⟩
       have HG5:=HG4.trans hg5
       have hog:o2≠g:=by omega
       have t25:=t24.turn hg5 hog
       have hr3:(r:Int) < 3:=by omega
       have hr0:(0:Int)≤(r:Int):=by omega
       clear hg5 HG4 t24 hC4 hr
       refine hK _ _ ⟨.inr (t25.2.2.2.1),hR _ _ ?_⟩;clear hK K hR R
       repeat (refine zeY (fun R hR=>?_);(first|refine zbY rfl rfl (by first|exact .inl rfl|exact .inr rfl) (by simp only[zE,zF,zG,zH];rfl) (by simp only[zA,zB,zC,zD];rfl) ?_|(refine zdY rfl rfl rfl rfl ?_;apply zEx;apply zEx;refine⟨fun w' hS K hK=>?_,?_,?_⟩;(focus (have hS1:=hS;go_wp2;exact hK _ _ (by simp only[zl,zG,zH];first|exact RX.bneB _|rfl) rfl));(focus (simp only[zA,zB,zC,zD];rfl))));refine hR _ _ ?_;clear hR R)
       refine zeY (fun R hR=>?_)
       refine zgY (by first|rfl|(rw[HO.out];rfl)) rfl (fun K hK=>?_)
       obtain⟨r0,r1,r2,r3,s0,s1,s2,s3⟩:=id t25
       go_wp2
       first|refine⟨(by first|exact .inl rfl|exact .inl trivial|trivial),hR _ _ (RY.wpL_nil (hQR _ _ ?_))⟩|refine hR _ _ (RY.wpL_nil (hQR _ _ ?_))|refine hQR _ _ ?_
       (try clear hR);(try clear R);clear hQR QR HO OPS
       clear r0 r1 r2 r3 s0 s1 s2 s3
       have t26:=t25.put3 (Ra+((r:Int)-1))
       have HG6:wr.grownBy (u5.setCell ⟨o2,3,none⟩ (.int .i64 (Ra+((r:Int)-1)))) (some g):=grw_set HG5 (.inr ho2)
       have hC6:=hC5.set1 (R:=o2) (fun e=>hog e.symm) (fun h0=>by have:=hbg h0;omega) 3 (.int .i64 (Ra+((r:Int)-1)))
       obtain⟨R',hR'⟩:∃ R',R'=Ra+((r:Int)-1):=⟨_,rfl⟩
       rw[←hR'] at t26 HG6 hC6 ⊢
       clear hR' HG5 t25 hC5 hr3 hr0
       generalize (u5.setCell ⟨o2,3,none⟩ (.int .i64 R'))=U6 at *
       clear u5
       go_wp2
       refine RY.region RX.fL (fun w'=>w'.cell? ⟨o2,2,none⟩=some (.int .i64 A)) (by kernel_rfl) (by kernel_rfl) (t26.2.2.1) (fun OPS HO QR hQR=>?_)
       repeat (refine zeY (fun R hR=>?_);(first|refine zbY rfl rfl (by first|exact .inl rfl|exact .inr rfl) (by simp only[zE,zF,zG,zH];rfl) (by simp only[zA,zB,zC,zD];rfl) ?_|(refine zdY rfl rfl rfl rfl ?_;apply zEx;apply zEx;refine⟨fun w' hS K hK=>?_,?_,?_⟩;(focus (have hS1:=hS;go_wp2;exact hK _ _ (by simp only[zl,zG,zH];first|exact RX.bneB _|rfl) rfl));(focus (simp only[zA,zB,zC,zD];rfl))));refine hR _ _ ?_;clear hR R)
       refine zeY (fun R hR=>?_)
       refine zgY (by first|rfl|(rw[HO.out];rfl)) rfl (fun K hK=>?_)
       go_wp2_with fail
       refine (next_any _ g b M jc5 2 (hC6.below (by repeat (first|(with_reducible first|assumption|exact zBr _ _|refine zBs ?_ (by first|omega|simp<;>omega) _|refine zBa ?_ (by first|omega|simp<;>omega) _|apply zBd)|assumption))) (by omega)).mono ?_
       rintro e u7 ⟨r,rfl,hr,hg7,jc7,hC7⟩
       replace hg7:U6.grownBy u7 (some g):=⟨hg7.os,hg7.tape,hg7.output,hg7.size,hg7.block⟩
       have HG7:=HG6.trans hg7
       have t27:=t26.turn hg7 hog
       have hr3:(r:Int) < 2:=by omega
       have hr0:(0:Int)≤(r:Int):=by omega
       clear hg7 HG6 t26 hC6 hr
       refine hK _ _ ⟨.inr (t27.2.2.1),hR _ _ ?_⟩;clear hK K hR R
       repeat (refine zeY (fun R hR=>?_);(first|refine zbY rfl rfl (by first|exact .inl rfl|exact .inr rfl) (by simp only[zE,zF,zG,zH];rfl) (by simp only[zA,zB,zC,zD];rfl) ?_|(refine zdY rfl rfl rfl rfl ?_;apply zEx;apply zEx;refine⟨fun w' hS K hK=>?_,?_,?_⟩;(focus (have hS1:=hS;go_wp2;exact hK _ _ (by simp only[zl,zG,zH];first|exact RX.bneB _|rfl) rfl));(focus (simp only[zA,zB,zC,zD];rfl))));refine hR _ _ ?_;clear hR R)
       refine zeY (fun R hR=>?_)
       refine zgY (by first|rfl|(rw[HO.out];rfl)) rfl (fun K hK=>?_)
       obtain⟨r0,r1,r2,r3,s0,s1,s2,s3⟩:=id t27
       go_wp2
       first|refine⟨(by first|exact .inl rfl|exact .inl trivial|trivial),hR _ _ (RY.wpL_nil (hQR _ _ ?_))⟩|refine hR _ _ (RY.wpL_nil (hQR _ _ ?_))|refine hQR _ _ ?_
       (try clear hR);(try clear R);clear hQR QR HO OPS
       clear r0 r1 r2 r3 s0 s1 s2 s3
       have t28:=t27.put2 (A+(r:Int))
       have HG8:wr.grownBy (u7.setCell ⟨o2,2,none⟩ (.int .i64 (A+(r:Int)))) (some g):=grw_set HG7 (.inr ho2)
       have hC8:=hC7.set1 (R:=o2) (fun e=>hog e.symm) (fun h0=>by have:=hbg h0;omega) 2 (.int .i64 (A+(r:Int)))
       obtain⟨A',hA'⟩:∃ A',A'=A+(r:Int):=⟨_,rfl⟩
       rw[←hA'] at t28 HG8 hC8 ⊢
       clear hA' HG7 t27 hC7 hr3 hr0
       generalize (u7.setCell ⟨o2,2,none⟩ (.int .i64 A'))=U8 at *
       clear u7
       obtain⟨T2,hT2⟩:∃ T2,T2=verV E A Ra A' R':=⟨_,rfl⟩
       have HT2:=zN hT2
       clear hT2
       go_wp2
       refine RX.region RX.fL (fun w'=>Five w' Q Sk.f Sk.s Sk.a (.slice p Sk.rows.length c) (.slice p' Sk.targets.length c')∧CertAt w' o2 C D A' R') (by kernel_rfl) (by kernel_rfl) (⟨HFIVE.out _ (grw_drew HG8),t28⟩) (fun OPS HO QR hQR=>?_)
       repeat (refine zeX (fun R hR=>?_);(first|refine zbX rfl rfl (by first|exact .inl rfl|exact .inr rfl) (by simp only[zE,zF,zG,zH];rfl) (by simp only[zA,zB,zC,zD];rfl) ?_|(refine zdX rfl rfl rfl rfl ?_;apply zEx;apply zEx;refine⟨fun w' hS K hK=>?_,?_,?_⟩;(focus (obtain⟨⟨y0,y1,y2,y3,y4⟩,s0,s1,s2,s3,-⟩:=hS;go_wp2;exact hK _ _ (by simp only[zl,zG,zH];first|exact zf (by omega)|exact zg (by omega)|exact zh (by omega)|exact zi (by omega)|exact zj (by omega)|exact zk (by omega)|exact RX.bneB _|rfl) rfl));(focus (simp only[zA,zB,zC,zD];rfl))));refine hR _ _ ?_;clear hR R)
       refine zeX (fun R hR=>?_)
       refine zgX (by first|rfl|(rw[HO.out];rfl)) rfl (fun K hK=>?_)
       go_wp2_with fail
       refine ((HCALL.out U8.drew (grw_drew HG8)).2.2.1 A' R').mono ?_
       rintro e u9 ⟨rfl,hbm⟩
       rw[←HT2.out]
       replace hbm:Below U8.heap.size U8 u9:=⟨hbm.os,hbm.tape,hbm.output,hbm.size,hbm.block⟩
       have HG9:=HG8.trans (grw_below hbm (some g))
       have t29:=t28.below hbm
       have hC9:=hC8.below hbm
       clear hbm HG8 t28 hC8
       refine hK _ _ ⟨⟨HFIVE.out _ HG9,t29⟩,hR _ _ ?_⟩;clear hK K hR R
       repeat (refine zeX (fun R hR=>?_);(first|refine zbX rfl rfl (by first|exact .inl rfl|exact .inr rfl) (by simp only[zE,zF,zG,zH];rfl) (by simp only[zA,zB,zC,zD];rfl) ?_|(refine zdX rfl rfl rfl rfl ?_;apply zEx;apply zEx;refine⟨fun w' hS K hK=>?_,?_,?_⟩;(focus (obtain⟨⟨y0,y1,y2,y3,y4⟩,s0,s1,s2,s3,-⟩:=hS;go_wp2;exact hK _ _ (by simp only[zl,zG,zH];first|exact zf (by omega)|exact zg (by omega)|exact zh (by omega)|exact zi (by omega)|exact zj (by omega)|exact zk (by omega)|exact RX.bneB _|rfl) rfl));(focus (simp only[zA,zB,zC,zD];rfl))));refine hR _ _ ?_;clear hR R)
       refine zeX (fun R hR=>?_)
       refine zgX (by first|rfl|(rw[HO.out];rfl)) rfl (fun K hK=>?_)
       go_wp2_with fail
       refine ((HCALL.out u9 HG9).2.2.2 A' R').mono ?_
       rintro e u10 ⟨rfl,hbm⟩
       rw[←HT2.out]
       have HGF:=HG9.trans (grw_below hbm (some g))
       have t30:=t29.below hbm
       have hCF:=hC9.below hbm
       clear hbm HG9 t29 hC9
       refine hK _ _ ⟨⟨HFIVE.out _ HGF,t30⟩,hR _ _ ?_⟩;clear hK K hR R
       repeat (refine zeX (fun R hR=>?_);(first|refine zbX rfl rfl (by first|exact .inl rfl|exact .inr rfl) (by simp only[zE,zF,zG,zH];rfl) (by simp only[zA,zB,zC,zD];rfl) ?_|(refine zdX rfl rfl rfl rfl ?_;apply zEx;apply zEx;refine⟨fun w' hS K hK=>?_,?_,?_⟩;(focus (obtain⟨⟨y0,y1,y2,y3,y4⟩,s0,s1,s2,s3,-⟩:=hS;go_wp2;exact hK _ _ (by simp only[zl,zG,zH];first|exact zf (by omega)|exact zg (by omega)|exact zh (by omega)|exact zi (by omega)|exact zj (by omega)|exact zk (by omega)|exact RX.bneB _|rfl) rfl));(focus (simp only[zA,zB,zC,zD];rfl))));refine hR _ _ ?_;clear hR R)
       refine RX.wpL_nil (hQR _ _ (⟨HFIVE.out _ HGF,t30⟩) ?_);clear hQR QR HO OPS
       go_wp2
       go_roundw
       case rel=>exact⟨j+1,jc7,by omega,by go_num,hCF,HGS.out.trans HGF⟩
       case measure=>simp[intOf];omega
      ·have hdj:decide ((j:Int) < 2)=false:=zDf (by omega)
       have hg2:=HGk.out.trans hg
       go_wp2
       go_roundw
       case rel=>exact⟨k+1,jc,by omega,by go_num,hC,hg2⟩
       case measure=>simp[intOf];omega
    ·have hdk:decide ((k:Int) < 2)=false:=zDf (by omega)
     have hBw:=HB8.out.grown hg HB8.out.size (fun k hk=>by injection hk with hk;omega)
     have hVX:=HVX9.out.turn hg
     have hVO:=HVOT.out.turn (grw_below hBw (some g))
     clear HA HVX9 HVR9 HC8 hg HB8
     go_wp2_with fail
     refine (next_any _ g b M jc 200 hC (by omega)).mono ?_
     rintro e w1 ⟨r,rfl,hr,hg1,j1,hC1⟩
     have hr2:(r:Int) < 200:=by omega
     have hr0:(0:Int)≤(r:Int):=by omega
     replace hBw:=hBw.grown hg1 hBw.size (fun k hk=>by injection hk with hk;omega)
     replace hVX:=hVX.turn hg1
     replace hVO:=hVO.turn hg1
     obtain⟨rho,hrho⟩:∃ rho,(r:Int)*20=rho:=⟨_,rfl⟩
     have hrb:0≤rho∧rho≤4000:=by omega
     have hgl:g < w1.heap.size:=hC1.lt
     clear hC hg1 hr
     go_wp2_with fail
     try simp only[hrho]
     have tD:CertAt (w1.alloc (.cells #[.int .i64 0,.int .u64 0,.int .i64 0,.int .i64 rho] 70)) w1.heap.size 0 0 0 rho:=CertAt.new w1 0 0 0 rho
     have hbm:=(zBr w1.heap.size w1).alloc (Nat.le_refl _) (.cells #[.int .i64 0,.int .u64 0,.int .i64 0,.int .i64 rho] 70)
     replace hBw:=hBw.trans (hbm.mono hBw.size)
     replace hVX:=hVX.turn (grw_below hbm (some g))
     replace hVO:=hVO.turn (grw_below hbm (some g))
     have hC2:=hC1.below hbm
     obtain⟨bD,hbD⟩:∃ bD,bD=w1.heap.size:=⟨_,rfl⟩
     have hgD:bD≠g:=by omega
     rw[←hbD] at tD ⊢
     clear hbm hC1 hrho hr2 hr0 hgl hbD
     generalize (w1.alloc (.cells #[.int .i64 0,.int .u64 0,.int .i64 0,.int .i64 rho] 70))=W2 at *
     clear w1
     refine (cvec_any W2 g b M j1 n 60 hC2 (fun h0=>by have:=hbg h0;have:=hC2.lt;omega) (by omega) (by omega)).mono ?_
     rintro e w3 ⟨vz,z,rfl,hzl,hzw,hzr,hg3,j3',hC3⟩
     replace hBw:=hBw.grown hg3 hBw.size (fun k hk=>by injection hk with hk;omega)
     have HVXf:=zN (hVX.turn hg3).vec
     have HVOf:=zN (hVO.turn hg3).vec
     replace tD:=tD.turn hg3 hgD
     obtain⟨pz,cz,bz,rfl,hcz,hpz,-⟩:=hzr.form
     obtain⟨rfl,-,-⟩:=hpz (by omega)
     have HVZ:=zN hzr.vecAt
     have HZB:Hid (Bd 1099511627776 z):=zN (fun y hy=>by have:=small_within (hzw.mono (by omega):Within 1048576 z) y hy;omega)
     have HZL:=zN hzl
     rw[hzl] at hcz
     rw[hzl]
     have HBF:=zN hBw
     have hnz:(1:Int)≤(n:Int):=by omega
     have HSQ:Hid (∀ w',VecAt w' q1 O→(Calls Tryz.prog 46 #[.slice q1 O.length cap1] w' fun e w''=>e=.returned (wv (dotL O O))∧Below w'.heap.size w' w'')∧(Calls Tryz.prog 47 #[.slice q1 O.length cap1] w' fun e w''=>e=.returned (wv (dotL O O))∧Below w'.heap.size w' w'')):=zN (fun w' h=>⟨csquare_any q1 O cap1 O.length w' rfl h (by omega) HVO.out.2,rsquare_any q1 O cap1 O.length w' rfl h (by omega) HVO.out.2⟩)
     obtain⟨C,D,qq1,qq2,hWV⟩:=wv_parts (dotL O O)
     rw[hWV] at HSQ
     have HWI:Hid (∀ w',VecAt w' (some ⟨bx,0,none⟩) x→VecAt w' (some ⟨bz,0,none⟩) z→(Calls Tryz.prog 48 #[.agg #[.int .i64 0,.int .u64 0,.int .i64 0,.int .i64 rho],.slice (some ⟨bx,0,none⟩) n cx,.slice (some ⟨bz,0,none⟩) n cz] w' fun e w''=>e=.returned (.bool (decide (dotL (subL x z) (subL x z)≤rho*rho)))∧Below w'.heap.size w' w'')∧(Calls Tryz.prog 49 #[.agg #[.int .i64 0,.int .u64 0,.int .i64 0,.int .i64 rho],.slice (some ⟨bx,0,none⟩) n cx,.slice (some ⟨bz,0,none⟩) n cz] w' fun e w''=>e=.returned (.bool (decide (dotL (subL x z) (subL x z)≤rho*rho)))∧Below w'.heap.size w' w'')):=zN (fun w' h1 h2=>
      ⟨cwithin_ok 0 0 0 rho _ _ x z cx cz n w' (by rw[HXL.out,HN.out]) HZL.out h1 h2 (by omega) HXB.out HZB.out hrb.1 (by omega),rwithin_ok 0 0 0 rho _ _ x z cx cz n w' (by rw[HXL.out,HN.out]) HZL.out h1 h2 (by omega) HXB.out HZB.out hrb.1 (by omega)⟩)
     obtain⟨bW,hbW⟩:∃ bW,bW=decide (dotL (subL x z) (subL x z)≤rho*rho):=⟨_,rfl⟩
     rw[←hbW] at HWI
     have hbb:(bW == bW)=true:=by simp
     clear hbW hWV qq1 qq2 hzl hzw hzr hg3 hpz hVX hVO hBw hC3 hC2 hrb
     go_wp2
     refine RX.region RX.fN (fun w'=>CertAt w' bD 0 0 0 rho) (by kernel_rfl) (by kernel_rfl) (tD) (fun OPS HO QR hQR=>?_)
     have HV:Hid (VecAt w3.drew (some ⟨bx,0,none⟩) x∧VecAt w3.drew (some ⟨bz,0,none⟩) z∧VecAt w3.drew q1 O):=zN ⟨HVXf.out,HVZ.out,HVOf.out⟩
     have hbf:=HBF.out.drew
     have tE:CertAt w3.drew bD 0 0 0 rho:=tD
     clear HVXf HVZ HVOf HBF tD
     generalize w3.drew=w4 at *
     repeat (refine zeX (fun R hR=>?_);(first|refine zaX (by first|rfl|(rw[HO.out];rfl)) (by simp only[zA,zB,zC,zD];rfl) ?_|refine zbX (by first|rfl|(rw[HO.out];rfl)) rfl (by first|exact .inl rfl|exact .inr rfl) (by simp only[zE,zF,zG,zH];rfl) (by simp only[zA,zB,zC,zD];rfl) ?_|refine zcX (by first|rfl|(rw[HO.out];rfl)) rfl rfl (by simp only[zE,zF,zG,zH];rfl) (by simp only[zA,zB,zC,zD];rfl) ?_|(refine zdX (by first|rfl|(rw[HO.out];rfl)) rfl rfl rfl ?_;apply zEx;apply zEx;refine⟨fun w' hS K hK=>?_,?_,?_⟩;(focus (obtain⟨r0,r1,r2,r3,-⟩:=hS;go_wp2;exact hK _ _ (by simp only[zl,zG,zH];first|exact zf (by omega)|exact zg (by omega)|exact zh (by omega)|exact zi (by omega)|exact zj (by omega)|exact zk (by omega)|exact RX.bneB _|rfl) rfl));(focus (simp only[zA,zB,zC,zD];rfl))));refine hR _ _ ?_;clear hR R)
     refine zeX (fun R hR=>?_)
     refine zgX (by first|rfl|(rw[HO.out];rfl)) rfl (fun K hK=>?_)
     go_wp2_with fail
     refine ((HSQ.out _ HV.out.2.2).1).mono ?_
     rintro e v0 ⟨rfl,hbm⟩
     have tF:=tE.below hbm
     replace HV:=zN (And.intro (HV.out.1.below hbm) (And.intro (HV.out.2.1.below hbm) (HV.out.2.2.below hbm)))
     replace hbf:=hbf.trans (hbm.mono hbf.size)
     clear hbm tE
     refine hK _ _ ⟨tF,hR _ _ ?_⟩;clear hK K hR R
     have tE:=tF
     clear tF
     clear w4
     repeat (refine zeX (fun R hR=>?_);(first|refine zaX (by first|rfl|(rw[HO.out];rfl)) (by simp only[zA,zB,zC,zD];rfl) ?_|refine zbX (by first|rfl|(rw[HO.out];rfl)) rfl (by first|exact .inl rfl|exact .inr rfl) (by simp only[zE,zF,zG,zH];rfl) (by simp only[zA,zB,zC,zD];rfl) ?_|refine zcX (by first|rfl|(rw[HO.out];rfl)) rfl rfl (by simp only[zE,zF,zG,zH];rfl) (by simp only[zA,zB,zC,zD];rfl) ?_|(refine zdX (by first|rfl|(rw[HO.out];rfl)) rfl rfl rfl ?_;apply zEx;apply zEx;refine⟨fun w' hS K hK=>?_,?_,?_⟩;(focus (obtain⟨r0,r1,r2,r3,-⟩:=hS;go_wp2;exact hK _ _ (by simp only[zl,zG,zH];first|exact zf (by omega)|exact zg (by omega)|exact zh (by omega)|exact zi (by omega)|exact zj (by omega)|exact zk (by omega)|exact RX.bneB _|rfl) rfl));(focus (simp only[zA,zB,zC,zD];rfl))));refine hR _ _ ?_;clear hR R)
     refine zeX (fun R hR=>?_)
     refine zgX (by first|rfl|(rw[HO.out];rfl)) rfl (fun K hK=>?_)
     go_wp2_with fail
     refine ((HSQ.out _ HV.out.2.2).2).mono ?_
     rintro e v1 ⟨rfl,hbm⟩
     have tF:=tE.below hbm
     replace HV:=zN (And.intro (HV.out.1.below hbm) (And.intro (HV.out.2.1.below hbm) (HV.out.2.2.below hbm)))
     replace hbf:=hbf.trans (hbm.mono hbf.size)
     clear hbm tE
     refine hK _ _ ⟨tF,hR _ _ ?_⟩;clear hK K hR R
     have tE:=tF
     clear tF
     clear v0
     repeat (refine zeX (fun R hR=>?_);(first|refine zaX (by first|rfl|(rw[HO.out];rfl)) (by simp only[zA,zB,zC,zD];rfl) ?_|refine zbX (by first|rfl|(rw[HO.out];rfl)) rfl (by first|exact .inl rfl|exact .inr rfl) (by simp only[zE,zF,zG,zH];rfl) (by simp only[zA,zB,zC,zD];rfl) ?_|refine zcX (by first|rfl|(rw[HO.out];rfl)) rfl rfl (by simp only[zE,zF,zG,zH];rfl) (by simp only[zA,zB,zC,zD];rfl) ?_|(refine zdX (by first|rfl|(rw[HO.out];rfl)) rfl rfl rfl ?_;apply zEx;apply zEx;refine⟨fun w' hS K hK=>?_,?_,?_⟩;(focus (obtain⟨r0,r1,r2,r3,-⟩:=hS;go_wp2;exact hK _ _ (by simp only[zl,zG,zH];first|exact zf (by omega)|exact zg (by omega)|exact zh (by omega)|exact zi (by omega)|exact zj (by omega)|exact zk (by omega)|exact RX.bneB _|rfl) rfl));(focus (simp only[zA,zB,zC,zD];rfl))));refine hR _ _ ?_;clear hR R)
     refine zeX (fun R hR=>?_)
     refine zgX (by first|rfl|(rw[HO.out];rfl)) rfl (fun K hK=>?_)
     go_wp2_with fail
     refine ((HWI.out _ HV.out.1 HV.out.2.1).1).mono ?_
     rintro e v2 ⟨rfl,hbm⟩
     have tF:=tE.below hbm
     replace HV:=zN (And.intro (HV.out.1.below hbm) (And.intro (HV.out.2.1.below hbm) (HV.out.2.2.below hbm)))
     replace hbf:=hbf.trans (hbm.mono hbf.size)
     clear hbm tE
     refine hK _ _ ⟨tF,hR _ _ ?_⟩;clear hK K hR R
     have tE:=tF
     clear tF
     clear v1
     repeat (refine zeX (fun R hR=>?_);(first|refine zaX (by first|rfl|(rw[HO.out];rfl)) (by simp only[zA,zB,zC,zD];rfl) ?_|refine zbX (by first|rfl|(rw[HO.out];rfl)) rfl (by first|exact .inl rfl|exact .inr rfl) (by simp only[zE,zF,zG,zH];rfl) (by simp only[zA,zB,zC,zD];rfl) ?_|refine zcX (by first|rfl|(rw[HO.out];rfl)) rfl rfl (by simp only[zE,zF,zG,zH];rfl) (by simp only[zA,zB,zC,zD];rfl) ?_|(refine zdX (by first|rfl|(rw[HO.out];rfl)) rfl rfl rfl ?_;apply zEx;apply zEx;refine⟨fun w' hS K hK=>?_,?_,?_⟩;(focus (obtain⟨r0,r1,r2,r3,-⟩:=hS;go_wp2;exact hK _ _ (by simp only[zl,zG,zH];first|exact zf (by omega)|exact zg (by omega)|exact zh (by omega)|exact zi (by omega)|exact zj (by omega)|exact zk (by omega)|exact RX.bneB _|rfl) rfl));(focus (simp only[zA,zB,zC,zD];rfl))));refine hR _ _ ?_;clear hR R)
     refine zeX (fun R hR=>?_)
     refine zgX (by first|rfl|(rw[HO.out];rfl)) rfl (fun K hK=>?_)
     go_wp2_with fail
     refine ((HWI.out _ HV.out.1 HV.out.2.1).2).mono ?_
     rintro e v3 ⟨rfl,hbm⟩
     have tF:=tE.below hbm
     replace HV:=zN (And.intro (HV.out.1.below hbm) (And.intro (HV.out.2.1.below hbm) (HV.out.2.2.below hbm)))
     replace hbf:=hbf.trans (hbm.mono hbf.size)
     clear hbm tE
     refine hK _ _ ⟨tF,hR _ _ ?_⟩;clear hK K hR R
     have tE:=tF
     clear tF
     clear v2
     repeat (refine zeX (fun R hR=>?_);(first|refine zaX (by first|rfl|(rw[HO.out];rfl)) (by simp only[zA,zB,zC,zD];rfl) ?_|refine zbX (by first|rfl|(rw[HO.out];rfl)) rfl (by first|exact .inl rfl|exact .inr rfl) (by simp only[zE,zF,zG,zH];rfl) (by simp only[zA,zB,zC,zD];rfl) ?_|refine zcX (by first|rfl|(rw[HO.out];rfl)) rfl rfl (by simp only[zE,zF,zG,zH];rfl) (by simp only[zA,zB,zC,zD];rfl) ?_|(refine zdX (by first|rfl|(rw[HO.out];rfl)) rfl rfl rfl ?_;apply zEx;apply zEx;refine⟨fun w' hS K hK=>?_,?_,?_⟩;(focus (obtain⟨r0,r1,r2,r3,-⟩:=hS;go_wp2;exact hK _ _ (by simp only[zl,zG,zH];first|exact zf (by omega)|exact zg (by omega)|exact zh (by omega)|exact zi (by omega)|exact zj (by omega)|exact zk (by omega)|exact RX.bneB _|rfl) rfl));(focus (simp only[zA,zB,zC,zD];rfl))));refine hR _ _ ?_;clear hR R)
     refine zeX (fun R hR=>?_)
     refine zgX (by first|rfl|(rw[HO.out];rfl)) rfl (fun K hK=>?_)
     go_wp2_with fail
     refine (certwithin_no 0 0 0 rho _ _ n (n-1) cz (cz-1) _ (by omega)).mono ?_
     rintro e v4 ⟨rfl,hbm⟩
     have tF:=tE.below hbm
     replace HV:=zN (And.intro (HV.out.1.below hbm) (And.intro (HV.out.2.1.below hbm) (HV.out.2.2.below hbm)))
     replace hbf:=hbf.trans (hbm.mono hbf.size)
     clear hbm tE
     refine hK _ _ ⟨tF,hR _ _ ?_⟩;clear hK K hR R
     have tE:=tF
     clear tF
     clear v3
     repeat (refine zeX (fun R hR=>?_);(first|refine zaX (by first|rfl|(rw[HO.out];rfl)) (by simp only[zA,zB,zC,zD];rfl) ?_|refine zbX (by first|rfl|(rw[HO.out];rfl)) rfl (by first|exact .inl rfl|exact .inr rfl) (by simp only[zE,zF,zG,zH];rfl) (by simp only[zA,zB,zC,zD];rfl) ?_|refine zcX (by first|rfl|(rw[HO.out];rfl)) rfl rfl (by simp only[zE,zF,zG,zH];rfl) (by simp only[zA,zB,zC,zD];rfl) ?_|(refine zdX (by first|rfl|(rw[HO.out];rfl)) rfl rfl rfl ?_;apply zEx;apply zEx;refine⟨fun w' hS K hK=>?_,?_,?_⟩;(focus (obtain⟨r0,r1,r2,r3,-⟩:=hS;go_wp2;exact hK _ _ (by simp only[zl,zG,zH];first|exact zf (by omega)|exact zg (by omega)|exact zh (by omega)|exact zi (by omega)|exact zj (by omega)|exact zk (by omega)|exact RX.bneB _|rfl) rfl));(focus (simp only[zA,zB,zC,zD];rfl))));refine hR _ _ ?_;clear hR R)
     refine zeX (fun R hR=>?_)
     refine zgX (by first|rfl|(rw[HO.out];rfl)) rfl (fun K hK=>?_)
     go_wp2_with fail
     refine (rwithin_no 0 0 0 rho _ _ n (n-1) cz (cz-1) _ (by omega)).mono ?_
     rintro e v5 ⟨rfl,hbm⟩
     have tF:=tE.below hbm
     replace HV:=zN (And.intro (HV.out.1.below hbm) (And.intro (HV.out.2.1.below hbm) (HV.out.2.2.below hbm)))
     replace hbf:=hbf.trans (hbm.mono hbf.size)
     clear hbm tE
     refine hK _ _ ⟨tF,hR _ _ ?_⟩;clear hK K hR R
     have tE:=tF
     clear tF
     clear v4
     repeat (refine zeX (fun R hR=>?_);(first|refine zaX (by first|rfl|(rw[HO.out];rfl)) (by simp only[zA,zB,zC,zD];rfl) ?_|refine zbX (by first|rfl|(rw[HO.out];rfl)) rfl (by first|exact .inl rfl|exact .inr rfl) (by simp only[zE,zF,zG,zH];rfl) (by simp only[zA,zB,zC,zD];rfl) ?_|refine zcX (by first|rfl|(rw[HO.out];rfl)) rfl rfl (by simp only[zE,zF,zG,zH];rfl) (by simp only[zA,zB,zC,zD];rfl) ?_|(refine zdX (by first|rfl|(rw[HO.out];rfl)) rfl rfl rfl ?_;apply zEx;apply zEx;refine⟨fun w' hS K hK=>?_,?_,?_⟩;(focus (obtain⟨r0,r1,r2,r3,-⟩:=hS;go_wp2;exact hK _ _ (by simp only[zl,zG,zH];first|exact zf (by omega)|exact zg (by omega)|exact zh (by omega)|exact zi (by omega)|exact zj (by omega)|exact zk (by omega)|exact RX.bneB _|rfl) rfl));(focus (simp only[zA,zB,zC,zD];rfl))));refine hR _ _ ?_;clear hR R)
     refine RX.wpL_nil (hQR _ _ (tE) ?_);clear hQR QR HO OPS
     go_wp2
     go_ret
     refine⟨?_,hbf⟩
     simp
end Go.Proofs.YtojkamfabapcoaaGreatDoor
