import Derived.Test.YtojkamfabapcoaaGreatDoorKLinV
import Derived.Test.YtojkamfabapcoaaGreatDoorKTerms
import Derived.Test.YtojkamfabapcoaaGreatDoorRing
import Derived.Test.YtojkamfabapcoaaGreatDoorKCSys
import Derived.Test.YtojkamfabapcoaaGreatDoorKLaw23
set_option maxRecDepth 100000
set_option maxHeartbeats 8000000
set_option linter.unusedSimpArgs false
set_option linter.unusedVariables false
namespace Go.Proofs.YtojkamfabapcoaaGreatDoor
open Go.RowKit Go.Grid Go.Maps Go.Sort Go.Shelf
def K2 (W wr:World) (g o:Nat):Prop:=W.heap.size≤wr.heap.size∧∀ j,j < W.heap.size→j≠g→j≠o→wr.heap[j]?=W.heap[j]?
theorem K2.refl (W:World) (g o:Nat):K2 W W g o:=⟨Nat.le_refl _,fun _ _ _ _=>rfl⟩
theorem K2.cell {W wr:World} {g o b k:Nat} {v:Value} (h:K2 W wr g o) (hc:W.cell? ⟨b,k,none⟩=some v) (h1:b≠g) (h2:b≠o):wr.cell? ⟨b,k,none⟩=some v:=
 (World.cell?_of_block (h.2 b (zM _ _ hc) h1 h2)).trans hc
theorem K2.grown {W wr w':World} {g o k:Nat} (h:K2 W wr g o) (hg:wr.grownBy w' (some k)) (hk:k=g∨k=o):K2 W w' g o:=
 ⟨Nat.le_trans h.1 hg.size,fun j hj h1 h2=>(hg.block j (Nat.lt_of_lt_of_le hj h.1) (fun e=>by injection e with e;rcases hk with hk|hk<;>omega)).trans (h.2 j hj h1 h2)⟩
theorem K2.set {W wr:World} {g o i:Nat} {v:Value} (h:K2 W wr g o):K2 W (wr.setCell ⟨o,i,none⟩ v) g o:=
 ⟨by simpa[World.setCell] using h.1,fun j hj h1 h2=>(Below.heap_setCell _ _ _ j h2).trans (h.2 j hj h1 h2)⟩
theorem K2.below {W wr w':World} {g o:Nat} (h:K2 W wr g o) (hb:Below wr.heap.size wr w'):K2 W w' g o:=
 ⟨Nat.le_trans h.1 hb.size,fun j hj h1 h2=>(hb.block j (Nat.lt_of_lt_of_le hj h.1)).trans (h.2 j hj h1 h2)⟩
theorem dot_step2 {a:Int} {zs:List Int} {k:Nat} (hk:k < zs.length):a*dotL (zs.take k) (zs.take k)+a*zs[k]*zs[k]=a*dotL (zs.take (k+1)) (zs.take (k+1)):=by
 rw[dotL_take rfl hk,Int.mul_add,Int.mul_assoc]
theorem qf_step2 {s c:Int} {zs:List Int} {D:List I2} {k:Nat} (hk:k < D.length) {d:Int} (hd:d=zs.getD D[k].1.toNat 0-zs.getD D[k].2.toNat 0):c+s*qf zs zs (D.take k)+s*d*d=c+s*qf zs zs (D.take (k+1)):=by
 rw[qf_take hk,←hd,Int.mul_add,Int.mul_assoc];omega
theorem energy_at (f:Nat) (s a:Int) (p:Option Addr) (zs:List Int) (cap n:Nat) (w:World) (hn:zs.length=n) (hT:HasTab w) (hV:VecAt w p zs) (hok:VecOk f s a zs) :
  Calls Tryz.prog 72 #[prv f s a,.slice p n cap] w fun e w'=>e=.returned (.tuple #[wv (energyL s a zs (edgesL f)),.int .i64 0])∧Below w.heap.size w w':=by
 have hpv:Hid (prv f s a=.agg #[.int .i64 f,.int .i64 s,.int .i64 a]):=zN rfl
 have hE:vecErr f s a zs=0:=if_pos hok
 obtain⟨⟨hf1,hf8,hs0,hs1,ha0,ha1⟩,hlen,hsm⟩:=hok
 have hl:n≤1000∧12≤n:=by
  have h1:0≤10*(f:Int)*f:=Int.mul_nonneg (by omega) (by omega)
  have h2:=Int.mul_le_mul (show 10*(f:Int)≤80 by omega) hf8 (by omega) (by omega)
  have h3:=Int.mul_le_mul (show 10≤10*(f:Int) by omega) hf1 (by omega) (by omega)
  omega
 have HIR:=zN (edges_InR (f:=f) (by omega) (by omega) hlen)
 have hDl:=edges_len (n:=f) (by omega)
 have hDin:=edges_in (n:=f) (by omega) (by omega)
 have HZ:=zN (And.intro hn (And.intro hsm hV))
 rw[hpv.out]
 clear hlen
 go_enter Tryz.func72,Tryz.ntmps72
 go_wp2_with fail
 have hB:Below w.heap.size w ((w.alloc (.cells #[.int .i64 f,.int .i64 s,.int .i64 a] 23)).alloc (.cells #[.int .i64 0,.int .u64 0] 56)):=(by repeat (first|(with_reducible first|assumption|exact zBr _ _|refine zBs ?_ (by first|omega|(simp<;>omega)) _|refine zBa ?_ (by first|omega|(simp<;>omega)) _|apply zBd)|assumption))
 have c0:((w.alloc (.cells #[.int .i64 f,.int .i64 s,.int .i64 a] 23)).alloc (.cells #[.int .i64 0,.int .u64 0] 56)).cell? ⟨w.heap.size,0,none⟩=some (.int .i64 f):=(by simp[zO,zJ,zQ])
 have c1:((w.alloc (.cells #[.int .i64 f,.int .i64 s,.int .i64 a] 23)).alloc (.cells #[.int .i64 0,.int .u64 0] 56)).cell? ⟨w.heap.size,1,none⟩=some (.int .i64 s):=(by simp[zO,zJ,zQ])
 have c2:((w.alloc (.cells #[.int .i64 f,.int .i64 s,.int .i64 a] 23)).alloc (.cells #[.int .i64 0,.int .u64 0] 56)).cell? ⟨w.heap.size,2,none⟩=some (.int .i64 a):=(by simp[zO,zJ,zQ])
 have hR:=SumAt.new (w.alloc (.cells #[.int .i64 f,.int .i64 s,.int .i64 a] 23))
 rw[show (w.alloc (.cells #[.int .i64 f,.int .i64 s,.int .i64 a] 23)).heap.size=w.heap.size+1 by simp] at hR
 generalize ((w.alloc (.cells #[.int .i64 f,.int .i64 s,.int .i64 a] 23)).alloc (.cells #[.int .i64 0,.int .u64 0] 56))=W0 at *
 have hvec:=vector_any f s a p zs cap W0 (HZ.out.2.2.below hB) (by rw[HZ.out.1];omega)
 rw[HZ.out.1] at hvec
 refine hvec.mono ?_
 rintro e w1 ⟨rfl,hb1⟩
 clear hvec hn hsm hV
 rw[hE]
 replace hR:=hR.below hb1
 replace c0:=zP hb1 c0
 replace c1:=zP hb1 c1
 replace c2:=zP hb1 c2
 replace hB:=hB.trans (hb1.mono hB.size)
 clear hb1 hE
 clear W0
 go_wp2_with fail
 refine (edges_any f (by omega) (by omega) w1 (hT.below hB)).mono ?_
 rintro e w2 ⟨b5,k5,rfl,hk5,hP,hb5,hb2⟩
 have hR1:=hR.lt
 have hb5l:0 < (edgesL f).length→b5 < w2.heap.size:=fun h=>zM _ _ (hP.c0 0 h)
 have hw12:=hb2.size
 replace hR:=hR.below hb2
 replace c0:=zP hb2 c0
 replace c1:=zP hb2 c1
 replace c2:=zP hb2 c2
 replace hB:=hB.trans (hb2.mono hB.size)
 clear hb2 hT
 go_wp2_with fail
 refine (total_any _).mono ?_
 rintro e w3 ⟨rfl,hS3,hb3⟩
 replace hR:=hR.below hb3
 replace c0:=zP hb3 c0
 replace c1:=zP hb3 c1
 replace c2:=zP hb3 c2
 replace hB:=hB.trans (hb3.mono hB.size)
 obtain⟨g,hg⟩:∃ g,g=w2.heap.size:=⟨_,rfl⟩
 rw[←hg] at hS3 hb5l hw12 ⊢
 have hg2:w.heap.size+2≤g:=by omega
 replace hP:PairsAt w3 b5 (edgesL f):=⟨fun k h=>zP hb3 (hP.c0 k h),fun k h=>zP hb3 (hP.c1 k h),fun k h=>(hb3.frozen (show b5 < w2.heap.size by rw[←hg];exact hb5l (by omega))).trans (hP.f0 k h),fun k h=>(hb3.frozen (show b5 < w2.heap.size by rw[←hg];exact hb5l (by omega))).trans (hP.f1 k h)⟩
 clear hb3 hR1 hw12 hb5 hg
 clear w2
 clear w1
 go_wp2_with fail
 refine (total1_any 0 0 0 g _ hS3 (by omega) (by omega) (by omega) (by omega)).mono ?_
 rintro e w4 ⟨rfl,hS4,hg4⟩
 rw[show (0:Int)+0*0=0 by omega] at hS4
 rw[wv_zero']
 have hgl:=hS3.lt
 replace hR:=hR.grown hg4 (by omega)
 replace c1:=hg4.cell c1 (by simp;omega)
 replace c2:=hg4.cell c2 (by simp;omega)
 replace hP:PairsAt w4 b5 (edgesL f):=⟨fun k h=>hg4.cell (hP.c0 k h) (by have:=hb5l (by omega);simp;omega),fun k h=>hg4.cell (hP.c1 k h) (by have:=hb5l (by omega);simp;omega),fun k h=>(zFb (hg4.block b5 (Nat.lt_trans (hb5l (by omega)) hgl) (by have:=hb5l (by omega);simp;omega))).trans (hP.f0 k h),fun k h=>(zFb (hg4.block b5 (Nat.lt_trans (hb5l (by omega)) hgl) (by have:=hb5l (by omega);simp;omega))).trans (hP.f1 k h)⟩
 replace hB:=hB.grown hg4 hB.size (fun k hk=>by injection hk with hk;omega)
 clear hS3 hg4 c0 hgl
 clear w3
 go_wp2
 have hb6:=(zBr w4.heap.size w4).alloc (Nat.le_refl _) (.cells #[.int .i64 0,.int .u64 0] 56)
 have hO5:=SumAt.new w4
 have hgo:=hS4.lt
 have hs4:=hB.size
 replace hS4:=hS4.below hb6
 replace hR:=hR.below hb6
 replace c1:=zP hb6 c1
 replace c2:=zP hb6 c2
 have HPD:Hid ((∀ k (h:k < (edgesL f).length),(w4.alloc (.cells #[.int .i64 0,.int .u64 0] 56)).cell? ⟨b5,k*2,none⟩=some (.int .i64 (edgesL f)[k].1))∧∀ k (h:k < (edgesL f).length),(w4.alloc (.cells #[.int .i64 0,.int .u64 0] 56)).cell? ⟨b5,k*2+1,none⟩=some (.int .i64 (edgesL f)[k].2)):=
  zN ⟨fun k h=>zP hb6 (hP.c0 k h),fun k h=>zP hb6 (hP.c1 k h)⟩
 replace hB:=hB.trans (hb6.mono hs4)
 obtain⟨o,ho⟩:∃ o,o=w4.heap.size:=⟨_,rfl⟩
 rw[←ho] at hO5 hgo hs4 ⊢
 clear hb6 hP ho
 generalize (w4.alloc (.cells #[.int .i64 0,.int .u64 0] 56))=W5 at *
 clear w4
 have HVW:Hid (VecAt W5 p zs):=zN (HZ.out.2.2.below hB)
 obtain⟨D,hD⟩:∃ D,D=edgesL f:=⟨_,rfl⟩
 rw[←hD] at HPD HIR hDl hDin hb5l hk5 ⊢
 have HD:=zN hD
 have HDin:=zN hDin
 clear hD hDin
 have HC:=zN (And.intro c1 c2)
 clear c1 c2
 go_loopw [38] (fun i wr=>∃ k:Nat,k≤n∧i=.int .i64 k∧SumAt wr g (a*dotL (zs.take k) (zs.take k))∧SumAt wr o (a*dotL (zs.take k) (zs.take k))∧SumAt wr (w.heap.size+1) 0∧Below w.heap.size w wr∧K2 W5 wr g o) (fun i _=>n-(intOf i).toNat)
 case atStart=>exact⟨0,by omega,rfl,by simpa[dotL] using hS4,by simpa[dotL] using hO5,hR,hB,K2.refl _ _ _⟩
 case round=>
  clear hS4 hO5 hR hB
  obtain⟨k,hk,rfl,hSg,hSo,hSr,hB,hK⟩:=hrel
  by_cases hlt:k < n
  ·have hdk:decide ((k:Int) < (n:Int))=true:=zDt (by omega)
   have hkz:k < zs.length:=by rw[HZ.out.1];exact hlt
   obtain⟨bx,ox,rfl,hbx,hcx⟩:=HZ.out.2.2.cell (by omega)
   have xk:=zP hB (hcx k hkz)
   have q2:=hK.cell HC.out.2 (by omega) (by omega)
   have hxr:=HZ.out.2.1 zs[k] (List.getElem_mem _)
   have HSt:=zN (dot_step2 (a:=a) hkz)
   obtain⟨x,hx⟩:∃ x,x=zs[k]:=⟨_,rfl⟩
   rw[←hx] at xk hxr HSt
   have hmb:=mul_bd (s:=a) (d:=x) (by omega) (by omega) (by omega) (by omega)
   obtain⟨y,hy⟩:∃ y,a*x=y:=⟨_,rfl⟩
   rw[hy] at hmb HSt
   clear hcx hx
   go_wp2_with fail
   refine (total1_any y x _ g _ hSg (by omega) (by omega) (by omega) (by omega)).mono ?_
   rintro e w6 ⟨rfl,hS6,hg6⟩
   rw[HSt.out] at hS6 ⊢
   have hO6:=hSo.grown hg6 (by omega)
   have hR6:=hSr.grown hg6 (by omega)
   have hB6:Below w.heap.size w w6:=hB.grown hg6 hB.size (fun k hk=>by injection hk with hk;omega)
   have hK6:=hK.grown hg6 (.inl rfl)
   obtain⟨C,E,hC,hE,hVal⟩:=wv_parts (a*dotL (zs.take (k+1)) (zs.take (k+1)))
   rw[hVal]
   have HO6:=zN hO6
   obtain⟨y0,y1,z0,z1⟩:=hO6
   have HCE:=zN (And.intro hC hE)
   have HX:=zN (And.intro hS6 (And.intro hR6 (And.intro hB6 hK6)))
   clear hSg hSo hSr hB hK hC hE hVal hg6 hS6 hR6 hB6 hK6 xk q2 HSt
   go_wp2
   have HS1:Hid (SumAt ((w6.setCell ⟨o,0,none⟩ (.int .i64 C)).setCell ⟨o,1,none⟩ (.int .u64 E)) o (a*dotL (zs.take (k+1)) (zs.take (k+1)))):=zN (sum_store HO6.out HCE.out.1 HCE.out.2)
   go_roundw
   case rel=>exact⟨k+1,by omega,by go_num,HX.out.1.set2 (by omega),HS1.out,HX.out.2.1.set2 (by omega),(HX.out.2.2.1.setCell (by simp;omega) _).setCell (by simp;omega) _,HX.out.2.2.2.set.set⟩
   case measure=>simp[intOf];omega
  ·obtain rfl:k=n:=by omega
   have hdk:decide ((k:Int) < (k:Int))=false:=zDf (by omega)
   have e1:a*dotL (zs.take k) (zs.take k)=a*dotL zs zs+s*qf zs zs (D.take 0):=by rw[←HZ.out.1,List.take_length];simp[qf]
   rw[e1] at hSg hSo
   clear e1
   go_wp2
   go_loopw [52] (fun i wr=>∃ j:Nat,j≤D.length∧i=.int .i64 j∧SumAt wr g (a*dotL zs zs+s*qf zs zs (D.take j))∧SumAt wr o (a*dotL zs zs+s*qf zs zs (D.take j))∧SumAt wr (w.heap.size+1) 0∧Below w.heap.size w wr∧K2 W5 wr g o) (fun i _=>D.length-(intOf i).toNat)
   case atStart=>exact⟨0,by omega,rfl,hSg,hSo,hSr,hB,hK⟩
   case round=>
    clear hSg hSo hSr hB hK
    obtain⟨j,hj,rfl,hSg,hSo,hSr,hB,hK⟩:=hrel
    by_cases hlt:j < D.length
    ·have hdk:decide ((j:Int) < (D.length:Int))=true:=zDt (by omega)
     have hb5g:=hb5l (by omega)
     have x0:=hK.cell (HPD.out.1 j hlt) (by omega) (by omega)
     have x1:=hK.cell (HPD.out.2 j hlt) (by omega) (by omega)
     obtain⟨c,hc⟩:∃ c,c=D[j]:=⟨_,rfl⟩
     obtain⟨g1,_,g3,_⟩:=HDin.out D[j] (List.getElem_mem _)
     obtain⟨r1,r2⟩:=HIR.out D[j] (List.getElem_mem _)
     have HQ:Hid (∀ d,d=zs.getD D[j].1.toNat 0-zs.getD D[j].2.toNat 0→a*dotL zs zs+s*qf zs zs (D.take j)+s*d*d=a*dotL zs zs+s*qf zs zs (D.take (j+1))):=zN (fun d hd=>qf_step2 hlt hd)
     rw[←hc] at x0 x1 g1 g3 r1 r2 HQ
     obtain⟨cA,cB'⟩:=c
     dsimp only at x0 x1 g1 g3 r1 r2 HQ
     obtain⟨ia,rfl⟩:∃ ia:Nat,cA=(ia:Int):=⟨cA.toNat,by omega⟩
     obtain⟨ib,rfl⟩:∃ ib:Nat,cB'=(ib:Int):=⟨cB'.toNat,by omega⟩
     simp only[Int.toNat_natCast] at r1 r2 HQ
     have hian:ia < k:=by rw[←HZ.out.1];exact r1
     have hibn:ib < k:=by rw[←HZ.out.1];exact r2
     obtain⟨bx,ox,rfl,hbx,hcx⟩:=HZ.out.2.2.cell (by omega)
     have xa:=zP hB (hcx ia r1)
     have xb:=zP hB (hcx ib r2)
     have q1:=hK.cell HC.out.1 (by omega) (by omega)
     have hza:=HZ.out.2.1 zs[ia] (List.getElem_mem _)
     have hzb:=HZ.out.2.1 zs[ib] (List.getElem_mem _)
     have ea:zs.getD ia 0=zs[ia]:=by simp[List.getD,List.getElem?_eq_getElem r1]
     have eb:zs.getD ib 0=zs[ib]:=by simp[List.getD,List.getElem?_eq_getElem r2]
     rw[ea,eb] at HQ
     clear ea eb
     generalize zs[ia]=za at *
     generalize zs[ib]=zb at *
     have hmb:=mul_bd (s:=s) (d:=za-zb) (by omega) (by omega) (by omega) (by omega)
     have HSt:=zN (HQ.out _ rfl)
     obtain⟨d,hd⟩:∃ d,za-zb=d:=⟨_,rfl⟩
     rw[hd] at hmb HSt
     have hdb:-2097152≤d∧d≤2097152:=by omega
     obtain⟨y,hy⟩:∃ y,s*d=y:=⟨_,rfl⟩
     rw[hy] at hmb HSt
     have hwl:=hSg.lt
     have hBs:=hB.size
     have l1:bx < wr.heap.size:=by omega
     have l2:w.heap.size < wr.heap.size:=by omega
     have l4:¬ (bx=wr.heap.size):=by omega
     have l5:¬ (w.heap.size=wr.heap.size):=by omega
     have HBf:=zN (And.intro hSg (And.intro hSo (And.intro hSr (And.intro hB hK))))
     clear hcx hc g1 g3 r1 r2 HQ hSg hSo hSr hB hK
     go_wp2
     refine RX.region RX.fN (fun w'=>w'=_) (by kernel_rfl) (by kernel_rfl) rfl (fun OPS HO QR hQR=>?_)
     repeat (refine zeX (fun R hR=>?_);(first|refine zaX (by first|rfl|(rw[HO.out];rfl)) (by simp only[zA,zB,zC,zD];rfl) ?_|refine zbX (by first|rfl|(rw[HO.out];rfl)) rfl (by first|exact .inl rfl|exact .inr rfl) (by simp only[zE,zF,zG,zH];rfl) (by simp only[zA,zB,zC,zD];rfl) ?_|refine zcX (by first|rfl|(rw[HO.out];rfl)) rfl rfl (by simp only[zE,zF,zG,zH];rfl) (by simp only[zA,zB,zC,zD];rfl) ?_|(refine zdX (by first|rfl|(rw[HO.out];rfl)) rfl rfl rfl ?_;apply zEx;apply zEx;refine⟨fun w' hS K hK=>?_,?_,?_⟩;(focus (subst hS;go_wp2;exact hK _ _ (by simp only[zl,zG,zH];first|exact zf (by omega)|exact zg (by omega)|exact zh (by omega)|exact zi (by omega)|exact zj (by omega)|exact zk (by omega)|exact RX.bneB _|rfl) rfl));(focus (simp only[zA,zB,zC,zD];rfl))));refine hR _ _ ?_;clear hR R)
     refine RX.wpL_nil (hQR _ _ rfl ?_);clear hQR QR HO OPS
     go_wp2_with fail
     obtain⟨hSg,hSo,hSr,hB,hK⟩:=HBf.out
     have hb6:=(zBr wr.heap.size wr).alloc (Nat.le_refl _) (.cells #[.int .i64 ia,.int .i64 ib] 96)
     replace hSg:=(hSg.below hb6).drew
     replace hSo:=(hSo.below hb6).drew
     replace hSr:=(hSr.below hb6).drew
     replace hB:=(hB.trans (hb6.mono hB.size)).drew
     replace hK:K2 W5 (wr.alloc (.cells #[.int .i64 ia,.int .i64 ib] 96)).drew g o:=hK.below hb6.drew
     replace q1:(wr.alloc (.cells #[.int .i64 ia,.int .i64 ib] 96)).drew.cell? ⟨w.heap.size,1,none⟩=some (.int .i64 s):=zP hb6.drew q1
     clear hb6 x0 x1 xa xb HBf l4 l5
     generalize (wr.alloc (.cells #[.int .i64 ia,.int .i64 ib] 96)).drew=W6 at *
     refine (total1_any y d _ g _ hSg (by omega) (by omega) (by omega) (by omega)).mono ?_
     rintro e w7 ⟨rfl,hS6,hg6⟩
     rw[HSt.out] at hS6 ⊢
     have hO6:=hSo.grown hg6 (by omega)
     have hR6:=hSr.grown hg6 (by omega)
     have hB6:Below w.heap.size w w7:=hB.grown hg6 hB.size (fun k hk=>by injection hk with hk;omega)
     have hK6:=hK.grown hg6 (.inl rfl)
     obtain⟨C,E,hC,hE,hVal⟩:=wv_parts (a*dotL zs zs+s*qf zs zs (D.take (j+1)))
     rw[hVal]
     have HO6:=zN hO6
     obtain⟨y0,y1,z0,z1⟩:=hO6
     have HCE:=zN (And.intro hC hE)
     have HX:=zN (And.intro hS6 (And.intro hR6 (And.intro hB6 hK6)))
     clear hSg hSo hSr hB hK hC hE hVal hg6 hS6 hR6 hB6 hK6 q1 HSt
     go_wp2
     have HS1:Hid (SumAt ((w7.setCell ⟨o,0,none⟩ (.int .i64 C)).setCell ⟨o,1,none⟩ (.int .u64 E)) o (a*dotL zs zs+s*qf zs zs (D.take (j+1)))):=zN (sum_store HO6.out HCE.out.1 HCE.out.2)
     go_roundw
     case rel=>exact⟨j+1,by omega,by go_num,HX.out.1.set2 (by omega),HS1.out,HX.out.2.1.set2 (by omega),(HX.out.2.2.1.setCell (by simp;omega) _).setCell (by simp;omega) _,HX.out.2.2.2.set.set⟩
     case measure=>simp[intOf];omega
    ·obtain rfl:j=D.length:=by omega
     have hdk:decide ((D.length:Int) < (D.length:Int))=false:=zDf (by omega)
     have e1:a*dotL zs zs+s*qf zs zs (D.take D.length)=energyL s a zs D:=by rw[List.take_length];rfl
     rw[e1] at hSg hSo
     clear e1 hSg
     obtain⟨C,E,hC,hE,hVal⟩:=wv_parts (energyL s a zs D)
     obtain⟨y0,y1,_,_⟩:=hSo
     rw[←hC] at y0
     rw[←hE] at y1
     have HR:=zN hSr
     obtain⟨x0,x1,z0,z1⟩:=hSr
     have hoR:¬ o=w.heap.size+1:=by omega
     have HCE:=zN (And.intro hC hE)
     have HV:=zN hVal
     clear hC hE hVal
     go_wp2
     refine bodyPost_ret (v:=.tuple #[.agg #[.int .i64 C,.int .u64 E],.int .i64 0]) ?_ rfl ⟨by rw[←HD.out,HV.out],(hB.setCell (by simp) _).setCell (by simp) _⟩
     obtain⟨q0,q1,_,_⟩:=sum_store HR.out HCE.out.1 HCE.out.2
     rw[←HCE.out.1] at q0
     rw[←HCE.out.2] at q1
     generalize ((wr.setCell ⟨w.heap.size+1,0,none⟩ (.int .i64 C)).setCell ⟨w.heap.size+1,1,none⟩ (.int .u64 E))=W at q0 q1 ⊢
     simp[results,Tryz.results72,go_sem,q0,q1]
open Go.RowKit Go.Grid
def misL (S:Sy) (x:List Int) (k:Nat):Int:=S.targets.getD k 0-valL (S.rows.getD k ⟨[],0,0,0⟩).sh x
def costTo (S:Sy) (x:List Int):Nat→Int
 |0=>energyL S.s S.a x (edgesL S.f.toNat)
 |k+1=>costTo S x k+(S.rows.getD k ⟨[],0,0,0⟩).weight*misL S x k*misL S x k
def costL (S:Sy) (x:List Int):Int:=costTo S x S.rows.length
theorem ccost_ok (S:Sy) (v:Value) (p:Option Addr) (x:List Int) (xc:Nat) (w:World) (hT:HasTab w) (hS:SysIn w v S) (hok:SyOk S) (hV:VecAt w p x) (hvo:VecOk S.f S.s S.a x) :
  Calls Tryz.prog 25 #[v,.slice p x.length xc] w fun e w'=>e=.returned (.tuple #[wv (costL S x),.int .i64 0])∧Below w.heap.size w w':=by
 have hE:sysErr S=0:=syOk_iff.2 hok
 have HS:=zN hS
 have HOK:=zN hok
 obtain⟨p1,d1,p2,d2,rfl,hd1,hd2,hR,hTg⟩:=hS
 have HR:=zN hR
 have HTG:=zN hTg
 have HX:=zN hV
 have hxb:Bd 1048576 x:=hvo.2.2
 have HXB:Hid (Bd 1099511627776 x):=zN (hxb.mono (by omega))
 have HXB0:=zN hxb
 have hxl:x.length≤1000:=by have:=hok.nodes;have:=hvo.2.1;omega
 have hfn:((S.f.toNat:Nat):Int)=S.f:=Int.toNat_of_nonneg (by have:=hok.1.1;omega)
 have HEN:Hid (∀ w',HasTab w'→VecAt w' p x→Calls Tryz.prog 72 #[.agg #[.int .i64 S.f,.int .i64 S.s,.int .i64 S.a],.slice p x.length xc] w' fun e w''=>e=.returned (.tuple #[wv (energyL S.s S.a x (edgesL S.f.toNat)),.int .i64 0])∧Below w'.heap.size w' w''):=zN (fun w' h1 h2=>by
  have h:=energy_at S.f.toNat S.s S.a p x xc x.length w' rfl h1 h2 (vecOk_nat hvo)
  rw[hfn] at h
  exact h)
 have HTL:=zN hok.2.2.1
 have hrl:S.rows.length≤200:=hok.2.1
 have HC0:Hid (costTo S x 0=energyL S.s S.a x (edgesL S.f.toNat)):=zN rfl
 have HTB:=zN hT
 clear hR hTg hV hxb hfn hok hvo hT
 go_enter Tryz.func25,Tryz.ntmps25
 go_wp2_with fail
 refine (ccheck_any S _ _ (HS.out.below (by repeat (first|(with_reducible first|assumption|exact zBr _ _|refine zBs ?_ (by first|omega|(simp<;>omega)) _|refine zBa ?_ (by first|omega|(simp<;>omega)) _|apply zBd)|assumption))) HOK.out.len).mono ?_
 rintro e w1 ⟨rfl,hb1⟩
 rw[hE]
 have hB:Below w.heap.size w w1:=Below.trans (by repeat (first|(with_reducible first|assumption|exact zBr _ _|refine zBs ?_ (by first|omega|(simp<;>omega)) _|refine zBa ?_ (by first|omega|(simp<;>omega)) _|apply zBd)|assumption)) (hb1.mono (by simp<;>omega))
 have c0:w1.cell? ⟨w.heap.size,0,none⟩=some (.int .i64 S.f):=zP hb1 (by simp[zO,zJ,zQ])
 have c1:w1.cell? ⟨w.heap.size,1,none⟩=some (.int .i64 S.s):=zP hb1 (by simp[zO,zJ,zQ])
 have c2:w1.cell? ⟨w.heap.size,2,none⟩=some (.int .i64 S.a):=zP hb1 (by simp[zO,zJ,zQ])
 have c3:w1.cell? ⟨w.heap.size,3,none⟩=some (.slice p1 S.rows.length d1):=zP hb1 (by simp[zO,zJ,zQ])
 have c4:w1.cell? ⟨w.heap.size,4,none⟩=some (.slice p2 S.targets.length d2):=zP hb1 (by simp[zO,zJ,zQ])
 have r0:w1.cell? ⟨w.heap.size+1,0,none⟩=some (.int .i64 0):=zP hb1 (by simp[zO,zJ,zQ])
 have r1:w1.cell? ⟨w.heap.size+1,1,none⟩=some (.int .u64 0):=zP hb1 (by simp[zO,zJ,zQ])
 have rf:∀ k,w1.frozen? ⟨w.heap.size+1,k,none⟩=false:=fun k=>by
  rw[zFb (hb1.block _ (by simp))];simp
 clear hb1 hE
 go_wp2_with fail
 refine (HEN.out _ (HTB.out.below hB) (HX.out.below hB)).mono ?_
 rintro e w2 ⟨rfl,hb2⟩
 rw[←HC0.out]
 obtain⟨C0,D0,q1,q2,hS0⟩:=wv_parts (costTo S x 0)
 clear q1 q2
 rw[hS0]
 have HS0:=zN hS0
 clear hS0
 have m3:=zP hb2 c3
 have m4:=zP hb2 c4
 have e0:=zP hb2 r0
 have e1:=zP hb2 r1
 have hsz:w.heap.size+1 < w2.heap.size:=zM _ _ e0
 have hr0l:w.heap.size+1 < w1.heap.size:=zM _ _ r0
 have ef:∀ k,w2.frozen? ⟨w.heap.size+1,k,none⟩=false:=fun k=>(hb2.frozen (p:=⟨w.heap.size+1,k,none⟩) hr0l).trans (rf k)
 have HB2:=zN (hB.trans (hb2.mono hB.size))
 have hsz2:w.heap.size < w2.heap.size:=by omega
 clear hb2 hB c0 c1 c2 c3 c4 r0 r1 rf HEN HS hr0l
 go_wp2
 refine absW (F:=fun w'=>w'.cell? ⟨w2.heap.size,0,none⟩=some (.int .i64 C0)∧w'.cell? ⟨w2.heap.size,1,none⟩=some (.int .u64 D0)∧w'.frozen? ⟨w2.heap.size,0,none⟩=false∧w'.frozen? ⟨w2.heap.size,1,none⟩=false∧Below w2.heap.size w2 w') ⟨(by simp[zO,zJ,zQ]),(by simp[zO,zJ,zQ]),by simp,by simp,(by repeat (first|(with_reducible first|assumption|exact zBr _ _|refine zBs ?_ (by first|omega|(simp<;>omega)) _|refine zBa ?_ (by first|omega|(simp<;>omega)) _|apply zBd)|assumption))⟩ ?_
 rintro W4 ⟨s0,s1,sf0,sf1,hb4⟩
 obtain⟨Wb,hWb⟩:∃ Wb,Wb=w2.heap.size:=⟨_,rfl⟩
 rw[←hWb] at s0 s1 sf0 sf1 ⊢
 have HB4:=zN hb4
 have hne1:¬ (w.heap.size=Wb):=by omega
 have hne2:¬ (w.heap.size+1=Wb):=by omega
 have HWB:=zN hWb
 clear hWb hb4
 go_loopw [32] (fun i wr=>∃ (k:Nat) (C D:Int),k≤S.rows.length∧i=.int .i64 k∧Hid (wv (costTo S x k)=.agg #[.int .i64 C,.int .u64 D])∧wr.cell? ⟨Wb,0,none⟩=some (.int .i64 C)∧wr.cell? ⟨Wb,1,none⟩=some (.int .u64 D)∧wr.frozen? ⟨Wb,0,none⟩=false∧wr.frozen? ⟨Wb,1,none⟩=false∧W4.grownBy wr (some Wb)) (fun i _=>S.rows.length-(intOf i).toNat)
 case atStart=>exact⟨0,C0,D0,Nat.zero_le _,rfl,HS0,s0,s1,sf0,sf1,⟨rfl,rfl,rfl,Nat.le_refl _,fun _ _ _=>rfl⟩⟩
 case round=>
  clear s0 s1 sf0 sf1
  obtain⟨k,C,D,hk,rfl,HV,s0,s1,sf0,sf1,hgr⟩:=hrel
  have hgr2:w2.grownBy wr (some Wb):=(grw_below HB4.out _).trans hgr
  have hb2r:Below w2.heap.size w2 wr:=(zBr _ _).grown hgr2 (Nat.le_refl _) (fun k hk=>by injection hk with hk;have:=HWB.out;omega)
  by_cases hlt:k < S.rows.length
  ·have hdk:decide ((k:Int) < (S.rows.length:Int))=true:=zDt (by omega)
   have hltT:k < S.targets.length:=by rw[HTL.out];exact hlt
   have hbw:Below w.heap.size w wr:=HB2.out.trans (hb2r.mono HB2.out.size)
   obtain⟨bR,oR,rfl,hbR,hcR⟩:=(HR.out.below hbw).get (by omega)
   obtain⟨bT,oT,rfl,hbT,hcT⟩:=(HTG.out.below hbw).cell (by omega)
   obtain⟨q,cap,g0,gcap,gsh,g1,g2,g3⟩:=hcR k hlt
   have tk:=hcT k hltT
   have hrow:=HOK.out.row (List.getElem_mem hlt)
   have htg:=HOK.out.target (List.getElem_mem hltT)
   have hvb:=hrow.2.2.1.val_all HXB0.out (by omega)
   have HSTEP:Hid (costTo S x (k+1)=costTo S x k+S.rows[k].weight*(S.targets[k]-valL S.rows[k].sh x)*(S.targets[k]-valL S.rows[k].sh x)):=zN (by
    show costTo S x k+(S.rows.getD k ⟨[],0,0,0⟩).weight*misL S x k*misL S x k=_
    unfold misL
    rw[show S.rows.getD k ⟨[],0,0,0⟩=S.rows[k] by simp[List.getD,List.getElem?_eq_getElem hlt],i64_get hltT])
   obtain⟨r,hr⟩:∃ r,r=S.rows[k]:=⟨_,rfl⟩
   obtain⟨t,ht⟩:∃ t,t=S.targets[k]:=⟨_,rfl⟩
   rw[←hr] at g0 gcap gsh g1 g2 g3 hrow HSTEP hvb
   rw[←ht] at tk htg HSTEP
   obtain⟨m,hm⟩:∃ m,t-valL r.sh x=m:=⟨_,rfl⟩
   rw[hm] at HSTEP
   have hmb:-8589934592≤m∧m≤8589934592:=by omega
   have hpb:=fprod_bd (a:=r.weight) (b:=m) (A:=100) (B:=8589934592) (by have:=hrow.2.1;omega) hrow.2.1.2 hmb.1 hmb.2 (by omega)
   obtain⟨wm,hwm⟩:∃ wm,r.weight*m=wm:=⟨_,rfl⟩
   rw[hwm] at HSTEP hpb
   have HM:=zN hm
   have HSW:=zN hrow.2.2.1
   have hshl:=hrow.2.2.2.1
   have HG:=zN gsh
   have HXr:=zN (HX.out.below hbw)
   have m4r:=zP hb2r m4
   have hWl:Wb < wr.heap.size:=zM _ _ s0
   have hkL:(k:Int) < (S.targets.length:Int):=by omega
   have hk0:(0:Int)≤(k:Int):=by omega
   have HGR:=zN hgr
   clear hr ht hm gsh hcR hcT hbw hb2r hgr2 hgr hrow hvb htg
   go_wp2
   refine absW (F:=fun w'=>w'.cell? ⟨wr.heap.size,0,none⟩=some (.slice q r.sh.length cap)∧w'.cell? ⟨wr.heap.size,1,none⟩=some (.int .i64 r.value)∧w'.cell? ⟨wr.heap.size,2,none⟩=some (.int .i64 r.weight)∧w'.cell? ⟨wr.heap.size,3,none⟩=some (.int .i64 r.report)∧w'.cell? ⟨w.heap.size,4,none⟩=some (.slice (some ⟨bT,oT,none⟩) S.targets.length d2)∧w'.cell? ⟨bT,oT+k,none⟩=some (.int .i64 t)∧Below wr.heap.size wr w') ⟨(by simp[zO,zJ,zQ]),(by simp[zO,zJ,zQ]),(by simp[zO,zJ,zQ]),(by simp[zO,zJ,zQ]),zP (show Below wr.heap.size wr _ from (by repeat (first|(with_reducible first|assumption|exact zBr _ _|refine zBs ?_ (by first|omega|(simp<;>omega)) _|refine zBa ?_ (by first|omega|(simp<;>omega)) _|apply zBd)|assumption))) m4r,zP (show Below wr.heap.size wr _ from (by repeat (first|(with_reducible first|assumption|exact zBr _ _|refine zBs ?_ (by first|omega|(simp<;>omega)) _|refine zBa ?_ (by first|omega|(simp<;>omega)) _|apply zBd)|assumption))) tk,(by repeat (first|(with_reducible first|assumption|exact zBr _ _|refine zBs ?_ (by first|omega|(simp<;>omega)) _|refine zBa ?_ (by first|omega|(simp<;>omega)) _|apply zBd)|assumption))⟩ ?_
   rintro W5 ⟨a0,a1,a2,a3,a4,a5,hb5⟩
   have HB5:=zN hb5
   clear hb5 g0 g1 g2 g3 tk m4r
   refine RX.region RX.fN (fun w'=>w'.cell? ⟨wr.heap.size,0,none⟩=some (.slice q r.sh.length cap)∧w'.cell? ⟨wr.heap.size,1,none⟩=some (.int .i64 r.value)∧w'.cell? ⟨wr.heap.size,2,none⟩=some (.int .i64 r.weight)∧w'.cell? ⟨wr.heap.size,3,none⟩=some (.int .i64 r.report)∧w'.cell? ⟨w.heap.size,4,none⟩=some (.slice (some ⟨bT,oT,none⟩) S.targets.length d2)∧w'.cell? ⟨bT,oT+k,none⟩=some (.int .i64 t)) (by kernel_rfl) (by kernel_rfl) (⟨a0,a1,a2,a3,a4,a5⟩) (fun OPS HO QR hQR=>?_)
   repeat (refine zeX (fun R hR=>?_);(first|refine zaX (by first|rfl|(rw[HO.out];rfl)) (by simp only[zA,zB,zC,zD];rfl) ?_|refine zbX (by first|rfl|(rw[HO.out];rfl)) rfl (by first|exact .inl rfl|exact .inr rfl) (by simp only[zE,zF,zG,zH];rfl) (by simp only[zA,zB,zC,zD];rfl) ?_|refine zcX (by first|rfl|(rw[HO.out];rfl)) rfl rfl (by simp only[zE,zF,zG,zH];rfl) (by simp only[zA,zB,zC,zD];rfl) ?_|(refine zdX (by first|rfl|(rw[HO.out];rfl)) rfl rfl rfl ?_;apply zEx;apply zEx;refine⟨fun w' hS K hK=>?_,?_,?_⟩;(focus (obtain⟨hS1,hS2,hS3,hS4,hS5,hS6⟩:=hS;go_wp2;exact hK _ _ (by simp only[zl,zG,zH];first|exact zf (by omega)|exact zg (by omega)|exact zh (by omega)|exact zi (by omega)|exact zj (by omega)|exact zk (by omega)|exact RX.bneB _|rfl) rfl));(focus (simp only[zA,zB,zC,zD];rfl))));refine hR _ _ ?_;clear hR R)
   refine zeX (fun R hR=>?_)
   refine zgX (by first|rfl|(rw[HO.out];rfl)) rfl (fun K hK=>?_)
   go_wp2_with fail
   refine (cmisfit_any r q cap t x p xc _ ?_ gcap (by omega) HSW.out ?_ HXB.out (by omega) (by have:=HM.out;have:=HSW.out.val_all HXB0.out (by omega);omega)).mono ?_
   ·exact (HG.out.below HB5.out).below (by repeat (first|(with_reducible first|assumption|exact zBr _ _|refine zBs ?_ (by first|omega|(simp<;>omega)) _|refine zBa ?_ (by first|omega|(simp<;>omega)) _|apply zBd)|assumption))
   ·exact (HXr.out.below HB5.out).below (by repeat (first|(with_reducible first|assumption|exact zBr _ _|refine zBs ?_ (by first|omega|(simp<;>omega)) _|refine zBa ?_ (by first|omega|(simp<;>omega)) _|apply zBd)|assumption))
   rintro e w6 ⟨rfl,hb6⟩
   rw[HM.out]
   replace hb6:Below W5.heap.size W5 w6:=⟨hb6.os,hb6.tape,hb6.output,hb6.size,hb6.block⟩
   have hb7:Below wr.heap.size wr w6:=HB5.out.trans (hb6.mono HB5.out.size)
   have z0:=zP hb6 a0
   have z1:=zP hb6 a1
   have z2:=zP hb6 a2
   have z3:=zP hb6 a3
   have z4:=zP hb6 a4
   have z5:=zP hb6 a5
   have u0:=zP hb7 s0
   have u1:=zP hb7 s1
   have uf0:w6.frozen? ⟨Wb,0,none⟩=false:=(zFb (hb7.block _ hWl)).trans sf0
   have uf1:w6.frozen? ⟨Wb,1,none⟩=false:=(zFb (hb7.block _ hWl)).trans sf1
   have HB7:=zN hb7
   clear hb6 hb7 a0 a1 a2 a3 a4 a5 s0 s1 sf0 sf1
   refine hK _ _ ⟨⟨z0,z1,z2,z3,z4,z5⟩,hR _ _ ?_⟩;clear hK K hR R
   repeat (refine zeX (fun R hR=>?_);(first|refine zaX (by first|rfl|(rw[HO.out];rfl)) (by simp only[zA,zB,zC,zD];rfl) ?_|refine zbX (by first|rfl|(rw[HO.out];rfl)) rfl (by first|exact .inl rfl|exact .inr rfl) (by simp only[zE,zF,zG,zH];rfl) (by simp only[zA,zB,zC,zD];rfl) ?_|refine zcX (by first|rfl|(rw[HO.out];rfl)) rfl rfl (by simp only[zE,zF,zG,zH];rfl) (by simp only[zA,zB,zC,zD];rfl) ?_|(refine zdX (by first|rfl|(rw[HO.out];rfl)) rfl rfl rfl ?_;apply zEx;apply zEx;refine⟨fun w' hS K hK=>?_,?_,?_⟩;(focus (obtain⟨hS1,hS2,hS3,hS4,hS5,hS6⟩:=hS;go_wp2;exact hK _ _ (by simp only[zl,zG,zH];first|exact zf (by omega)|exact zg (by omega)|exact zh (by omega)|exact zi (by omega)|exact zj (by omega)|exact zk (by omega)|exact RX.bneB _|rfl) rfl));(focus (simp only[zA,zB,zC,zD];rfl))));refine hR _ _ ?_;clear hR R)
   refine RX.wpL_nil (hQR _ _ (⟨z0,z1,z2,z3,z4,z5⟩) ?_);clear hQR QR HO OPS
   clear z0 z1 z3 z4 z5
   have hRb:wr.heap.size < w6.heap.size:=zM _ _ z2
   go_wp2
   refine RY.region RX.fN (fun w'=>w'.cell? ⟨wr.heap.size,2,none⟩=some (.int .i64 r.weight)∧w'.cell? ⟨Wb,0,none⟩=some (.int .i64 C)∧w'.cell? ⟨Wb,1,none⟩=some (.int .u64 D)) (by kernel_rfl) (by kernel_rfl) (⟨z2,u0,u1⟩) (fun OPS HO QR hQR=>?_)
   repeat (refine zeY (fun R hR=>?_);(first|refine zaY (by first|rfl|(rw[HO.out];rfl)) (by simp only[zA,zB,zC,zD];rfl) ?_|refine zbY (by first|rfl|(rw[HO.out];rfl)) rfl (by first|exact .inl rfl|exact .inr rfl) (by simp only[zE,zF,zG,zH];rfl) (by simp only[zA,zB,zC,zD];rfl) ?_|refine zcY (by first|rfl|(rw[HO.out];rfl)) rfl rfl (by simp only[zE,zF,zG,zH];rfl) (by simp only[zA,zB,zC,zD];rfl) ?_|(refine zdY (by first|rfl|(rw[HO.out];rfl)) rfl rfl rfl ?_;apply zEx;apply zEx;refine⟨fun w' hS K hK=>?_,?_,?_⟩;(focus (obtain⟨hS1,hS2,hS3⟩:=hS;go_wp2;exact hK _ _ (by simp only[zl,zG,zH];first|exact zf (by omega)|exact zg (by omega)|exact zh (by omega)|exact zi (by omega)|exact zj (by omega)|exact zk (by omega)|exact RX.bneB _|rfl) rfl));(focus (simp only[zA,zB,zC,zD];rfl))));refine hR _ _ ?_;clear hR R)
   refine zeY (fun R hR=>?_)
   refine zgY (by first|rfl|(rw[HO.out];rfl)) rfl (fun K hK=>?_)
   go_wp2_with fail
   refine (product_wv _ _ _ (by omega) (by omega) (by omega) (by omega)).mono ?_
   rintro e w7 ⟨rfl,hb8⟩
   replace hb8:Below w6.heap.size w6 w7:=⟨hb8.os,hb8.tape,hb8.output,hb8.size,hb8.block⟩
   have y2:=zP hb8 z2
   have y0:=zP hb8 u0
   have y1:=zP hb8 u1
   have hWl6:Wb < w6.heap.size:=zM _ _ u0
   have yf0:w7.frozen? ⟨Wb,0,none⟩=false:=(hb8.frozen (p:=⟨Wb,0,none⟩) hWl6).trans uf0
   have yf1:w7.frozen? ⟨Wb,1,none⟩=false:=(hb8.frozen (p:=⟨Wb,1,none⟩) hWl6).trans uf1
   have HB8:Hid (Below wr.heap.size wr w7):=zN (HB7.out.trans (hb8.mono HB7.out.size))
   clear hb8 z2 u0 u1 uf0 uf1
   refine hK _ _ ⟨.inr (⟨y2,y0,y1⟩),hR _ _ ?_⟩;clear hK K hR R
   repeat (refine zeY (fun R hR=>?_);(first|refine zaY (by first|rfl|(rw[HO.out];rfl)) (by simp only[zA,zB,zC,zD];rfl) ?_|refine zbY (by first|rfl|(rw[HO.out];rfl)) rfl (by first|exact .inl rfl|exact .inr rfl) (by simp only[zE,zF,zG,zH];rfl) (by simp only[zA,zB,zC,zD];rfl) ?_|refine zcY (by first|rfl|(rw[HO.out];rfl)) rfl rfl (by simp only[zE,zF,zG,zH];rfl) (by simp only[zA,zB,zC,zD];rfl) ?_|(refine zdY (by first|rfl|(rw[HO.out];rfl)) rfl rfl rfl ?_;apply zEx;apply zEx;refine⟨fun w' hS K hK=>?_,?_,?_⟩;(focus (obtain⟨hS1,hS2,hS3⟩:=hS;go_wp2;exact hK _ _ (by simp only[zl,zG,zH];first|exact zf (by omega)|exact zg (by omega)|exact zh (by omega)|exact zi (by omega)|exact zj (by omega)|exact zk (by omega)|exact RX.bneB _|rfl) rfl));(focus (simp only[zA,zB,zC,zD];rfl))));refine hR _ _ ?_;clear hR R)
   refine zeY (fun R hR=>?_)
   refine zgY (by first|rfl|(rw[HO.out];rfl)) rfl (fun K hK=>?_)
   go_wp2_with fail
   refine (add_at _ _ (costTo S x k) (wm*m) HV.out.symm rfl _).mono ?_
   rintro e w8 ⟨rfl,hb9⟩
   rw[←HSTEP.out]
   obtain⟨C1,D1,q1,q2,hS1⟩:=wv_parts (costTo S x (k+1))
   clear q1 q2
   rw[hS1]
   have HS1:=zN hS1
   clear hS1
   replace hb9:Below w7.heap.size w7 w8:=⟨hb9.os,hb9.tape,hb9.output,hb9.size,hb9.block⟩
   have x2:=zP hb9 y2
   have x0:=zP hb9 y0
   have x1:=zP hb9 y1
   have hWl7:Wb < w7.heap.size:=zM _ _ y0
   have xf0:w8.frozen? ⟨Wb,0,none⟩=false:=(hb9.frozen (p:=⟨Wb,0,none⟩) hWl7).trans yf0
   have xf1:w8.frozen? ⟨Wb,1,none⟩=false:=(hb9.frozen (p:=⟨Wb,1,none⟩) hWl7).trans yf1
   have HB9:Hid (Below wr.heap.size wr w8):=zN (HB8.out.trans (hb9.mono HB8.out.size))
   clear hb9 y2 y0 y1 yf0 yf1
   refine hK _ _ ⟨.inr (⟨x2,x0,x1⟩),hR _ _ ?_⟩;clear hK K hR R
   repeat (refine zeY (fun R hR=>?_);(first|refine zaY (by first|rfl|(rw[HO.out];rfl)) (by simp only[zA,zB,zC,zD];rfl) ?_|refine zbY (by first|rfl|(rw[HO.out];rfl)) rfl (by first|exact .inl rfl|exact .inr rfl) (by simp only[zE,zF,zG,zH];rfl) (by simp only[zA,zB,zC,zD];rfl) ?_|refine zcY (by first|rfl|(rw[HO.out];rfl)) rfl rfl (by simp only[zE,zF,zG,zH];rfl) (by simp only[zA,zB,zC,zD];rfl) ?_|(refine zdY (by first|rfl|(rw[HO.out];rfl)) rfl rfl rfl ?_;apply zEx;apply zEx;refine⟨fun w' hS K hK=>?_,?_,?_⟩;(focus (obtain⟨hS1,hS2,hS3⟩:=hS;go_wp2;exact hK _ _ (by simp only[zl,zG,zH];first|exact zf (by omega)|exact zg (by omega)|exact zh (by omega)|exact zi (by omega)|exact zj (by omega)|exact zk (by omega)|exact RX.bneB _|rfl) rfl));(focus (simp only[zA,zB,zC,zD];rfl))));refine hR _ _ ?_;clear hR R)
   refine zeY (fun R hR=>?_)
   refine zgY (by first|rfl|(rw[HO.out];rfl)) rfl (fun K hK=>?_)
   go_wp2
   first|refine⟨(by first|exact .inl rfl|exact .inl trivial|trivial),hR _ _ (RY.wpL_nil (hQR _ _ ?_))⟩|refine hR _ _ (RY.wpL_nil (hQR _ _ ?_))|refine hQR _ _ ?_
   (try clear hR);(try clear R);clear hQR QR HO OPS
   go_wp2
   go_roundw
   case rel=>
    refine⟨k+1,C1,D1,by omega,by go_num,HS1,?_,?_,by rw[World.frozen?_setCell,World.frozen?_setCell];exact xf0,by rw[World.frozen?_setCell,World.frozen?_setCell];exact xf1,?_⟩
    ·rw[zK _ _ _ _ (by simp)];exact zL _ _ _ (by rw[x0];rfl)
    ·exact zL _ _ _ (by rw[zK _ _ _ _ (by simp),x1];rfl)
    ·exact ((HGR.out.trans (grw_below HB9.out _)).trans (grownBy_setCell _ _ _ _)).trans (grownBy_setCell _ _ _ _)
   case measure=>simp[intOf];omega
  ·have hdk:decide ((k:Int) < (S.rows.length:Int))=false:=zDf (by omega)
   obtain rfl:k=S.rows.length:=by omega
   have f0:=hgr2.cell e0 (by simp;exact hne2)
   have f1:=hgr2.cell e1 (by simp;exact hne2)
   have ff:∀ k,wr.frozen? ⟨w.heap.size+1,k,none⟩=false:=fun k=>(zFb (hgr2.block (w.heap.size+1) hsz (by simp;exact hne2))).trans (ef k)
   have ff0:=ff 0
   have ff1:=ff 1
   have HBw:=zN (HB2.out.trans (hb2r.mono HB2.out.size))
   have HVE:Hid (wv (costL S x)=.agg #[.int .i64 C,.int .u64 D]):=HV
   clear hgr hgr2 hb2r ff HV
   go_wp2
   refine bodyPost_ret (v:=.tuple #[.agg #[.int .i64 C,.int .u64 D],.int .i64 0]) ?_ rfl ⟨by rw[HVE.out],(HBw.out.setCell (by simp) _).setCell (by simp) _⟩
   simp[results,Tryz.results25,go_sem,f0,f1]
def qc (P:List (Rw × Int)) (x:List Int):Int:=(P.map (fun p=>p.1.weight*(p.2-dotT p.1.sh x)*(p.2-dotT p.1.sh x))).sum
def qm (P:List (Rw × Int)) (x h:List Int):Int:=(P.map (fun p=>p.1.weight*(p.2-dotT p.1.sh x)*dotT p.1.sh h)).sum
def qt (P:List (Rw × Int)) (h:List Int):Int:=(P.map (fun p=>p.1.weight*p.2*dotT p.1.sh h)).sum
def qd (P:List (Rw × Int)) (x h:List Int):Int:=(P.map (fun p=>p.1.weight*dotT p.1.sh x*dotT p.1.sh h)).sum
def subL (x y:List Int):List Int:=List.zipWith (fun a b=>a-b) x y
end Go.Proofs.YtojkamfabapcoaaGreatDoor
