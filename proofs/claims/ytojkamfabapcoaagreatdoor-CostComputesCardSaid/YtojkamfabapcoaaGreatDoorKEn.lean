import Derived.Test.YtojkamfabapcoaaGreatDoorKRVec
import Derived.Test.YtojkamfabapcoaaGreatDoorKCost
import Derived.Test.YtojkamfabapcoaaGreatDoorKDot
import Derived.Test.YtojkamfabapcoaaGreatDoorKCodes
import Derived.Test.YtojkamfabapcoaaGreatDoorKAwake
import Derived.Test.YtojkamfabapcoaaGreatDoorKLists
set_option maxRecDepth 100000
set_option maxHeartbeats 8000000
set_option linter.unusedSimpArgs false
set_option linter.unusedVariables false
namespace Go.Proofs.YtojkamfabapcoaaGreatDoor
open Go.RowKit Go.Grid Go.Maps Go.Sort Go.Shelf
theorem dot_step3 {a:Int} {zs:List Int} {k:Nat} (hk:k < zs.length):a*dotL (zs.take k) (zs.take k)+a*(zs[k]*zs[k])=a*dotL (zs.take (k+1)) (zs.take (k+1)):=by
 rw[←dot_step2 hk,Int.mul_assoc]
theorem qf_step3 {s c:Int} {zs:List Int} {D:List I2} {k:Nat} (hk:k < D.length) {d:Int} (hd:d=zs.getD D[k].1.toNat 0-zs.getD D[k].2.toNat 0):c+s*qf zs zs (D.take k)+s*(d*d)=c+s*qf zs zs (D.take (k+1)):=by
 rw[←qf_step2 hk hd,Int.mul_assoc]
theorem sq_bd {d:Int} (h1:-2097152≤d) (h2:d≤2097152):0≤d*d∧d*d≤4398046511104:=
 ⟨by rw[←Int.natAbs_mul_self];omega,mul_abs_le h1 h2⟩
theorem renergy_ok (f:Nat) (s a:Int) (p:Option Addr) (zs:List Int) (cap:Nat) (w:World) (hV:VecAt w p zs) (hok:VecOk f s a zs) :
  Calls Tryz.prog 75 #[prv f s a,.slice p zs.length cap] w fun e w'=>e=.returned (.tuple #[wv (energyL s a zs (edgesL f)),.int .i64 0])∧Below w.heap.size w w':=by
 have hpv:Hid (prv f s a=.agg #[.int .i64 f,.int .i64 s,.int .i64 a]):=zN rfl
 have hE:vecErr f s a zs=0:=if_pos hok
 obtain⟨⟨hf1,hf8,hs0,hs1,ha0,ha1⟩,hlen,hsm⟩:=hok
 have hl:zs.length≤1000:=by
  have h1:0≤10*(f:Int)*f:=Int.mul_nonneg (by omega) (by omega)
  have h2:=Int.mul_le_mul (show 10*(f:Int)≤80 by omega) hf8 (by omega) (by omega)
  omega
 have h12:12≤zs.length:=by
  have h2:=Int.mul_le_mul (show 10≤10*(f:Int) by omega) hf1 (by omega) (by omega)
  omega
 have hI:I64L zs:=fun x hx=>by have:=hsm x hx;omega
 have HSM:=zN hsm
 have hM:((nodesL f).length:Int)=(zs.length:Int):=by
  rw[nodes_len (by omega) (by omega),hlen];simp
 have hDin:=edges_in (n:=f) (by omega) (by omega)
 rw[hM] at hDin
 have hDl:=edges_len (n:=f) (by omega)
 have hvec:=rvector_any f s a p zs cap
 rw[hpv.out] at hvec ⊢
 clear hM hlen
 go_enter Tryz.func75,Tryz.ntmps75
 go_wp2_with fail
 have hb0:Below w.heap.size w ((w.alloc (.cells #[.int .i64 f,.int .i64 s,.int .i64 a] 23)).alloc (.cells #[.int .i64 0,.int .u64 0] 56)):=(by repeat (first|(with_reducible first|assumption|exact zBr _ _|refine zBs ?_ (by first|omega|(simp<;>omega)) _|refine zBa ?_ (by first|omega|(simp<;>omega)) _|apply zBd)|assumption))
 have c0:((w.alloc (.cells #[.int .i64 f,.int .i64 s,.int .i64 a] 23)).alloc (.cells #[.int .i64 0,.int .u64 0] 56)).cell? ⟨w.heap.size,0,none⟩=some (.int .i64 f):=(by simp[zO,zJ,zQ])
 have c1:((w.alloc (.cells #[.int .i64 f,.int .i64 s,.int .i64 a] 23)).alloc (.cells #[.int .i64 0,.int .u64 0] 56)).cell? ⟨w.heap.size,1,none⟩=some (.int .i64 s):=(by simp[zO,zJ,zQ])
 have c2:((w.alloc (.cells #[.int .i64 f,.int .i64 s,.int .i64 a] 23)).alloc (.cells #[.int .i64 0,.int .u64 0] 56)).cell? ⟨w.heap.size,2,none⟩=some (.int .i64 a):=(by simp[zO,zJ,zQ])
 have hR:=SumAt.new (w.alloc (.cells #[.int .i64 f,.int .i64 s,.int .i64 a] 23))
 rw[show (w.alloc (.cells #[.int .i64 f,.int .i64 s,.int .i64 a] 23)).heap.size=w.heap.size+1 by simp] at hR
 generalize ((w.alloc (.cells #[.int .i64 f,.int .i64 s,.int .i64 a] 23)).alloc (.cells #[.int .i64 0,.int .u64 0] 56))=W0 at *
 refine (hvec W0 (hV.below hb0) (by omega) hI).mono ?_
 rintro e w1 ⟨rfl,hb1⟩
 rw[hE]
 replace hR:=hR.below hb1
 replace c0:=zP hb1 c0
 replace c1:=zP hb1 c1
 replace c2:=zP hb1 c2
 have hB1:Below w.heap.size w w1:=hb0.trans (hb1.mono hb0.size)
 clear hb1 hb0 hE hvec
 clear W0
 go_wp2_with fail
 refine (redges_any f (by omega) (by omega) w1).mono ?_
 rintro e w2 ⟨ve,rfl,hrow,hb2⟩
 obtain⟨pe,ce,b5,rfl,hce,hpe,hP⟩:=hrow.form
 replace hR:=hR.below hb2
 replace c0:=zP hb2 c0
 replace c1:=zP hb2 c1
 replace c2:=zP hb2 c2
 have hB2:Below w.heap.size w w2:=hB1.trans (hb2.mono hB1.size)
 clear hb2 hB1 hrow
 obtain⟨D,hD⟩:∃ D,D=edgesL f:=⟨_,rfl⟩
 rw[←hD] at hP hce hpe hDin hDl ⊢
 have HDin:=zN hDin
 have HP:=zN hP
 have HDe:=zN hD
 obtain⟨bx,ox,rfl,hbx,hcx⟩:=(hV.below hB2).cell (by omega)
 have HX:=zN hcx
 clear hV hDin hP hcx hD
 go_wp2
 have hO3:=SumAt.new w2
 have hR3:=hR.below ((zBr w2.heap.size w2).alloc (Nat.le_refl _) (.cells #[.int .i64 0,.int .u64 0] 56))
 have hb3:Below w2.heap.size w2 (w2.alloc (.cells #[.int .i64 0,.int .u64 0] 56)):=(zBr _ _).alloc (Nat.le_refl _) _
 have hRl:=hR.lt
 obtain⟨o,ho⟩:∃ o,o=w2.heap.size:=⟨_,rfl⟩
 have KEEP:Hid (∀ wx,Below o w2 wx→∀ p v,w2.cell? p=some v→wx.cell? p=some v):=zN (fun wx hb p v h=>zP (by rw[←ho];exact hb) h)
 rw[←ho] at hO3 hRl hb3 hbx ⊢
 generalize (w2.alloc (.cells #[.int .i64 0,.int .u64 0] 56))=W3 at *
 clear hR
 have hwo:w.heap.size+1 < o:=hRl
 clear ho
 go_loopw [10] (fun i wr=>∃ k:Nat,k≤zs.length∧i=.int .i64 k∧SumAt wr o (a*dotL (zs.take k) (zs.take k))∧SumAt wr (w.heap.size+1) 0∧Below o w2 wr) (fun i _=>zs.length-(intOf i).toNat)
 case atStart=>exact⟨0,by omega,rfl,by simpa[dotL] using hO3,hR3,hb3⟩
 case round=>
  clear hO3 hR3 hb3
  obtain⟨k,hk,rfl,hSo,hSr,hB⟩:=hrel
  by_cases hlt:k < zs.length
  ·have hdk:decide ((k:Int) < (zs.length:Int))=true:=zDt (by omega)
   have xk:=KEEP.out wr hB _ _ (HX.out k hlt)
   have q2:=KEEP.out wr hB _ _ c2
   have hbdx:=HSM.out zs[k] (List.getElem_mem _)
   have HS:=zN (dot_step3 (a:=a) hlt)
   obtain⟨x,hx⟩:∃ x,x=zs[k]:=⟨_,rfl⟩
   rw[←hx] at xk hbdx HS
   have hsq:=sq_bd (d:=x) (by omega) (by omega)
   obtain⟨y,hy⟩:∃ y,x*x=y:=⟨_,rfl⟩
   rw[hy] at hsq HS
   clear hx
   have hk0:(0:Int)≤(k:Int):=by omega
   have hkl:(k:Int) < (zs.length:Int):=by omega
   obtain⟨S,hS⟩:∃ S,S=a*dotL (zs.take k) (zs.take k):=⟨_,rfl⟩
   rw[←hS] at HS hSo
   clear hS
   obtain⟨A,B,hA,hBB,hs⟩:=wv_parts S
   obtain⟨a0,a1,z0,z1⟩:=hSo
   have HOS:Hid (SumAt wr o S):=zN ⟨a0,a1,z0,z1⟩
   rw[←hA] at a0
   rw[←hBB] at a1
   have HAB:=zN hs.symm
   clear hA hBB hs
   go_wp2
   refine RY.region RX.fL (fun w'=>w'.cell? ⟨o,0,none⟩=some (.int .i64 A)∧w'.cell? ⟨o,1,none⟩=some (.int .u64 B)∧w'.cell? ⟨bx,ox+k,none⟩=some (.int .i64 x)∧w'.cell? ⟨w.heap.size,2,none⟩=some (.int .i64 a)) (by kernel_rfl) (by kernel_rfl) (⟨a0,a1,xk,q2⟩) (fun OPS HO QR hQR=>?_)
   repeat (refine zeY (fun R hR=>?_);(first|refine zaY (by first|rfl|(rw[HO.out];rfl)) (by simp only[zA,zB,zC,zD];rfl) ?_|refine zbY (by first|rfl|(rw[HO.out];rfl)) rfl (by first|exact .inl rfl|exact .inr rfl) (by simp only[zE,zF,zG,zH];rfl) (by simp only[zA,zB,zC,zD];rfl) ?_|refine zcY (by first|rfl|(rw[HO.out];rfl)) rfl rfl (by simp only[zE,zF,zG,zH];rfl) (by simp only[zA,zB,zC,zD];rfl) ?_|(refine zdY (by first|rfl|(rw[HO.out];rfl)) rfl rfl rfl ?_;apply zEx;apply zEx;refine⟨fun w' hS K hK=>?_,?_,?_⟩;(focus (obtain⟨hS1,hS2,hS3,hS4⟩:=hS;go_wp2;exact hK _ _ (by simp only[zl,zG,zH];first|exact zf (by omega)|exact zg (by omega)|exact zh (by omega)|exact zi (by omega)|exact zj (by omega)|exact zk (by omega)|exact RX.bneB _|rfl) rfl));(focus (simp only[zA,zB,zC,zD];rfl))));refine hR _ _ ?_;clear hR R)
   refine zeY (fun R hR=>?_)
   refine zgY (by first|rfl|(rw[HO.out];rfl)) rfl (fun K hK=>?_)
   go_wp2_with fail
   refine (rproduct_any a y _ (by omega) (by omega) (by omega) (by omega)).mono ?_
   rintro e w3 ⟨rfl,hb3⟩
   have hb3:Below wr.heap.size wr w3:=⟨hb3.os,hb3.tape,hb3.output,hb3.size,hb3.block⟩
   refine hK _ _ ⟨.inr (⟨zP hb3 a0,zP hb3 a1,zP hb3 xk,zP hb3 q2⟩),hR _ _ ?_⟩;clear hK K hR R
   repeat (refine zeY (fun R hR=>?_);(first|refine zaY (by first|rfl|(rw[HO.out];rfl)) (by simp only[zA,zB,zC,zD];rfl) ?_|refine zbY (by first|rfl|(rw[HO.out];rfl)) rfl (by first|exact .inl rfl|exact .inr rfl) (by simp only[zE,zF,zG,zH];rfl) (by simp only[zA,zB,zC,zD];rfl) ?_|refine zcY (by first|rfl|(rw[HO.out];rfl)) rfl rfl (by simp only[zE,zF,zG,zH];rfl) (by simp only[zA,zB,zC,zD];rfl) ?_|(refine zdY (by first|rfl|(rw[HO.out];rfl)) rfl rfl rfl ?_;apply zEx;apply zEx;refine⟨fun w' hS K hK=>?_,?_,?_⟩;(focus (obtain⟨hS1,hS2,hS3,hS4⟩:=hS;go_wp2;exact hK _ _ (by simp only[zl,zG,zH];first|exact zf (by omega)|exact zg (by omega)|exact zh (by omega)|exact zi (by omega)|exact zj (by omega)|exact zk (by omega)|exact RX.bneB _|rfl) rfl));(focus (simp only[zA,zB,zC,zD];rfl))));refine hR _ _ ?_;clear hR R)
   refine zeY (fun R hR=>?_)
   refine zgY (by first|rfl|(rw[HO.out];rfl)) rfl (fun K hK=>?_)
   go_wp2_with fail
   refine (radd_at2 _ _ S (a*y) HAB.out rfl _).mono ?_
   rintro e w4 ⟨rfl,hb4⟩
   rw[HS.out]
   have hb4:=hb3.trans (hb4.mono hb3.size)
   have a04:=zP hb4 a0
   have a14:=zP hb4 a1
   have x4:=zP hb4 xk
   have y4:=zP hb4 q2
   have hO4:=HOS.out.below hb4
   have hR4:=hSr.below hb4
   have hor:=HOS.out.lt
   have hB4:Below o w2 w4:=hB.trans (hb4.mono (by omega))
   obtain⟨C,G,hC,hG,hVal⟩:=wv_parts (a*dotL (zs.take (k+1)) (zs.take (k+1)))
   rw[hVal]
   have HO4:=zN hO4
   have z04:=hO4.f0
   have z14:=hO4.f1
   have HC:=zN (And.intro hC hG)
   have HXX:=zN (And.intro hR4 hB4)
   clear hSr hB hb4 hb3 hC hG hVal hR4 hB4 xk q2 HS a0 a1 z0 z1 hO4 HOS
   refine hK _ _ ⟨.inr (⟨a04,a14,x4,y4⟩),hR _ _ ?_⟩;clear hK K hR R
   repeat (refine zeY (fun R hR=>?_);(first|refine zaY (by first|rfl|(rw[HO.out];rfl)) (by simp only[zA,zB,zC,zD];rfl) ?_|refine zbY (by first|rfl|(rw[HO.out];rfl)) rfl (by first|exact .inl rfl|exact .inr rfl) (by simp only[zE,zF,zG,zH];rfl) (by simp only[zA,zB,zC,zD];rfl) ?_|refine zcY (by first|rfl|(rw[HO.out];rfl)) rfl rfl (by simp only[zE,zF,zG,zH];rfl) (by simp only[zA,zB,zC,zD];rfl) ?_|(refine zdY (by first|rfl|(rw[HO.out];rfl)) rfl rfl rfl ?_;apply zEx;apply zEx;refine⟨fun w' hS K hK=>?_,?_,?_⟩;(focus (obtain⟨hS1,hS2,hS3,hS4⟩:=hS;go_wp2;exact hK _ _ (by simp only[zl,zG,zH];first|exact zf (by omega)|exact zg (by omega)|exact zh (by omega)|exact zi (by omega)|exact zj (by omega)|exact zk (by omega)|exact RX.bneB _|rfl) rfl));(focus (simp only[zA,zB,zC,zD];rfl))));refine hR _ _ ?_;clear hR R)
   refine zeY (fun R hR=>?_)
   refine zgY (by first|rfl|(rw[HO.out];rfl)) rfl (fun K hK=>?_)
   go_wp2
   first|refine⟨(by first|exact .inl rfl|exact .inl trivial|trivial),hR _ _ (RY.wpL_nil (hQR _ _ ?_))⟩|refine hR _ _ (RY.wpL_nil (hQR _ _ ?_))|refine hQR _ _ ?_
   (try clear hR);(try clear R);clear hQR QR HO OPS
   go_wp2
   have HS1:Hid (SumAt ((w4.setCell ⟨o,0,none⟩ (.int .i64 C)).setCell ⟨o,1,none⟩ (.int .u64 G)) o (a*dotL (zs.take (k+1)) (zs.take (k+1)))):=zN (sum_store HO4.out HC.out.1 HC.out.2)
   go_roundw
   case rel=>exact⟨k+1,by omega,by go_num,HS1.out,HXX.out.1.set2 (by omega),(HXX.out.2.setCell (by simp) _).setCell (by simp) _⟩
   case measure=>simp[intOf];omega
  ·have hdk:decide ((k:Int) < (zs.length:Int))=false:=zDf (by omega)
   have hkl:k=zs.length:=by omega
   have e1:a*dotL (zs.take k) (zs.take k)=a*dotL zs zs+s*qf zs zs (D.take 0):=by rw[hkl,List.take_length];simp[qf]
   rw[e1] at hSo
   clear e1 hkl
   go_wp2
   go_loopw [11] (fun i wr=>∃ j:Nat,j≤D.length∧i=.int .i64 j∧SumAt wr o (a*dotL zs zs+s*qf zs zs (D.take j))∧SumAt wr (w.heap.size+1) 0∧Below o w2 wr) (fun i _=>D.length-(intOf i).toNat)
   case atStart=>exact⟨0,by omega,rfl,hSo,hSr,hB⟩
   case round=>
    clear hSo hSr hB
    obtain⟨j,hj,rfl,hSo,hSr,hB⟩:=hrel
    by_cases hlt2:j < D.length
    ·have hdj:decide ((j:Int) < (D.length:Int))=true:=zDt (by omega)
     obtain rfl:=(hpe (by omega)).1
     have e0:=KEEP.out wr hB _ _ (HP.out j hlt2).1
     have e1:=KEEP.out wr hB _ _ (HP.out j hlt2).2
     obtain⟨g1,g2,g3,g4⟩:=HDin.out D[j] (List.getElem_mem _)
     have HQ:=fun (d:Int) hd=>zN (qf_step3 (s:=s) (c:=a*dotL zs zs) (zs:=zs) hlt2 (d:=d) hd)
     obtain⟨c,hc⟩:∃ c,c=D[j]:=⟨_,rfl⟩
     rw[←hc] at e0 e1 g1 g2 g3 g4 HQ
     obtain⟨cA,cB'⟩:=c
     dsimp only at e0 e1 g1 g2 g3 g4 HQ
     obtain⟨ia,rfl⟩:∃ ia:Nat,cA=(ia:Int):=⟨cA.toNat,by omega⟩
     obtain⟨ib,rfl⟩:∃ ib:Nat,cB'=(ib:Int):=⟨cB'.toNat,by omega⟩
     have hia:ia < zs.length:=by omega
     have hib:ib < zs.length:=by omega
     have xa:=KEEP.out wr hB _ _ (HX.out ia hia)
     have xb:=KEEP.out wr hB _ _ (HX.out ib hib)
     have q1:=KEEP.out wr hB _ _ c1
     have hza:=HSM.out zs[ia] (List.getElem_mem _)
     have hzb:=HSM.out zs[ib] (List.getElem_mem _)
     have HQ2:=HQ (zs[ia]-zs[ib]) (by simp only[Int.toNat_natCast];rw[show zs.getD ia 0=zs[ia] by simp[List.getD,List.getElem?_eq_getElem hia],show zs.getD ib 0=zs[ib] by simp[List.getD,List.getElem?_eq_getElem hib]])
     obtain⟨za,hzae⟩:∃ z,z=zs[ia]:=⟨_,rfl⟩
     obtain⟨zb,hzbe⟩:∃ z,z=zs[ib]:=⟨_,rfl⟩
     rw[←hzae] at xa hza HQ2
     rw[←hzbe] at xb hzb HQ2
     obtain⟨d,hd⟩:∃ d,za-zb=d:=⟨_,rfl⟩
     rw[hd] at HQ2
     have hdb:-2097152≤d∧d≤2097152:=by omega
     have hsq:=sq_bd (d:=d) (by omega) (by omega)
     obtain⟨y,hy⟩:∃ y,d*d=y:=⟨_,rfl⟩
     rw[hy] at hsq HQ2
     obtain⟨S,hS⟩:∃ S,S=a*dotL zs zs+s*qf zs zs (D.take j):=⟨_,rfl⟩
     rw[←hS] at HQ2 hSo
     clear hS HQ hzae hzbe hc
     have hj0:(0:Int)≤(j:Int):=by omega
     have hjl:(j:Int) < (D.length:Int):=by omega
     have hA0:(0:Int)≤(ia:Int):=by omega
     have hB0:(0:Int)≤(ib:Int):=by omega
     obtain⟨A,B,hA,hBB,hs⟩:=wv_parts S
     obtain⟨a0,a1,z0,z1⟩:=hSo
     have HOS:Hid (SumAt wr o S):=zN ⟨a0,a1,z0,z1⟩
     rw[←hA] at a0
     rw[←hBB] at a1
     have HAB:=zN hs.symm
     clear hA hBB hs
     go_wp2
     refine RX.region RX.fL (fun w'=>w'=_) (by kernel_rfl) (by kernel_rfl) rfl (fun OPS HO QR hQR=>?_)
     repeat (refine zeX (fun R hR=>?_);(first|refine zaX (by first|rfl|(rw[HO.out];rfl)) (by simp only[zA,zB,zC,zD];rfl) ?_|refine zbX (by first|rfl|(rw[HO.out];rfl)) rfl (by first|exact .inl rfl|exact .inr rfl) (by simp only[zE,zF,zG,zH];rfl) (by simp only[zA,zB,zC,zD];rfl) ?_|refine zcX (by first|rfl|(rw[HO.out];rfl)) rfl rfl (by simp only[zE,zF,zG,zH];rfl) (by simp only[zA,zB,zC,zD];rfl) ?_|(refine zdX (by first|rfl|(rw[HO.out];rfl)) rfl rfl rfl ?_;apply zEx;apply zEx;refine⟨fun w' hS K hK=>?_,?_,?_⟩;(focus (subst hS;go_wp2;exact hK _ _ (by simp only[zl,zG,zH];first|exact zf (by omega)|exact zg (by omega)|exact zh (by omega)|exact zi (by omega)|exact zj (by omega)|exact zk (by omega)|exact RX.bneB _|rfl) rfl));(focus (simp only[zA,zB,zC,zD];rfl))));refine hR _ _ ?_;clear hR R)
     refine RX.wpL_nil (hQR _ _ rfl ?_);clear hQR QR HO OPS
     go_wp2
     refine RY.region RX.fL (fun w'=>w'.cell? ⟨o,0,none⟩=some (.int .i64 A)∧w'.cell? ⟨o,1,none⟩=some (.int .u64 B)∧w'.cell? ⟨w.heap.size,1,none⟩=some (.int .i64 s)) (by kernel_rfl) (by kernel_rfl) (⟨a0,a1,q1⟩) (fun OPS HO QR hQR=>?_)
     repeat (refine zeY (fun R hR=>?_);(first|refine zaY (by first|rfl|(rw[HO.out];rfl)) (by simp only[zA,zB,zC,zD];rfl) ?_|refine zbY (by first|rfl|(rw[HO.out];rfl)) rfl (by first|exact .inl rfl|exact .inr rfl) (by simp only[zE,zF,zG,zH];rfl) (by simp only[zA,zB,zC,zD];rfl) ?_|refine zcY (by first|rfl|(rw[HO.out];rfl)) rfl rfl (by simp only[zE,zF,zG,zH];rfl) (by simp only[zA,zB,zC,zD];rfl) ?_|(refine zdY (by first|rfl|(rw[HO.out];rfl)) rfl rfl rfl ?_;apply zEx;apply zEx;refine⟨fun w' hS K hK=>?_,?_,?_⟩;(focus (obtain⟨hS1,hS2,hS3⟩:=hS;go_wp2;exact hK _ _ (by simp only[zl,zG,zH];first|exact zf (by omega)|exact zg (by omega)|exact zh (by omega)|exact zi (by omega)|exact zj (by omega)|exact zk (by omega)|exact RX.bneB _|rfl) rfl));(focus (simp only[zA,zB,zC,zD];rfl))));refine hR _ _ ?_;clear hR R)
     refine zeY (fun R hR=>?_)
     refine zgY (by first|rfl|(rw[HO.out];rfl)) rfl (fun K hK=>?_)
     go_wp2_with fail
     refine (rproduct_any s y _ (by omega) (by omega) (by omega) (by omega)).mono ?_
     rintro e w3 ⟨rfl,hb3⟩
     have hb3:Below wr.heap.size wr w3:=⟨hb3.os,hb3.tape,hb3.output,hb3.size,hb3.block⟩
     refine hK _ _ ⟨.inr (⟨zP hb3 a0,zP hb3 a1,zP hb3 q1⟩),hR _ _ ?_⟩;clear hK K hR R
     repeat (refine zeY (fun R hR=>?_);(first|refine zaY (by first|rfl|(rw[HO.out];rfl)) (by simp only[zA,zB,zC,zD];rfl) ?_|refine zbY (by first|rfl|(rw[HO.out];rfl)) rfl (by first|exact .inl rfl|exact .inr rfl) (by simp only[zE,zF,zG,zH];rfl) (by simp only[zA,zB,zC,zD];rfl) ?_|refine zcY (by first|rfl|(rw[HO.out];rfl)) rfl rfl (by simp only[zE,zF,zG,zH];rfl) (by simp only[zA,zB,zC,zD];rfl) ?_|(refine zdY (by first|rfl|(rw[HO.out];rfl)) rfl rfl rfl ?_;apply zEx;apply zEx;refine⟨fun w' hS K hK=>?_,?_,?_⟩;(focus (obtain⟨hS1,hS2,hS3⟩:=hS;go_wp2;exact hK _ _ (by simp only[zl,zG,zH];first|exact zf (by omega)|exact zg (by omega)|exact zh (by omega)|exact zi (by omega)|exact zj (by omega)|exact zk (by omega)|exact RX.bneB _|rfl) rfl));(focus (simp only[zA,zB,zC,zD];rfl))));refine hR _ _ ?_;clear hR R)
     refine zeY (fun R hR=>?_)
     refine zgY (by first|rfl|(rw[HO.out];rfl)) rfl (fun K hK=>?_)
     go_wp2_with fail
     refine (radd_at2 _ _ S (s*y) HAB.out rfl _).mono ?_
     rintro e w4 ⟨rfl,hb4⟩
     rw[HQ2.out]
     have hb4:=hb3.trans (hb4.mono hb3.size)
     have a04:=zP hb4 a0
     have a14:=zP hb4 a1
     have y4:=zP hb4 q1
     have hO4:=HOS.out.below hb4
     have hR4:=hSr.below hb4
     have hor:=HOS.out.lt
     have hB4:Below o w2 w4:=hB.trans (hb4.mono (by omega))
     obtain⟨C,G,hC,hG,hVal⟩:=wv_parts (a*dotL zs zs+s*qf zs zs (D.take (j+1)))
     rw[hVal]
     have HO4:=zN hO4
     have z04:=hO4.f0
     have z14:=hO4.f1
     have HC:=zN (And.intro hC hG)
     have HXX:=zN (And.intro hR4 hB4)
     clear hSr hB hb4 hb3 hC hG hVal hR4 hB4 xa xb q1 HQ2 a0 a1 z0 z1 hO4 HOS e0 e1
     refine hK _ _ ⟨.inr (⟨a04,a14,y4⟩),hR _ _ ?_⟩;clear hK K hR R
     repeat (refine zeY (fun R hR=>?_);(first|refine zaY (by first|rfl|(rw[HO.out];rfl)) (by simp only[zA,zB,zC,zD];rfl) ?_|refine zbY (by first|rfl|(rw[HO.out];rfl)) rfl (by first|exact .inl rfl|exact .inr rfl) (by simp only[zE,zF,zG,zH];rfl) (by simp only[zA,zB,zC,zD];rfl) ?_|refine zcY (by first|rfl|(rw[HO.out];rfl)) rfl rfl (by simp only[zE,zF,zG,zH];rfl) (by simp only[zA,zB,zC,zD];rfl) ?_|(refine zdY (by first|rfl|(rw[HO.out];rfl)) rfl rfl rfl ?_;apply zEx;apply zEx;refine⟨fun w' hS K hK=>?_,?_,?_⟩;(focus (obtain⟨hS1,hS2,hS3⟩:=hS;go_wp2;exact hK _ _ (by simp only[zl,zG,zH];first|exact zf (by omega)|exact zg (by omega)|exact zh (by omega)|exact zi (by omega)|exact zj (by omega)|exact zk (by omega)|exact RX.bneB _|rfl) rfl));(focus (simp only[zA,zB,zC,zD];rfl))));refine hR _ _ ?_;clear hR R)
     refine zeY (fun R hR=>?_)
     refine zgY (by first|rfl|(rw[HO.out];rfl)) rfl (fun K hK=>?_)
     go_wp2
     first|refine⟨(by first|exact .inl rfl|exact .inl trivial|trivial),hR _ _ (RY.wpL_nil (hQR _ _ ?_))⟩|refine hR _ _ (RY.wpL_nil (hQR _ _ ?_))|refine hQR _ _ ?_
     (try clear hR);(try clear R);clear hQR QR HO OPS
     go_wp2
     have HS1:Hid (SumAt ((w4.setCell ⟨o,0,none⟩ (.int .i64 C)).setCell ⟨o,1,none⟩ (.int .u64 G)) o (a*dotL zs zs+s*qf zs zs (D.take (j+1)))):=zN (sum_store HO4.out HC.out.1 HC.out.2)
     go_roundw
     case rel=>exact⟨j+1,by omega,by go_num,HS1.out,HXX.out.1.set2 (by omega),(HXX.out.2.setCell (by simp) _).setCell (by simp) _⟩
     case measure=>simp[intOf];omega
    ·have hdj:decide ((j:Int) < (D.length:Int))=false:=zDf (by omega)
     have hjD:j=D.length:=by omega
     have e1:a*dotL zs zs+s*qf zs zs (D.take j)=energyL s a zs D:=by rw[hjD,List.take_length];rfl
     rw[e1] at hSo
     clear e1 hjD
     obtain⟨C,G,hC,hG,hVal⟩:=wv_parts (energyL s a zs D)
     obtain⟨d0,d1,_,_⟩:=hSo
     rw[←hC] at d0
     rw[←hG] at d1
     have HR:=zN hSr
     obtain⟨x0,x1,z0,z1⟩:=hSr
     have hoR:¬ o=w.heap.size+1:=by omega
     have HC:=zN (And.intro hC hG)
     have HV:=zN hVal
     have HB9:Hid (Below w.heap.size w wr):=zN (hB2.trans (hB.mono (by omega)))
     clear hC hG hVal hB
     go_wp2
     refine bodyPost_ret (v:=.tuple #[.agg #[.int .i64 C,.int .u64 G],.int .i64 0]) ?_ rfl ⟨by rw[←HDe.out,HV.out],(HB9.out.setCell (by simp) _).setCell (by simp) _⟩
     obtain⟨q0,q1,_,_⟩:=sum_store HR.out HC.out.1 HC.out.2
     rw[←HC.out.1] at q0
     rw[←HC.out.2] at q1
     generalize ((wr.setCell ⟨w.heap.size+1,0,none⟩ (.int .i64 C)).setCell ⟨w.heap.size+1,1,none⟩ (.int .u64 G))=W at q0 q1 ⊢
     simp[results,Tryz.results75,go_sem,q0,q1]
def applyV (f s a:Int) (zs:List Int):List Int:=if VecOk f s a zs then applyL s a zs (edgesL f.toNat) else []
def energyV (f s a:Int) (zs:List Int):Int:=if VecOk f s a zs then energyL s a zs (edgesL f.toNat) else 0
theorem RdI.ints {w:World} {N:Nat} {zs:List Int} {n:Nat} (h:IntsAt w N 0 zs) (hn:zs.length=n):RdI w (.slice (some ⟨N,0,none⟩) n n) zs:=by
 subst hn
 exact⟨_,_,rfl,Nat.le_refl _,N,0,fun _=>rfl,fun j hj=>(h j hj).1⟩
theorem vecErr_yes {f s a:Int} {zs:List Int} (h:VecOk f s a zs):vecErr f s a zs=0:=if_pos h
theorem vecErr_no {f s a:Int} {zs:List Int} (h:¬ VecOk f s a zs):vecErr f s a zs=1:=if_neg h
theorem genergyA (f s a:Int) (v:Value) (zs:List Int) (w:World) (hR:RdI w v zs) (hl:zs.length≤1000000000) (hT:HasTab w) :
  Calls Tryz.prog 72 #[prv f s a,v] w fun e w'=>e=.returned (.tuple #[wv (energyV f s a zs),.int .i64 (vecErr f s a zs)])∧Below w.heap.size w w':=by
 obtain⟨p,cap,rfl,hcap,hV⟩:=hR
 have hpv:Hid (prv f s a=.agg #[.int .i64 f,.int .i64 s,.int .i64 a]):=zN rfl
 by_cases h:VecOk f s a zs
 ·rw[vecErr_yes h,show energyV f s a zs=energyL s a zs (edgesL f.toNat) from if_pos h]
  obtain⟨n,rfl⟩:∃ n:Nat,f=n:=⟨f.toNat,by have:=h.1.1;omega⟩
  rw[Int.toNat_natCast]
  exact energy_at n s a p zs cap zs.length w rfl hT hV h
 ·rw[show energyV f s a zs=0 from if_neg h,vecErr_no h]
  have HE:=zN (vecErr_no h)
  rw[hpv.out,←wv_zero]
  go_enter Tryz.func72,Tryz.ntmps72
  go_wp2_with fail
  have hb0:Below w.heap.size w ((w.alloc (.cells #[.int .i64 f,.int .i64 s,.int .i64 a] 23)).alloc (.cells #[.int .i64 0,.int .u64 0] 56)):=(by repeat (first|(with_reducible first|assumption|exact zBr _ _|refine zBs ?_ (by first|omega|(simp<;>omega)) _|refine zBa ?_ (by first|omega|(simp<;>omega)) _|apply zBd)|assumption))
  have hR:=SumAt.new (w.alloc (.cells #[.int .i64 f,.int .i64 s,.int .i64 a] 23))
  rw[show (w.alloc (.cells #[.int .i64 f,.int .i64 s,.int .i64 a] 23)).heap.size=w.heap.size+1 by simp] at hR
  generalize ((w.alloc (.cells #[.int .i64 f,.int .i64 s,.int .i64 a] 23)).alloc (.cells #[.int .i64 0,.int .u64 0] 56))=W0 at *
  rw[←hpv.out]
  refine (vector_any f s a p zs cap W0 (hV.below hb0) hl).mono ?_
  rintro e w1 ⟨rfl,hb1⟩
  rw[HE.out]
  replace hR:=hR.below hb1
  have HB1:=zN (hb0.trans (hb1.mono hb0.size))
  clear hb1 hb0
  obtain⟨x0,x1,z0,z1⟩:=hR
  go_wp2
  refine bodyPost_ret (v:=.tuple #[.agg #[.int .i64 0,.int .u64 0],.int .i64 1]) ?_ rfl ⟨rfl,(HB1.out.setCell (by simp) _).setCell (by simp) _⟩
  generalize hgg:((w1.setCell ⟨w.heap.size+1,0,none⟩ (.int .i64 0)).setCell ⟨w.heap.size+1,1,none⟩ (.int .u64 0))=W at *
  have q0:W.cell? ⟨w.heap.size+1,0,none⟩=some (.int .i64 0):=by rw[←hgg];exact (zK _ _ _ _ (by simp)).trans (zL _ _ _ (by rw[x0];rfl))
  have q1:W.cell? ⟨w.heap.size+1,1,none⟩=some (.int .u64 0):=by rw[←hgg];exact zL _ _ _ (by rw[zK _ _ _ _ (by simp),x1];rfl)
  simp[results,Tryz.results72,go_sem,q0,q1]
theorem kints_sameA (v u:Value) (zs:List Int) (w:World) (h1:RdI w v zs) (h2:RdI w u zs) (hl:zs.length≤1000):Calls Tryz.prog 30 #[v,u] w fun e w'=>e=.returned (.bool true)∧Below w.heap.size w w':=by
 obtain⟨p,c,rfl,_,hv⟩:=h1
 obtain⟨q,d,rfl,_,hu⟩:=h2
 refine (kints_len p q zs zs c d w hv hu rfl (by omega)).mono ?_
 rintro e w' ⟨rfl,hb⟩
 exact⟨by simp,hb⟩
end Go.Proofs.YtojkamfabapcoaaGreatDoor
