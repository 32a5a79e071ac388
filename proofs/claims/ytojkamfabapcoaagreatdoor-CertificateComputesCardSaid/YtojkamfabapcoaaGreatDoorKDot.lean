import Derived.Test.YtojkamfabapcoaaGreatDoorKRef
import Derived.Test.YtojkamfabapcoaaGreatDoorRing
import Derived.Test.YtojkamfabapcoaaGreatDoorKLin
import Derived.Test.YtojkamfabapcoaaGreatDoorKRegion
set_option maxRecDepth 100000
set_option maxHeartbeats 8000000
set_option linter.unusedSimpArgs false
set_option linter.unusedVariables false
namespace Go.Proofs.YtojkamfabapcoaaGreatDoor
open Go.RowKit
structure SumAt (w:World) (g:Nat) (s:Int):Prop where
 c0:w.cell? ⟨g,0,none⟩=some (.int .i64 (wrap64 (s / 18446744073709551616)))
 c1:w.cell? ⟨g,1,none⟩=some (.int .u64 (s % 18446744073709551616))
 f0:w.frozen? ⟨g,0,none⟩=false
 f1:w.frozen? ⟨g,1,none⟩=false
theorem SumAt.block {w w':World} {g:Nat} {s:Int} (h:SumAt w g s) (hb:w'.heap[g]?=w.heap[g]?):SumAt w' g s:=
 ⟨(World.cell?_of_block hb).trans h.c0,(World.cell?_of_block hb).trans h.c1,(zFb hb).trans h.f0,(zFb hb).trans h.f1⟩
theorem SumAt.lt {w:World} {g:Nat} {s:Int} (h:SumAt w g s):g < w.heap.size:=zM _ _ h.c0
theorem sum_store {w:World} {g:Nat} {s s' C D:Int} (h:SumAt w g s) (hC:C=wrap64 (s' / 18446744073709551616)) (hD:D=s' % 18446744073709551616) :
  SumAt ((w.setCell ⟨g,0,none⟩ (.int .i64 C)).setCell ⟨g,1,none⟩ (.int .u64 D)) g s':=by
 subst hC hD
 refine⟨?_,?_,by rw[World.frozen?_setCell,World.frozen?_setCell];exact h.f0,by rw[World.frozen?_setCell,World.frozen?_setCell];exact h.f1⟩
 ·rw[zK _ _ _ _ (by simp)];exact zL _ _ _ (by rw[h.c0];rfl)
 ·exact zL _ _ _ (by rw[zK _ _ _ _ (by simp),h.c1];rfl)
theorem SumAt.set {w:World} {g k i:Nat} {s:Int} {v:Value} (h:SumAt w g s) (hne:g≠k):SumAt (w.setCell ⟨k,i,none⟩ v) g s:=
 h.block (Below.heap_setCell _ _ _ g hne)
theorem SumAt.set2 {w:World} {g k i j:Nat} {s:Int} {u v:Value} (h:SumAt w g s) (hne:g≠k):SumAt ((w.setCell ⟨k,i,none⟩ u).setCell ⟨k,j,none⟩ v) g s:=(h.set hne).set hne
theorem SumAt.drew {w:World} {g:Nat} {s:Int} (h:SumAt w g s):SumAt w.drew g s:=h.block rfl
theorem SumAt.below {w w':World} {g:Nat} {s:Int} (h:SumAt w g s) (hb:Below w.heap.size w w'):SumAt w' g s:=h.block (hb.block _ h.lt)
theorem SumAt.grown {w w':World} {g k:Nat} {s:Int} (h:SumAt w g s) (hb:w.grownBy w' (some k)) (hne:g≠k):SumAt w' g s:=h.block (hb.block _ h.lt (by simpa using hne))
theorem SumAt.new (w:World):SumAt (w.alloc (.cells #[.int .i64 0,.int .u64 0] 56)) w.heap.size 0:=by
 have e1:wrap64 (0 / 18446744073709551616)=0:=by unfold wrap64;omega
 exact⟨by rw[e1];simp[zJ],by simp[zJ],by simp[RX.frozen_alloc],by simp[RX.frozen_alloc]⟩
theorem wv_parts (s:Int):∃ C D,C=wrap64 (s / 18446744073709551616)∧D=s % 18446744073709551616∧wv s=.agg #[.int .i64 C,.int .u64 D]:=⟨_,_,rfl,rfl,rfl⟩
theorem total1_any (a b s:Int) (g:Nat) (w:World) (hS:SumAt w g s) (ha:-9223372036854775808≤a) (ha':a≤9223372036854775807) (hb:-9223372036854775808≤b) (hb':b≤9223372036854775807) :
  Calls Tryz.prog 133 #[.int .i64 a,.int .i64 b,.pointer (some ⟨g,0,none⟩)] w fun e w'=>e=.returned (wv (s+a*b))∧SumAt w' g (s+a*b)∧w.grownBy w' (some g):=by
 have hg:=hS.lt
 obtain⟨A,B,hA,hBB,hs⟩:=wv_parts s
 obtain⟨C,D,hC,hD,hVal⟩:=wv_parts (s+a*b)
 have hne:¬ g=w.heap.size:=by omega
 have hne2:¬ w.heap.size=g:=by omega
 have HC:=zN (And.intro hC hD)
 have HA:=zN (And.intro hA hBB)
 have hs:=zN hs.symm
 have hVal:=zN hVal
 clear hC hD hA hBB
 go_enter Tryz.func133,Tryz.ntmps133
 go_wp2
 have hB:Below w.heap.size w (w.alloc (.cells #[.int .i64 0,.int .u64 0] 56)):=(zBr _ _).alloc (Nat.le_refl _) _
 have hS0:=hS.below hB
 have hR0:=SumAt.new w
 have hz:w.heap.size < (w.alloc (.cells #[.int .i64 0,.int .u64 0] 56)).heap.size:=by simp
 clear hS
 generalize (w.alloc (.cells #[.int .i64 0,.int .u64 0] 56))=W0 at *
 have k0:W0.cell? ⟨g,0,none⟩=some (.int .i64 A):=by rw[HA.out.1];exact hS0.c0
 have k1:W0.cell? ⟨g,1,none⟩=some (.int .u64 B):=by rw[HA.out.2];exact hS0.c1
 refine RY.region RX.fL (fun w'=>w'.cell? ⟨g,0,none⟩=some (.int .i64 A)∧w'.cell? ⟨g,1,none⟩=some (.int .u64 B)) (by kernel_rfl) (by kernel_rfl) (⟨k0,k1⟩) (fun OPS HO QR hQR=>?_)
 repeat (refine zeY (fun R hR=>?_);(first|refine zbY rfl rfl (by first|exact .inl rfl|exact .inr rfl) (by simp only[zE,zF,zG,zH];rfl) (by simp only[zA,zB,zC,zD];rfl) ?_|(refine zdY rfl rfl rfl rfl ?_;apply zEx;apply zEx;refine⟨fun w' hS K hK=>?_,?_,?_⟩;(focus (obtain⟨hS1,hS2⟩:=hS;go_wp2;exact hK _ _ (by simp only[zl,zG,zH];first|exact RX.bneB _|rfl) rfl));(focus (simp only[zA,zB,zC,zD];rfl))));refine hR _ _ ?_;clear hR R)
 refine zeY (fun R hR=>?_)
 refine zgY (by first|rfl|(rw[HO.out];rfl)) rfl (fun K hK=>?_)
 go_wp2_with fail
 refine (product_wv _ _ _ ha ha' hb hb').mono ?_
 rintro e w1 ⟨rfl,hb1⟩
 have hb1:Below W0.heap.size W0 w1:=⟨hb1.os,hb1.tape,hb1.output,hb1.size,hb1.block⟩
 have m0:=zP hb1 k0
 have m1:=zP hb1 k1
 refine hK _ _ ⟨.inr (⟨m0,m1⟩),hR _ _ ?_⟩;clear hK K hR R
 repeat (refine zeY (fun R hR=>?_);(first|refine zbY rfl rfl (by first|exact .inl rfl|exact .inr rfl) (by simp only[zE,zF,zG,zH];rfl) (by simp only[zA,zB,zC,zD];rfl) ?_|(refine zdY rfl rfl rfl rfl ?_;apply zEx;apply zEx;refine⟨fun w' hS K hK=>?_,?_,?_⟩;(focus (obtain⟨hS1,hS2⟩:=hS;go_wp2;exact hK _ _ (by simp only[zl,zG,zH];first|exact RX.bneB _|rfl) rfl));(focus (simp only[zA,zB,zC,zD];rfl))));refine hR _ _ ?_;clear hR R)
 refine zeY (fun R hR=>?_)
 refine zgY (by first|rfl|(rw[HO.out];rfl)) rfl (fun K hK=>?_)
 go_wp2_with fail
 refine (add_at _ _ s (a*b) hs.out rfl _).mono ?_
 rintro e w2 ⟨rfl,hb2⟩
 rw[hVal.out]
 have hb12:=hb1.trans (hb2.mono hb1.size)
 clear hb1 hb2 m0 m1
 have m0:=zP hb12 k0
 have m1:=zP hb12 k1
 have hS2:=hS0.below hb12
 have hR2:=hR0.below hb12
 have HR2:=zN hR2
 have y0:=hS2.f0
 have y1:=hS2.f1
 obtain⟨x0,x1,z0,z1⟩:=hR2
 have e1:wrap64 (0 / 18446744073709551616)=0:=by unfold wrap64;omega
 rw[e1] at x0
 have hG:w.grownBy w2 (some g):=grw_below (hB.trans (hb12.mono hB.size)) _
 have HG:=zN hG
 have HS2:=zN hS2
 clear hB hb12 k0 k1 hz hs e1 hS0 hR0 hS2 hG
 refine hK _ _ ⟨.inr (⟨m0,m1⟩),hR _ _ ?_⟩;clear hK K hR R
 repeat (refine zeY (fun R hR=>?_);(first|refine zbY rfl rfl (by first|exact .inl rfl|exact .inr rfl) (by simp only[zE,zF,zG,zH];rfl) (by simp only[zA,zB,zC,zD];rfl) ?_|(refine zdY rfl rfl rfl rfl ?_;apply zEx;apply zEx;refine⟨fun w' hS K hK=>?_,?_,?_⟩;(focus (obtain⟨hS1,hS2⟩:=hS;go_wp2;exact hK _ _ (by simp only[zl,zG,zH];first|exact RX.bneB _|rfl) rfl));(focus (simp only[zA,zB,zC,zD];rfl))));refine hR _ _ ?_;clear hR R)
 refine zeY (fun R hR=>?_)
 refine zgY (by first|rfl|(rw[HO.out];rfl)) rfl (fun K hK=>?_)
 go_wp2
 first|refine⟨(by first|exact .inl rfl|exact .inl trivial|trivial),hR _ _ (RY.wpL_nil (hQR _ _ ?_))⟩|refine hR _ _ (RY.wpL_nil (hQR _ _ ?_))|refine hQR _ _ ?_
 (try clear hR);(try clear R);clear hQR QR HO OPS
 go_wp2
 refine bodyPost_ret (v:=.agg #[.int .i64 C,.int .u64 D]) ?_ rfl ⟨by rw[hVal.out],?_,?_⟩
 ·have h1:SumAt ((w2.setCell ⟨g,0,none⟩ (.int .i64 C)).setCell ⟨g,1,none⟩ (.int .u64 D)) w.heap.size 0:=HR2.out.set2 hne2
  have h2:=sum_store h1 HC.out.1 HC.out.2
  obtain⟨q0,q1,_,_⟩:=h2
  rw[←HC.out.1] at q0
  rw[←HC.out.2] at q1
  generalize ((((w2.setCell ⟨g,0,none⟩ (.int .i64 C)).setCell ⟨g,1,none⟩ (.int .u64 D)).setCell ⟨w.heap.size,0,none⟩ (.int .i64 C)).setCell ⟨w.heap.size,1,none⟩ (.int .u64 D))=W at q0 q1 ⊢
  simp[results,Tryz.results133,go_sem,q0,q1]
 ·have h1:=sum_store HS2.out HC.out.1 HC.out.2
  exact h1.set2 hne
 ·exact grw_set (grw_set (grw_set (grw_set HG.out (.inl rfl)) (.inl rfl)) (.inr (Nat.le_refl _))) (.inr (Nat.le_refl _))
theorem total_any (w:World) :
  Calls Tryz.prog 107 #[] w fun e w'=>e=.returned (.func (.func 133) #[] #[.pointer (some ⟨w.heap.size,0,none⟩)])∧SumAt w' w.heap.size 0∧Below w.heap.size w w':=by
 go_enter Tryz.func107,Tryz.ntmps107
 go_wp2
 go_ret
 exact⟨rfl,SumAt.new w,(zBr _ _).alloc (Nat.le_refl _) _⟩
theorem wv_zero':wv (0+0*0)=.agg #[.int .i64 0,.int .u64 0]:=by rw[show (0:Int)+0*0=0 by omega];exact wv_zero.symm
theorem dot_ok (p q:Option Addr) (zs ys:List Int) (cz cy:Nat) (w:World) (hz:VecAt w p zs) (hy:VecAt w q ys) (hl:zs.length=ys.length) (hn:zs.length≤1000000000) (bz:I64L zs) (bY:I64L ys) :
  Calls Tryz.prog 93 #[.slice p zs.length cz,.slice q zs.length cy] w fun e w'=>e=.returned (.tuple #[wv (dotL zs ys),.int .i64 0])∧Below w.heap.size w w':=by
 have HL:=zN hl
 have HBZ:=zN bz
 have HBY:=zN bY
 clear hl bz bY
 go_enter Tryz.func93,Tryz.ntmps93
 go_wp2_with fail
 have hR0:=SumAt.new w
 have hB0:Below w.heap.size w (w.alloc (.cells #[.int .i64 0,.int .u64 0] 56)):=(zBr _ _).alloc (Nat.le_refl _) _
 generalize (w.alloc (.cells #[.int .i64 0,.int .u64 0] 56))=W0 at *
 refine (total_any _).mono ?_
 rintro e w1 ⟨rfl,hS1,hb1⟩
 have hR1:=hR0.below hb1
 have hB1:=hB0.trans (hb1.mono hB0.size)
 have hgR:w.heap.size < W0.heap.size:=hR0.lt
 obtain⟨g,hg⟩:∃ g,g=W0.heap.size:=⟨_,rfl⟩
 rw[←hg] at hS1 hgR ⊢
 clear hR0 hB0 hb1 hg
 clear W0
 go_wp2_with fail
 refine (total1_any 0 0 0 g _ hS1 (by omega) (by omega) (by omega) (by omega)).mono ?_
 rintro e w2 ⟨rfl,hS2,hg2⟩
 rw[show (0:Int)+0*0=0 by omega] at hS2
 rw[wv_zero']
 have hR2:=hR1.grown hg2 (by omega)
 have hB2:Below w.heap.size w w2:=hB1.grown hg2 hB1.size (fun k hk=>by injection hk with hk;omega)
 clear hS1 hR1 hB1 hg2
 go_wp2
 have hS3:=hS2.below ((zBr w2.heap.size w2).alloc (Nat.le_refl _) (.cells #[.int .i64 0,.int .u64 0] 56))
 have hR3:=hR2.below ((zBr w2.heap.size w2).alloc (Nat.le_refl _) (.cells #[.int .i64 0,.int .u64 0] 56))
 have hO3:=SumAt.new w2
 have hB3:Below w.heap.size w (w2.alloc (.cells #[.int .i64 0,.int .u64 0] 56)):=hB2.alloc hB2.size _
 have hgl:=hS2.lt
 obtain⟨o,ho⟩:∃ o,o=w2.heap.size:=⟨_,rfl⟩
 rw[←ho] at hO3 hgl ⊢
 generalize (w2.alloc (.cells #[.int .i64 0,.int .u64 0] 56))=W3 at *
 clear hS2 hR2 hB2 ho
 clear w2
 go_loopw [20] (fun i wr=>∃ k:Nat,k≤zs.length∧i=.int .i64 k∧SumAt wr g (dotL (zs.take k) (ys.take k))∧SumAt wr o (dotL (zs.take k) (ys.take k))∧SumAt wr w.heap.size 0∧Below w.heap.size w wr) (fun i _=>zs.length-(intOf i).toNat)
 case atStart=>exact⟨0,by omega,rfl,by simpa[dotL] using hS3,by simpa[dotL] using hO3,hR3,hB3⟩
 case round=>
  clear hS3 hO3 hR3 hB3
  obtain⟨k,hk,rfl,hSg,hSo,hSr,hB⟩:=hrel
  by_cases hlt:k < zs.length
  ·have hdk:decide ((k:Int) < (zs.length:Int))=true:=zDt (by omega)
   obtain⟨bx,ox,rfl,hbx,hcx⟩:=hz.cell (by omega)
   obtain⟨bY,oy,rfl,hby,hcy⟩:=hy.cell (by rw[←HL.out];omega)
   have xk:=zP hB (hcx k hlt)
   have yk:=zP hB (hcy k (by rw[←HL.out];exact hlt))
   have hbdx:=HBZ.out zs[k] (List.getElem_mem _)
   have hbdy:=HBY.out (ys[k]'(by rw[←HL.out];exact hlt)) (List.getElem_mem _)
   have HS:=zN (dotL_take HL.out hlt)
   obtain⟨x,hx⟩:∃ x,x=zs[k]:=⟨_,rfl⟩
   obtain⟨y,hy'⟩:∃ y,y=ys[k]'(by rw[←HL.out];exact hlt):=⟨_,rfl⟩
   rw[←hx] at xk hbdx HS
   rw[←hy'] at yk hbdy HS
   have hgR:bx≠g:=by omega
   have hgR2:bY≠g:=by omega
   clear hcx hcy hx hy' hz hy
   go_wp2
   refine RY.region RX.fL (fun w'=>w'.cell? ⟨bx,ox+k,none⟩=some (.int .i64 x)∧w'.cell? ⟨bY,oy+k,none⟩=some (.int .i64 y)) (by kernel_rfl) (by kernel_rfl) (⟨xk,yk⟩) (fun OPS HO QR hQR=>?_)
   repeat (refine zeY (fun R hR=>?_);(first|refine zbY rfl rfl (by first|exact .inl rfl|exact .inr rfl) (by simp only[zE,zF,zG,zH];rfl) (by simp only[zA,zB,zC,zD];rfl) ?_|(refine zdY rfl rfl rfl rfl ?_;apply zEx;apply zEx;refine⟨fun w' hS K hK=>?_,?_,?_⟩;(focus (obtain⟨hS1,hS2⟩:=hS;go_wp2;exact hK _ _ (by simp only[zl,zG,zH];first|exact RX.bneB _|rfl) rfl));(focus (simp only[zA,zB,zC,zD];rfl))));refine hR _ _ ?_;clear hR R)
   refine zeY (fun R hR=>?_)
   refine zgY (by first|rfl|(rw[HO.out];rfl)) rfl (fun K hK=>?_)
   go_wp2_with fail
   refine (total1_any x y (dotL (zs.take k) (ys.take k)) g _ hSg.drew hbdx.1 hbdx.2 hbdy.1 hbdy.2).mono ?_
   rintro e w4 ⟨rfl,hS4,hg4⟩
   rw[←HS.out] at hS4
   rw[←HS.out]
   have hg4:wr.grownBy w4 (some g):=⟨hg4.os,hg4.tape,hg4.output,hg4.size,hg4.block⟩
   have hO4:=hSo.grown hg4 (by omega)
   have hR4:=hSr.grown hg4 (by omega)
   have x4:=hg4.cell xk (by simpa using hgR)
   have y4:=hg4.cell yk (by simpa using hgR2)
   have hB4:Below w.heap.size w w4:=hB.grown hg4 hB.size (fun k hk=>by injection hk with hk;omega)
   obtain⟨C,D,hC,hD,hVal⟩:=wv_parts (dotL (zs.take (k+1)) (ys.take (k+1)))
   rw[hVal]
   obtain⟨c0,c1,z0,z1⟩:=hO4
   have HO4:Hid (SumAt w4 o (dotL (zs.take k) (ys.take k))):=zN ⟨c0,c1,z0,z1⟩
   have HC:=zN (And.intro hC hD)
   have HX:=zN (And.intro hS4 (And.intro hR4 hB4))
   clear hSg hSo hSr hB hg4 hC hD hVal hS4 hR4 hB4 xk yk HS
   refine hK _ _ ⟨.inr (⟨x4,y4⟩),hR _ _ ?_⟩;clear hK K hR R
   repeat (refine zeY (fun R hR=>?_);(first|refine zbY rfl rfl (by first|exact .inl rfl|exact .inr rfl) (by simp only[zE,zF,zG,zH];rfl) (by simp only[zA,zB,zC,zD];rfl) ?_|(refine zdY rfl rfl rfl rfl ?_;apply zEx;apply zEx;refine⟨fun w' hS K hK=>?_,?_,?_⟩;(focus (obtain⟨hS1,hS2⟩:=hS;go_wp2;exact hK _ _ (by simp only[zl,zG,zH];first|exact RX.bneB _|rfl) rfl));(focus (simp only[zA,zB,zC,zD];rfl))));refine hR _ _ ?_;clear hR R)
   refine zeY (fun R hR=>?_)
   refine zgY (by first|rfl|(rw[HO.out];rfl)) rfl (fun K hK=>?_)
   go_wp2
   first|refine⟨(by first|exact .inl rfl|exact .inl trivial|trivial),hR _ _ (RY.wpL_nil (hQR _ _ ?_))⟩|refine hR _ _ (RY.wpL_nil (hQR _ _ ?_))|refine hQR _ _ ?_
   (try clear hR);(try clear R);clear hQR QR HO OPS
   go_wp2
   have hro:w.heap.size≠o:=by omega
   have hgo:g≠o:=by omega
   have HS1:Hid (SumAt ((w4.setCell ⟨o,0,none⟩ (.int .i64 C)).setCell ⟨o,1,none⟩ (.int .u64 D)) o (dotL (zs.take (k+1)) (ys.take (k+1)))):=zN (sum_store HO4.out HC.out.1 HC.out.2)
   go_roundw
   case rel=>exact⟨k+1,by omega,by go_num,HX.out.1.set2 hgo,HS1.out,HX.out.2.1.set2 hro,(HX.out.2.2.setCell (by simp;omega) _).setCell (by simp;omega) _⟩
   case measure=>simp[intOf];omega
  ·obtain rfl:k=zs.length:=by omega
   have hdk:decide ((zs.length:Int) < (zs.length:Int))=false:=zDf (by omega)
   have e1:dotL (zs.take zs.length) (ys.take zs.length)=dotL zs ys:=by rw[List.take_length,HL.out,List.take_length]
   rw[e1] at hSo
   clear hSg e1
   obtain⟨C,D,hC,hD,hVal⟩:=wv_parts (dotL zs ys)
   obtain⟨c0,c1,_,_⟩:=hSo
   rw[←hC] at c0
   rw[←hD] at c1
   have HR:=zN hSr
   obtain⟨x0,x1,z0,z1⟩:=hSr
   have hoR:¬ o=w.heap.size:=by omega
   have HC:=zN (And.intro hC hD)
   have HV:=zN hVal
   clear hC hD hVal
   go_wp2
   refine bodyPost_ret (v:=.tuple #[.agg #[.int .i64 C,.int .u64 D],.int .i64 0]) ?_ rfl ⟨by rw[HV.out],(hB.setCell (by simp) _).setCell (by simp) _⟩
   obtain⟨q0,q1,_,_⟩:=sum_store HR.out HC.out.1 HC.out.2
   rw[←HC.out.1] at q0
   rw[←HC.out.2] at q1
   generalize ((wr.setCell ⟨w.heap.size,0,none⟩ (.int .i64 C)).setCell ⟨w.heap.size,1,none⟩ (.int .u64 D))=W at q0 q1 ⊢
   simp[results,Tryz.results93,go_sem,q0,q1]
theorem radd_at2 (v u:Value) (p q:Int) (hv:v=wv p) (hu:u=wv q) (w:World) :
  Calls Tryz.prog 76 #[v,u] w fun e w'=>e=.returned (wv (p+q))∧Below w.heap.size w w':=by
 subst hv hu;exact radd_any p q w
theorem rdot_ok (p q:Option Addr) (zs ys:List Int) (cz cy:Nat) (w:World) (hz:VecAt w p zs) (hy:VecAt w q ys) (hl:zs.length=ys.length) (hn:zs.length≤1000000000) (bz:I64L zs) (bY:I64L ys) :
  Calls Tryz.prog 94 #[.slice p zs.length cz,.slice q zs.length cy] w fun e w'=>e=.returned (.tuple #[wv (dotL zs ys),.int .i64 0])∧Below w.heap.size w w':=by
 have HL:=zN hl
 have HBZ:=zN bz
 have HBY:=zN bY
 clear hl bz bY
 go_enter Tryz.func94,Tryz.ntmps94
 go_wp2
 have hR0:=SumAt.new w
 have hB0:Below w.heap.size w (w.alloc (.cells #[.int .i64 0,.int .u64 0] 56)):=(zBr _ _).alloc (Nat.le_refl _) _
 have hs0:(w.alloc (.cells #[.int .i64 0,.int .u64 0] 56)).heap.size=w.heap.size+1:=by simp
 generalize (w.alloc (.cells #[.int .i64 0,.int .u64 0] 56))=W0 at *
 have hO3:=SumAt.new W0
 have hR3:=hR0.below ((zBr W0.heap.size W0).alloc (Nat.le_refl _) (.cells #[.int .i64 0,.int .u64 0] 56))
 have hB3:Below w.heap.size w (W0.alloc (.cells #[.int .i64 0,.int .u64 0] 56)):=hB0.alloc hB0.size _
 obtain⟨o,ho⟩:∃ o,o=w.heap.size+1:=⟨_,rfl⟩
 rw[hs0,←ho] at hO3
 rw[←ho]
 generalize (W0.alloc (.cells #[.int .i64 0,.int .u64 0] 56))=W3 at *
 have hro:w.heap.size < o:=by omega
 clear hR0 hB0 ho hs0
 clear W0
 go_loopw [7] (fun i wr=>∃ k:Nat,k≤zs.length∧i=.int .i64 k∧SumAt wr o (dotL (zs.take k) (ys.take k))∧SumAt wr w.heap.size 0∧Below w.heap.size w wr) (fun i _=>zs.length-(intOf i).toNat)
 case atStart=>exact⟨0,by omega,rfl,by simpa[dotL] using hO3,hR3,hB3⟩
 case round=>
  clear hO3 hR3 hB3
  obtain⟨k,hk,rfl,hSo,hSr,hB⟩:=hrel
  by_cases hlt:k < zs.length
  ·have hdk:decide ((k:Int) < (zs.length:Int))=true:=zDt (by omega)
   obtain⟨bx,ox,rfl,hbx,hcx⟩:=hz.cell (by omega)
   obtain⟨bY,oy,rfl,hby,hcy⟩:=hy.cell (by rw[←HL.out];omega)
   have xk:=zP hB (hcx k hlt)
   have yk:=zP hB (hcy k (by rw[←HL.out];exact hlt))
   have hbdx:=HBZ.out zs[k] (List.getElem_mem _)
   have hbdy:=HBY.out (ys[k]'(by rw[←HL.out];exact hlt)) (List.getElem_mem _)
   have HS:=zN (dotL_take HL.out hlt)
   obtain⟨x,hx⟩:∃ x,x=zs[k]:=⟨_,rfl⟩
   obtain⟨y,hy'⟩:∃ y,y=ys[k]'(by rw[←HL.out];exact hlt):=⟨_,rfl⟩
   rw[←hx] at xk hbdx HS
   rw[←hy'] at yk hbdy HS
   clear hcx hcy hx hy' hz hy
   obtain⟨A,B,hA,hBB,hs⟩:=wv_parts (dotL (zs.take k) (ys.take k))
   obtain⟨a0,a1,z0,z1⟩:=hSo
   have HOS:Hid (SumAt wr o (dotL (zs.take k) (ys.take k))):=zN ⟨a0,a1,z0,z1⟩
   rw[←hA] at a0
   rw[←hBB] at a1
   have HAB:=zN hs.symm
   clear hA hBB hs
   go_wp2
   refine RY.region RX.fL (fun w'=>w'.cell? ⟨o,0,none⟩=some (.int .i64 A)∧w'.cell? ⟨o,1,none⟩=some (.int .u64 B)∧w'.cell? ⟨bx,ox+k,none⟩=some (.int .i64 x)∧w'.cell? ⟨bY,oy+k,none⟩=some (.int .i64 y)) (by kernel_rfl) (by kernel_rfl) (⟨a0,a1,xk,yk⟩) (fun OPS HO QR hQR=>?_)
   repeat (refine zeY (fun R hR=>?_);(first|refine zbY rfl rfl (by first|exact .inl rfl|exact .inr rfl) (by simp only[zE,zF,zG,zH];rfl) (by simp only[zA,zB,zC,zD];rfl) ?_|(refine zdY rfl rfl rfl rfl ?_;apply zEx;apply zEx;refine⟨fun w' hS K hK=>?_,?_,?_⟩;(focus (obtain⟨hS1,hS2,hS3,hS4⟩:=hS;go_wp2;exact hK _ _ (by simp only[zl,zG,zH];first|exact RX.bneB _|rfl) rfl));(focus (simp only[zA,zB,zC,zD];rfl))));refine hR _ _ ?_;clear hR R)
   refine zeY (fun R hR=>?_)
   refine zgY (by first|rfl|(rw[HO.out];rfl)) rfl (fun K hK=>?_)
   go_wp2_with fail
   refine (rproduct_any x y _ hbdx.1 hbdx.2 hbdy.1 hbdy.2).mono ?_
   rintro e w3 ⟨rfl,hb3⟩
   have hb3:Below wr.heap.size wr w3:=⟨hb3.os,hb3.tape,hb3.output,hb3.size,hb3.block⟩
   refine hK _ _ ⟨.inr (⟨zP hb3 a0,zP hb3 a1,zP hb3 xk,zP hb3 yk⟩),hR _ _ ?_⟩;clear hK K hR R
   repeat (refine zeY (fun R hR=>?_);(first|refine zbY rfl rfl (by first|exact .inl rfl|exact .inr rfl) (by simp only[zE,zF,zG,zH];rfl) (by simp only[zA,zB,zC,zD];rfl) ?_|(refine zdY rfl rfl rfl rfl ?_;apply zEx;apply zEx;refine⟨fun w' hS K hK=>?_,?_,?_⟩;(focus (obtain⟨hS1,hS2,hS3,hS4⟩:=hS;go_wp2;exact hK _ _ (by simp only[zl,zG,zH];first|exact RX.bneB _|rfl) rfl));(focus (simp only[zA,zB,zC,zD];rfl))));refine hR _ _ ?_;clear hR R)
   refine zeY (fun R hR=>?_)
   refine zgY (by first|rfl|(rw[HO.out];rfl)) rfl (fun K hK=>?_)
   go_wp2_with fail
   refine (radd_at2 _ _ (dotL (zs.take k) (ys.take k)) (x*y) HAB.out rfl _).mono ?_
   rintro e w4 ⟨rfl,hb4⟩
   rw[←HS.out]
   have hb4:=hb3.trans (hb4.mono hb3.size)
   have a04:=zP hb4 a0
   have a14:=zP hb4 a1
   have x4:=zP hb4 xk
   have y4:=zP hb4 yk
   have hO4:=HOS.out.below hb4
   have hR4:=hSr.below hb4
   have hB4:Below w.heap.size w w4:=hB.trans (hb4.mono hB.size)
   obtain⟨C,D,hC,hD,hVal⟩:=wv_parts (dotL (zs.take (k+1)) (ys.take (k+1)))
   rw[hVal]
   have HO4:=zN hO4
   have z04:=hO4.f0
   have z14:=hO4.f1
   have HC:=zN (And.intro hC hD)
   have HX:=zN (And.intro hR4 hB4)
   clear hSr hB hb4 hb3 hC hD hVal hR4 hB4 xk yk HS a0 a1 z0 z1 hO4 HOS
   refine hK _ _ ⟨.inr (⟨a04,a14,x4,y4⟩),hR _ _ ?_⟩;clear hK K hR R
   repeat (refine zeY (fun R hR=>?_);(first|refine zbY rfl rfl (by first|exact .inl rfl|exact .inr rfl) (by simp only[zE,zF,zG,zH];rfl) (by simp only[zA,zB,zC,zD];rfl) ?_|(refine zdY rfl rfl rfl rfl ?_;apply zEx;apply zEx;refine⟨fun w' hS K hK=>?_,?_,?_⟩;(focus (obtain⟨hS1,hS2,hS3,hS4⟩:=hS;go_wp2;exact hK _ _ (by simp only[zl,zG,zH];first|exact RX.bneB _|rfl) rfl));(focus (simp only[zA,zB,zC,zD];rfl))));refine hR _ _ ?_;clear hR R)
   refine zeY (fun R hR=>?_)
   refine zgY (by first|rfl|(rw[HO.out];rfl)) rfl (fun K hK=>?_)
   go_wp2
   first|refine⟨(by first|exact .inl rfl|exact .inl trivial|trivial),hR _ _ (RY.wpL_nil (hQR _ _ ?_))⟩|refine hR _ _ (RY.wpL_nil (hQR _ _ ?_))|refine hQR _ _ ?_
   (try clear hR);(try clear R);clear hQR QR HO OPS
   go_wp2
   have hro:w.heap.size≠o:=by omega
   have HS1:Hid (SumAt ((w4.setCell ⟨o,0,none⟩ (.int .i64 C)).setCell ⟨o,1,none⟩ (.int .u64 D)) o (dotL (zs.take (k+1)) (ys.take (k+1)))):=zN (sum_store HO4.out HC.out.1 HC.out.2)
   go_roundw
   case rel=>exact⟨k+1,by omega,by go_num,HS1.out,HX.out.1.set2 hro,(HX.out.2.setCell (by simp;omega) _).setCell (by simp;omega) _⟩
   case measure=>simp[intOf];omega
  ·obtain rfl:k=zs.length:=by omega
   have hdk:decide ((zs.length:Int) < (zs.length:Int))=false:=zDf (by omega)
   have e1:dotL (zs.take zs.length) (ys.take zs.length)=dotL zs ys:=by rw[List.take_length,HL.out,List.take_length]
   rw[e1] at hSo
   clear e1
   obtain⟨C,D,hC,hD,hVal⟩:=wv_parts (dotL zs ys)
   obtain⟨c0,c1,_,_⟩:=hSo
   rw[←hC] at c0
   rw[←hD] at c1
   have HR:=zN hSr
   obtain⟨x0,x1,z0,z1⟩:=hSr
   have hoR:¬ o=w.heap.size:=by omega
   have HC:=zN (And.intro hC hD)
   have HV:=zN hVal
   clear hC hD hVal
   go_wp2
   refine bodyPost_ret (v:=.tuple #[.agg #[.int .i64 C,.int .u64 D],.int .i64 0]) ?_ rfl ⟨by rw[HV.out],(hB.setCell (by simp) _).setCell (by simp) _⟩
   obtain⟨q0,q1,_,_⟩:=sum_store HR.out HC.out.1 HC.out.2
   rw[←HC.out.1] at q0
   rw[←HC.out.2] at q1
   generalize ((wr.setCell ⟨w.heap.size,0,none⟩ (.int .i64 C)).setCell ⟨w.heap.size,1,none⟩ (.int .u64 D))=W at q0 q1 ⊢
   simp[results,Tryz.results94,go_sem,q0,q1]
end Go.Proofs.YtojkamfabapcoaaGreatDoor
