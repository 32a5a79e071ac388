import Derived.Test.YtojkamfabapcoaaGreatDoorKRef
import Derived.Test.YtojkamfabapcoaaGreatDoorRing
import Derived.Test.YtojkamfabapcoaaGreatDoorKLin
import Derived.Test.YtojkamfabapcoaaGreatDoorKRegion
set_option maxRecDepth 100000
set_option maxHeartbeats 8000000
set_option linter.unusedSimpArgs false
set_option linter.unusedVariables false
namespace Go.Proofs.YtojkamfabapcoaaGreatDoor
open Go.RowKit
structure SumAt (w:World) (g:Nat) (s:Int):Prop where
 c0:w.cell? ⟨g,0,none⟩=some (.int .i64 (wrap64 (s / 18446744073709551616)))
 c1:w.cell? ⟨g,1,none⟩=some (.int .u64 (s % 18446744073709551616))
 f0:w.frozen? ⟨g,0,none⟩=false
 f1:w.frozen? ⟨g,1,none⟩=false
theorem SumAt.block {w w':World} {g:Nat} {s:Int} (h:SumAt w g s) (hb:w'.heap[g]?=w.heap[g]?):SumAt w' g s:=
 ⟨(World.cell?_of_block hb).trans h.c0,(World.cell?_of_block hb).trans h.c1,(zFb hb).trans h.f0,(zFb hb).trans h.f1⟩
theorem SumAt.lt {w:World} {g:Nat} {s:Int} (h:SumAt w g s):g < w.heap.size:=zM _ _ h.c0
theorem sum_store {w:World} {g:Nat} {s s' C D:Int} (h:SumAt w g s) (hC:C=wrap64 (s' / 18446744073709551616)) (hD:D=s' % 18446744073709551616) :
  SumAt ((w.setCell ⟨g,0,none⟩ (.int .i64 C)).setCell ⟨g,1,none⟩ (.int .u64 D)) g s':=by
 subst hC hD
 refine⟨?_,?_,by rw[World.frozen?_setCell,World.frozen?_setCell];exact h.f0,by rw[World.frozen?_setCell,World.frozen?_setCell];exact h.f1⟩
 ·rw[zK _ _ _ _ (by simp)];exact zL _ _ _ (by rw[h.c0];rfl)
 ·exact zL _ _ _ (by rw[zK _ _ _ _ (by simp),h.c1];rfl)
theorem SumAt.set {w:World} {g k i:Nat} {s:Int} {v:Value} (h:SumAt w g s) (hne:g≠k):SumAt (w.setCell ⟨k,i,none⟩ v) g s:=
 h.block (Below.heap_setCell _ _ _ g hne)
theorem SumAt.set2 {w:World} {g k i j:Nat} {s:Int} {u v:Value} (h:SumAt w g s) (hne:g≠k):SumAt ((w.setCell ⟨k,i,none⟩ u).setCell ⟨k,j,none⟩ v) g s:=(h.set hne).set hne
theorem SumAt.drew {w:World} {g:Nat} {s:Int} (h:SumAt w g s):SumAt w.drew g s:=h.block rfl
theorem SumAt.below {w w':World} {g:Nat} {s:Int} (h:SumAt w g s) (hb:Below w.heap.size w w'):SumAt w' g s:=h.block (hb.block _ h.lt)
theorem SumAt.grown {w w':World} {g k:Nat} {s:Int} (h:SumAt w g s) (hb:w.grownBy w' (some k)) (hne:g≠k):SumAt w' g s:=h.block (hb.block _ h.lt (by simpa using hne))
theorem SumAt.new (w:World):SumAt (w.alloc (.cells #[.int .i64 0,.int .u64 0] 56)) w.heap.size 0:=by
 have e1:wrap64 (0 / 18446744073709551616)=0:=by unfold wrap64;omega
 exact⟨by rw[e1];simp[zJ],by simp[zJ],by simp[RX.frozen_alloc],by simp[RX.frozen_alloc]⟩
theorem wv_parts (s:Int):∃ C D,C=wrap64 (s / 18446744073709551616)∧D=s % 18446744073709551616∧wv s=.agg #[.int .i64 C,.int .u64 D]:=⟨_,_,rfl,rfl,rfl⟩
theorem total1_any (a b s:Int) (g:Nat) (w:World) (hS:SumAt w g s) (ha:-9223372036854775808≤a) (ha':a≤9223372036854775807) (hb:-9223372036854775808≤b) (hb':b≤9223372036854775807) :
  Calls Tryz.prog 133 #[.int .i64 a,.int .i64 b,.pointer (some ⟨g,0,none⟩)] w fun e w'=>e=.returned (wv (s+a*b))∧SumAt w' g (s+a*b)∧w.grownBy w' (some g):=by
 have hg:=hS.lt
 obtain⟨A,B,hA,hBB,hs⟩:=wv_parts s
 obtain⟨C,D,hC,hD,hVal⟩:=wv_parts (s+a*b)
 have hne:¬ g=w.heap.size:=by omega
 have hne2:¬ w.heap.size=g:=by omega
 have HC:=zN (And.intro hC hD)
 have HA:=zN (And.intro hA hBB)
 have hs:=zN hs.symm
 have hVal:=zN hVal
 clear hC hD hA hBB
 go_enter Tryz.func133,Tryz.ntmps133
 go_wp2
 have hB:Below w.heap.size w (w.alloc (.cells #[.int .i64 0,.int .u64 0] 56)):=(zBr _ _).alloc (Nat.le_refl _) _
 have hS0:=hS.below hB
 have hR0:=SumAt.new w
 have hz:w.heap.size < (w.alloc (.cells #[.int .i64 0,.int .u64 0] 56)).heap.size:=by simp
 clear hS
 generalize (w.alloc (.cells #[.int .i64 0,.int .u64 0] 56))=W0 at *
 have k0:W0.cell? ⟨g,0,none⟩=some (.int .i64 A):=by rw[HA.out.1];exact hS0.c0
 have k1:W0.cell? ⟨g,1,none⟩=some (.int .u64 B):=by rw[HA.out.2];exact hS0.c1
 refine RY.region RX.fL (fun w'=>w'.cell? ⟨g,0,none⟩=some (.int .i64 A)∧w'.cell? ⟨g,1,none⟩=some (.int .u64 B)) (by kernel_rfl) (by kernel_rfl) (⟨k0,k1⟩) (fun OPS HO QR hQR=>?_)
 repeat (refine zeY (fun R hR=>?_);(first|refine zaY (by first|rfl|(rw[HO.out];rfl)) (by simp only[zA,zB,zC,zD];rfl) ?_|refine zbY (by first|rfl|(rw[HO.out];rfl)) rfl (by first|exact .inl rfl|exact .inr rfl) (by simp only[zE,zF,zG,zH];rfl) (by simp only[zA,zB,zC,zD];rfl) ?_|refine zcY (by first|rfl|(rw[HO.out];rfl)) rfl rfl (by simp only[zE,zF,zG,zH];rfl) (by simp only[zA,zB,zC,zD];rfl) ?_|(refine zdY (by first|rfl|(rw[HO.out];rfl)) rfl rfl rfl ?_;apply zEx;apply zEx;refine⟨fun w' hS K hK=>?_,?_,?_⟩;(focus (obtain⟨hS1,hS2⟩:=hS;go_wp2;exact hK _ _ (by simp only[zl,zG,zH];first|exact zf (by omega)|exact zg (by omega)|exact zh (by omega)|exact zi (by omega)|exact zj (by omega)|exact zk (by omega)|exact RX.bneB _|rfl) rfl));(focus (simp only[zA,zB,zC,zD];rfl))));refine hR _ _ ?_;clear hR R)
 refine zeY (fun R hR=>?_)
 refine zgY (by first|rfl|(rw[HO.out];rfl)) rfl (fun K hK=>?_)
 go_wp2_with fail
 refine (product_wv _ _ _ ha ha' hb hb').mono ?_
 rintro e w1 ⟨rfl,hb1⟩
 have hb1:Below W0.heap.size W0 w1:=⟨hb1.os,hb1.tape,hb1.output,hb1.size,hb1.block⟩
 have m0:=zP hb1 k0
 have m1:=zP hb1 k1
 refine hK _ _ ⟨.inr (⟨m0,m1⟩),hR _ _ ?_⟩;clear hK K hR R
 repeat (refine zeY (fun R hR=>?_);(first|refine zaY (by first|rfl|(rw[HO.out];rfl)) (by simp only[zA,zB,zC,zD];rfl) ?_|refine zbY (by first|rfl|(rw[HO.out];rfl)) rfl (by first|exact .inl rfl|exact .inr rfl) (by simp only[zE,zF,zG,zH];rfl) (by simp only[zA,zB,zC,zD];rfl) ?_|refine zcY (by first|rfl|(rw[HO.out];rfl)) rfl rfl (by simp only[zE,zF,zG,zH];rfl) (by simp only[zA,zB,zC,zD];rfl) ?_|(refine zdY (by first|rfl|(rw[HO.out];rfl)) rfl rfl rfl ?_;apply zEx;apply zEx;refine⟨fun w' hS K hK=>?_,?_,?_⟩;(focus (obtain⟨hS1,hS2⟩:=hS;go_wp2;exact hK _ _ (by simp only[zl,zG,zH];first|exact zf (by omega)|exact zg (by omega)|exact zh (by omega)|exact zi (by omega)|exact zj (by omega)|exact zk (by omega)|exact RX.bneB _|rfl) rfl));(focus (simp only[zA,zB,zC,zD];rfl))));refine hR _ _ ?_;clear hR R)
 refine zeY (fun R hR=>?_)
 refine zgY (by first|rfl|(rw[HO.out];rfl)) rfl (fun K hK=>?_)
 go_wp2_with fail
 refine (add_at _ _ s (a*b) hs.out rfl _).mono ?_
 rintro e w2 ⟨rfl,hb2⟩
 rw[hVal.out]
 have hb12:=hb1.trans (hb2.mono hb1.size)
 clear hb1 hb2 m0 m1
 have m0:=zP hb12 k0
 have m1:=zP hb12 k1
 have hS2:=hS0.below hb12
 have hR2:=hR0.below hb12
 have HR2:=zN hR2
 have y0:=hS2.f0
 have y1:=hS2.f1
 obtain⟨x0,x1,z0,z1⟩:=hR2
 have e1:wrap64 (0 / 18446744073709551616)=0:=by unfold wrap64;omega
 rw[e1] at x0
 have hG:w.grownBy w2 (some g):=grw_below (hB.trans (hb12.mono hB.size)) _
 have HG:=zN hG
 have HS2:=zN hS2
 clear hB hb12 k0 k1 hz hs e1 hS0 hR0 hS2 hG
 refine hK _ _ ⟨.inr (⟨m0,m1⟩),hR _ _ ?_⟩;clear hK K hR R
 repeat (refine zeY (fun R hR=>?_);(first|refine zaY (by first|rfl|(rw[HO.out];rfl)) (by simp only[zA,zB,zC,zD];rfl) ?_|refine zbY (by first|rfl|(rw[HO.out];rfl)) rfl (by first|exact .inl rfl|exact .inr rfl) (by simp only[zE,zF,zG,zH];rfl) (by simp only[zA,zB,zC,zD];rfl) ?_|refine zcY (by first|rfl|(rw[HO.out];rfl)) rfl rfl (by simp only[zE,zF,zG,zH];rfl) (by simp only[zA,zB,zC,zD];rfl) ?_|(refine zdY (by first|rfl|(rw[HO.out];rfl)) rfl rfl rfl ?_;apply zEx;apply zEx;refine⟨fun w' hS K hK=>?_,?_,?_⟩;(focus (obtain⟨hS1,hS2⟩:=hS;go_wp2;exact hK _ _ (by simp only[zl,zG,zH];first|exact zf (by omega)|exact zg (by omega)|exact zh (by omega)|exact zi (by omega)|exact zj (by omega)|exact zk (by omega)|exact RX.bneB _|rfl) rfl));(focus (simp only[zA,zB,zC,zD];rfl))));refine hR _ _ ?_;clear hR R)
 refine zeY (fun R hR=>?_)
 refine zgY (by first|rfl|(rw[HO.out];rfl)) rfl (fun K hK=>?_)
 go_wp2
 first|refine⟨(by first|exact .inl rfl|exact .inl trivial|trivial),hR _ _ (RY.wpL_nil (hQR _ _ ?_))⟩|refine hR _ _ (RY.wpL_nil (hQR _ _ ?_))|refine hQR _ _ ?_
 (try clear hR);(try clear R);clear hQR QR HO OPS
 go_wp2
 refine bodyPost_ret (v:=.agg #[.int .i64 C,.int .u64 D]) ?_ rfl ⟨by rw[hVal.out],?_,?_⟩
 ·have h1:SumAt ((w2.setCell ⟨g,0,none⟩ (.int .i64 C)).setCell ⟨g,1,none⟩ (.int .u64 D)) w.heap.size 0:=HR2.out.set2 hne2
  have h2:=sum_store h1 HC.out.1 HC.out.2
  obtain⟨q0,q1,_,_⟩:=h2
  rw[←HC.out.1] at q0
  rw[←HC.out.2] at q1
  generalize ((((w2.setCell ⟨g,0,none⟩ (.int .i64 C)).setCell ⟨g,1,none⟩ (.int .u64 D)).setCell ⟨w.heap.size,0,none⟩ (.int .i64 C)).setCell ⟨w.heap.size,1,none⟩ (.int .u64 D))=W at q0 q1 ⊢
  simp[results,Tryz.results133,go_sem,q0,q1]
 ·have h1:=sum_store HS2.out HC.out.1 HC.out.2
  exact h1.set2 hne
 ·exact grw_set (grw_set (grw_set (grw_set HG.out (.inl rfl)) (.inl rfl)) (.inr (Nat.le_refl _))) (.inr (Nat.le_refl _))
theorem total_any (w:World) :
  Calls Tryz.prog 107 #[] w fun e w'=>e=.returned (.func (.func 133) #[] #[.pointer (some ⟨w.heap.size,0,none⟩)])∧SumAt w' w.heap.size 0∧Below w.heap.size w w':=by
 go_enter Tryz.func107,Tryz.ntmps107
 go_wp2
 go_ret
 exact⟨rfl,SumAt.new w,(zBr _ _).alloc (Nat.le_refl _) _⟩
theorem wv_zero':wv (0+0*0)=.agg #[.int .i64 0,.int .u64 0]:=by rw[show (0:Int)+0*0=0 by omega];exact wv_zero.symm
theorem radd_at2 (v u:Value) (p q:Int) (hv:v=wv p) (hu:u=wv q) (w:World) :
  Calls Tryz.prog 76 #[v,u] w fun e w'=>e=.returned (wv (p+q))∧Below w.heap.size w w':=by
 subst hv hu;exact radd_any p q w
end Go.Proofs.YtojkamfabapcoaaGreatDoor
