import Derived.Test.YtednaajanciabaaGreatDoorProg
import Derived.Test.YtednaajanciabaaGreatDoorKRegion
import Derived.WalkKit
import Derived.WalkLawsBesides
import Derived.WalkSpells
import Derived.Lib.Hide
import Derived.Maps.AppendAt
import Derived.Test.YtednaajanciabaaGreatDoorKPlace
set_option maxRecDepth 100000
set_option maxHeartbeats 8000000
set_option linter.unusedSimpArgs false
set_option linter.unusedVariables false
namespace Go.Proofs.YtednaajanciabaaGreatDoor
open Go.RowKit
theorem kmod_any (x n:Int) (w:World) (hx:-9223372036854775808≤x) (hx':x≤9223372036854775807) (h1:1≤n) (h2:n≤4611686018427387904) :
  Calls Tryz.prog 19 #[.int .i64 x,.int .i64 n] w fun e w'=>e=.returned (.int .i64 (x % n))∧w=w':=by
 have hn0:(n == 0)=false:=by rw[beq_eq_false_iff_ne];omega
 by_cases h0:0≤x
 ·have e1:x.tmod n=x % n:=Int.tmod_eq_emod_of_nonneg h0
  have e2:=Int.emod_nonneg x (show n≠0 by omega)
  have e3:=Int.emod_lt_of_pos x (show 0 < n by omega)
  go_enter Tryz.func19,Tryz.ntmps19
  go_wp2
  go_ret
  exact⟨rfl,rfl⟩
 ·obtain⟨t,ht⟩:∃ t,t=x.tmod n:=⟨_,rfl⟩
  have a2:x.tmod n=-((-x) % n):=by
   rw[show x=-(-x) by omega,Int.neg_tmod,Int.neg_neg,Int.tmod_eq_emod_of_nonneg (by omega)]
  have hr:x % n=if t < 0 then t+n else t:=by
   rw[ht]
   rw[a2]
   have a3:=Int.emod_nonneg (-x) (show n≠0 by omega)
   have a4:=Int.emod_lt_of_pos (-x) (show 0 < n by omega)
   have a5:=Int.emod_nonneg x (show n≠0 by omega)
   have a6:=Int.emod_lt_of_pos x (show 0 < n by omega)
   have a7:=Int.mul_ediv_add_emod (-x) n
   have a8:=Int.mul_ediv_add_emod x n
   have a9:n*((-x) / n+x / n)=- ((-x) % n)-x % n:=by rw[Int.mul_add];omega
   generalize (-x) / n+x / n=z at a9
   generalize (-x) % n=u at *
   generalize x % n=v at *
   split
   ·have:z=-1:=by
     have b1:n*z < 0:=by omega
     have b2:n*(-2) < n*z:=by omega
     have b3:z < 0:=by
      by_cases h:z < 0
      ·exact h
      ·have:=Int.mul_nonneg (show 0≤n by omega) (show 0≤z by omega);omega
     have b4:-2 < z:=Int.lt_of_mul_lt_mul_left b2 (by omega)
     omega
    subst this;omega
   ·have u0:u=0:=by omega
    subst u0
    have:z=0:=by
     have b2:n*(-1) < n*z:=by omega
     have b4:-1 < z:=Int.lt_of_mul_lt_mul_left b2 (by omega)
     have b5:n*z < n*1:=by omega
     have b6:z < 1:=Int.lt_of_mul_lt_mul_left b5 (by omega)
     omega
    subst this;omega
  have hlt:-n < t:=by
   have:=Int.emod_lt_of_pos (-x) (show 0 < n by omega);omega
  have hle:t≤0:=by
   have:=Int.emod_nonneg (-x) (show n≠0 by omega);omega
  clear a2
  have HR:=zN hr
  have ht':x.tmod n=t:=ht.symm
  clear hr ht
  by_cases hneg:t < 0
  ·go_enter Tryz.func19,Tryz.ntmps19
   go_wp2
   go_ret
   rw[HR.out,if_pos hneg]
   exact⟨rfl,rfl⟩
  ·go_enter Tryz.func19,Tryz.ntmps19
   go_wp2
   go_ret
   rw[HR.out,if_neg (by omega)]
   exact⟨rfl,rfl⟩
structure SrcAt (w:World) (g b n i:Nat):Prop where
 hp:∃ p cap o,w.cell? ⟨g,0,none⟩=some (.slice p n cap)∧(0 < n→p=some ⟨b,o,none⟩)∧∀ k,k < n→∃ x:Int,w.cell? ⟨b,o+k,none⟩=some (.int .i64 x)∧-9223372036854775808≤x∧x≤9223372036854775807
 hi:w.cell? ⟨g,1,none⟩=some (.int .i64 i)
 hf:w.frozen? ⟨g,1,none⟩=false
 hle:i≤n
 hlen:n≤2000
 hgb:g≠b
theorem SrcAt.kept {w w':World} {g b n i:Nat} (h:SrcAt w g b n i) (hg:w'.heap[g]?=w.heap[g]?) (hb:0 < n→w'.heap[b]?=w.heap[b]?):SrcAt w' g b n i where
 hp:=by
  obtain⟨p,cap,o,h1,h2,h3⟩:=h.hp
  exact⟨p,cap,o,(World.cell?_of_block hg).trans h1,h2,fun k hk=>by
   obtain⟨x,hx,h4⟩:=h3 k hk
   exact⟨x,(World.cell?_of_block (hb (by omega))).trans hx,h4⟩⟩
 hi:=(World.cell?_of_block hg).trans h.hi
 hf:=(zFb hg).trans h.hf
 hle:=h.hle
 hlen:=h.hlen
 hgb:=h.hgb
theorem SrcAt.lt {w:World} {g b n i:Nat} (h:SrcAt w g b n i):g < w.heap.size:=zM w _ h.hi
theorem SrcAt.ltb {w:World} {g b n i:Nat} (h:SrcAt w g b n i) (h0:0 < n):b < w.heap.size:=by
 obtain⟨p,cap,o,_,_,h3⟩:=h.hp
 obtain⟨x,hx,_⟩:=h3 0 h0
 exact zM w _ hx
theorem SrcAt.below {w w':World} {g b n i:Nat} (h:SrcAt w g b n i) (hb:Below w.heap.size w w'):SrcAt w' g b n i:=
 h.kept (hb.block _ h.lt) (fun h0=>hb.block _ (h.ltb h0))
theorem SrcAt.set {w:World} {g b n i:Nat} (h:SrcAt w g b n i) (j:Nat) (hj:j≤n):SrcAt (w.setCell ⟨g,1,none⟩ (.int .i64 j)) g b n j where
 hp:=by
  obtain⟨p,cap,o,h1,h2,h3⟩:=h.hp
  exact⟨p,cap,o,(zK _ _ _ _ (by simp)).trans h1,h2,fun k hk=>by
   obtain⟨x,hx,h4⟩:=h3 k hk
   exact⟨x,(zK _ _ _ _ (by have:=h.hgb;simp[Ne.symm this])).trans hx,h4⟩⟩
 hi:=zL _ _ _ (by rw[h.hi];rfl)
 hf:=by rw[World.frozen?_setCell];exact h.hf
 hle:=hj
 hlen:=h.hlen
 hgb:=h.hgb
theorem src_setCell (w:World) (g k:Nat) (v:Value):w.grownBy (w.setCell ⟨g,k,none⟩ v) (some g):=
 ⟨by simp[World.setCell],by simp[World.setCell],by simp[World.setCell],by simp[World.setCell],fun j _ hj=>Below.heap_setCell _ _ _ j (fun e=>hj (by rw[e]))⟩
theorem raw_any (w:World) (g b n i:Nat) (h:SrcAt w g b n i) :
  Calls Tryz.prog 50 #[.pointer (some ⟨g,0,none⟩)] w fun e w'=>∃ x:Int,e=.returned (.int .i64 x)∧-9223372036854775808≤x∧x≤9223372036854775807∧w.grownBy w' (some g)∧∃ j,SrcAt w' g b n j:=by
 obtain⟨p,cap,o,hp,hpp,hcc⟩:=h.hp
 have hi:=h.hi
 have hf:=h.hf
 have hle:=h.hle
 have hlen:=h.hlen
 have hgb:=h.hgb
 by_cases hl:i < n
 ·obtain rfl:=hpp (by omega)
  obtain⟨x,hc,hx1,hx2⟩:=hcc i hl
  clear hcc
  go_enter Tryz.func50,Tryz.ntmps50
  go_wp2
  refine RX.region RX.fN (fun w'=>w'=_) (by kernel_rfl) (by kernel_rfl) rfl (fun OPS HO QR hQR=>?_)
  repeat (refine zeX (fun R hR=>?_);(first|refine zaX (by first|rfl|(rw[HO.out];rfl)) (by simp only[zA,zB,zC,zD];rfl) ?_|refine zbX (by first|rfl|(rw[HO.out];rfl)) rfl (by first|exact .inl rfl|exact .inr rfl) (by simp only[zE,zF,zG,zH];rfl) (by simp only[zA,zB,zC,zD];rfl) ?_|refine zcX (by first|rfl|(rw[HO.out];rfl)) rfl rfl (by simp only[zE,zF,zG,zH];rfl) (by simp only[zA,zB,zC,zD];rfl) ?_|(refine zdX (by first|rfl|(rw[HO.out];rfl)) rfl rfl rfl ?_;apply zEx;apply zEx;refine⟨fun w' hS K hK=>?_,?_,?_⟩;(focus (subst hS;go_wp2;exact hK _ _ (by simp only[zl,zG,zH];first|exact zf (by omega)|exact zg (by omega)|exact zh (by omega)|exact zi (by omega)|exact zj (by omega)|exact zk (by omega)|exact RX.bneB _|rfl) rfl));(focus (simp only[zA,zB,zC,zD];rfl))));refine hR _ _ ?_;clear hR R)
  refine RX.wpL_nil (hQR _ _ rfl ?_);clear hQR QR HO OPS
  have hp':w.drew.cell? ⟨g,0,none⟩=_:=hp
  have hi':w.drew.cell? ⟨g,1,none⟩=_:=hi
  have hc':w.drew.cell? ⟨b,o+i,none⟩=_:=hc
  have hf':w.drew.frozen? ⟨g,1,none⟩=_:=hf
  go_wp2
  refine RX.region RX.fN (fun w'=>w'=_) (by kernel_rfl) (by kernel_rfl) rfl (fun OPS HO QR hQR=>?_)
  repeat (refine zeX (fun R hR=>?_);(first|refine zaX (by first|rfl|(rw[HO.out];rfl)) (by simp only[zA,zB,zC,zD];rfl) ?_|refine zbX (by first|rfl|(rw[HO.out];rfl)) rfl (by first|exact .inl rfl|exact .inr rfl) (by simp only[zE,zF,zG,zH];rfl) (by simp only[zA,zB,zC,zD];rfl) ?_|refine zcX (by first|rfl|(rw[HO.out];rfl)) rfl rfl (by simp only[zE,zF,zG,zH];rfl) (by simp only[zA,zB,zC,zD];rfl) ?_|(refine zdX (by first|rfl|(rw[HO.out];rfl)) rfl rfl rfl ?_;apply zEx;apply zEx;refine⟨fun w' hS K hK=>?_,?_,?_⟩;(focus (subst hS;go_wp2;exact hK _ _ (by simp only[zl,zG,zH];first|exact zf (by omega)|exact zg (by omega)|exact zh (by omega)|exact zi (by omega)|exact zj (by omega)|exact zk (by omega)|exact RX.bneB _|rfl) rfl));(focus (simp only[zA,zB,zC,zD];rfl))));refine hR _ _ ?_;clear hR R)
  refine RX.wpL_nil (hQR _ _ rfl ?_);clear hQR QR HO OPS
  go_wp2
  go_ret
  have h1:=src_setCell w.drew g 1 (.int .i64 ((i:Int)+1))
  have h2:SrcAt w.drew g b n i:=h.kept rfl (fun _=>rfl)
  exact⟨x,rfl,hx1,hx2,⟨h1.os,h1.tape,h1.output,h1.size,h1.block⟩,i+1,SrcAt.kept (w:=w.drew.setCell ⟨g,1,none⟩ (.int .i64 ((i+1:Nat):Int))) (h2.set (i+1) hl) rfl (fun _=>rfl)⟩
 ·clear hcc hpp
  go_enter Tryz.func50,Tryz.ntmps50
  go_wp2
  refine RX.region RX.fN (fun w'=>w'=_) (by kernel_rfl) (by kernel_rfl) rfl (fun OPS HO QR hQR=>?_)
  repeat (refine zeX (fun R hR=>?_);(first|refine zaX (by first|rfl|(rw[HO.out];rfl)) (by simp only[zA,zB,zC,zD];rfl) ?_|refine zbX (by first|rfl|(rw[HO.out];rfl)) rfl (by first|exact .inl rfl|exact .inr rfl) (by simp only[zE,zF,zG,zH];rfl) (by simp only[zA,zB,zC,zD];rfl) ?_|refine zcX (by first|rfl|(rw[HO.out];rfl)) rfl rfl (by simp only[zE,zF,zG,zH];rfl) (by simp only[zA,zB,zC,zD];rfl) ?_|(refine zdX (by first|rfl|(rw[HO.out];rfl)) rfl rfl rfl ?_;apply zEx;apply zEx;refine⟨fun w' hS K hK=>?_,?_,?_⟩;(focus (subst hS;go_wp2;exact hK _ _ (by simp only[zl,zG,zH];first|exact zf (by omega)|exact zg (by omega)|exact zh (by omega)|exact zi (by omega)|exact zj (by omega)|exact zk (by omega)|exact RX.bneB _|rfl) rfl));(focus (simp only[zA,zB,zC,zD];rfl))));refine hR _ _ ?_;clear hR R)
  refine RX.wpL_nil (hQR _ _ rfl ?_);clear hQR QR HO OPS
  go_wp2
  go_ret
  exact⟨0,rfl,by omega,by omega,⟨rfl,rfl,rfl,Nat.le_refl _,fun _ _ _=>rfl⟩,i,h.kept rfl (fun _=>rfl)⟩
theorem srcN_any (w:World) (g b n i:Nat) (m:Int) (h:SrcAt w g b n i) (hm:1≤m) (hm':m≤4611686018427387904) :
  Calls Tryz.prog 16 #[.pointer (some ⟨g,0,none⟩),.int .i64 m] w fun e w'=>∃ x:Int,e=.returned (.int .i64 x)∧0≤x∧x < m∧w.grownBy w' (some g)∧∃ j,SrcAt w' g b n j:=by
 go_enter Tryz.func16,Tryz.ntmps16
 go_wp2_with fail
 refine (raw_any w g b n i h).mono ?_
 rintro e w1 ⟨x,rfl,hx1,hx2,hg,hS⟩
 go_wp2_with fail
 refine (kmod_any x m w1 hx1 hx2 hm hm').mono ?_
 rintro e w2 ⟨rfl,rfl⟩
 have h1:=Int.emod_nonneg x (show m≠0 by omega)
 have h2:=Int.emod_lt_of_pos x (show 0 < m by omega)
 go_wp2
 go_ret
 exact⟨_,rfl,h1,h2,hg,hS⟩
theorem srcRange_any (w:World) (g b n i:Nat) (lo hi:Int) (h:SrcAt w g b n i) (h1:-1000000≤lo) (h2:lo≤hi) (h3:hi≤1000000) :
  Calls Tryz.prog 25 #[.pointer (some ⟨g,0,none⟩),.int .i64 lo,.int .i64 hi] w fun e w'=>∃ x:Int,e=.returned (.int .i64 x)∧lo≤x∧x≤hi∧w.grownBy w' (some g)∧∃ j,SrcAt w' g b n j:=by
 go_enter Tryz.func25,Tryz.ntmps25
 go_wp2_with fail
 refine (srcN_any w g b n i (hi-lo+1) h (by omega) (by omega)).mono ?_
 rintro e w1 ⟨x,rfl,hx1,hx2,hg,hS⟩
 go_wp2
 go_ret
 exact⟨_,rfl,by omega,by omega,hg,hS⟩
open Go.RowKit Go.Grid
theorem knew_any (p:Option Addr) (cap:Nat) (L:List Int) (w:World) (hV:VecAt w p L) (hI:I64L L) (hl:L.length≤cap) (hc:cap≤9223372036854775807) :
  Calls Tryz.prog 9 #[.slice p L.length cap] w fun e w'=>e=.returned (.pointer (some ⟨w.heap.size,0,none⟩))∧Below w.heap.size w w'∧∃ b,(0 < min L.length 2000→b < w.heap.size)∧SrcAt w' w.heap.size b (min L.length 2000) 0:=by
 obtain⟨b,o,hp,hcell⟩:=hV
 have key:∀ (m:Nat) (cap':Nat),m=min L.length 2000→∃ b,(0 < min L.length 2000→b < w.heap.size)∧SrcAt (w.alloc (.cells #[.slice p m cap',.int .i64 0] 69)) w.heap.size b (min L.length 2000) 0:=by
  intro m cap' hm
  by_cases h0:0 < min L.length 2000
  ·have hbl:b < w.heap.size:=zM _ _ (hcell 0 (by omega))
   refine⟨b,fun _=>hbl,⟨⟨p,cap',o,(by rw[hm];simp[zJ]),fun _=>hp (by omega),fun k hk=>?_⟩,(by simp[zO,zJ,zQ]),by simp[RX.frozen_alloc],by omega,by omega,by omega⟩⟩
   have hk':k < L.length:=by omega
   have hx:=hI L[k] (List.getElem_mem _)
   refine⟨L[k],?_,hx.1,hx.2⟩
   rw[zJ,if_neg (by omega)];exact hcell k hk'
  ·exact⟨w.heap.size+1,fun h=>absurd h h0,⟨⟨p,cap',0,(by rw[hm];simp[zJ]),fun h=>absurd h h0,fun k hk=>absurd hk (by omega)⟩,(by simp[zO,zJ,zQ]),by simp[RX.frozen_alloc],by omega,by omega,by omega⟩⟩
 have HK:=zN key
 clear key hcell hI hp
 by_cases h2:L.length≤2000
 ·have hmin:min (L.length:Int) 2000=L.length:=by omega
  go_enter Tryz.func9,Tryz.ntmps9
  go_wp2
  go_ret
  exact⟨rfl,(zBr _ _).alloc (Nat.le_refl _) _,HK.out _ _ (by omega)⟩
 ·have hmin:min (L.length:Int) 2000=2000:=by omega
  go_enter Tryz.func9,Tryz.ntmps9
  go_wp2
  go_ret
  exact⟨rfl,(zBr _ _).alloc (Nat.le_refl _) _,HK.out _ _ (by omega)⟩
structure PlAt (w:World) (g:Nat) (f a b c:Int):Prop where
 c0:w.cell? ⟨g,0,none⟩=some (.int .i64 f)
 c1:w.cell? ⟨g,1,none⟩=some (.int .i64 a)
 c2:w.cell? ⟨g,2,none⟩=some (.int .i64 b)
 c3:w.cell? ⟨g,3,none⟩=some (.int .i64 c)
 z0:w.frozen? ⟨g,0,none⟩=false
 z1:w.frozen? ⟨g,1,none⟩=false
 z2:w.frozen? ⟨g,2,none⟩=false
 z3:w.frozen? ⟨g,3,none⟩=false
theorem PlAt.block {w w':World} {g:Nat} {f a b c:Int} (h:PlAt w g f a b c) (hb:w'.heap[g]?=w.heap[g]?):PlAt w' g f a b c:=
 ⟨(World.cell?_of_block hb).trans h.c0,(World.cell?_of_block hb).trans h.c1,(World.cell?_of_block hb).trans h.c2,(World.cell?_of_block hb).trans h.c3,(zFb hb).trans h.z0,(zFb hb).trans h.z1,(zFb hb).trans h.z2,(zFb hb).trans h.z3⟩
theorem PlAt.lt {w:World} {g:Nat} {f a b c:Int} (h:PlAt w g f a b c):g < w.heap.size:=zM _ _ h.c0
theorem PlAt.below {w w':World} {g:Nat} {f a b c:Int} (h:PlAt w g f a b c) (hb:Below w.heap.size w w'):PlAt w' g f a b c:=h.block (hb.block _ h.lt)
theorem PlAt.grown {w w':World} {g k:Nat} {f a b c:Int} (h:PlAt w g f a b c) (hb:w.grownBy w' (some k)) (hne:g≠k):PlAt w' g f a b c:=h.block (hb.block _ h.lt (by simpa using hne))
theorem PlAt.set {w:World} {g k i:Nat} {v:Value} {f a b c:Int} (h:PlAt w g f a b c) (hne:g≠k):PlAt (w.setCell ⟨k,i,none⟩ v) g f a b c:=h.block (Below.heap_setCell _ _ _ g hne)
theorem PlAt.new (w:World) (f a b c:Int):PlAt (w.alloc (.cells #[.int .i64 f,.int .i64 a,.int .i64 b,.int .i64 c] 41)) w.heap.size f a b c:=
 ⟨(by simp[zO,zJ,zQ]),(by simp[zO,zJ,zQ]),(by simp[zO,zJ,zQ]),(by simp[zO,zJ,zQ]),by simp[RX.frozen_alloc],by simp[RX.frozen_alloc],by simp[RX.frozen_alloc],by simp[RX.frozen_alloc]⟩
theorem PlAt.set1 {w:World} {g:Nat} {f a b c:Int} (h:PlAt w g f a b c) (x:Int):PlAt (w.setCell ⟨g,1,none⟩ (.int .i64 x)) g f x b c:=
 ⟨(zK _ _ _ _ (by simp)).trans h.c0,zL _ _ _ (by rw[h.c1];rfl),(zK _ _ _ _ (by simp)).trans h.c2,(zK _ _ _ _ (by simp)).trans h.c3,
  by rw[World.frozen?_setCell];exact h.z0,by rw[World.frozen?_setCell];exact h.z1,by rw[World.frozen?_setCell];exact h.z2,by rw[World.frozen?_setCell];exact h.z3⟩
theorem PlAt.set2 {w:World} {g:Nat} {f a b c:Int} (h:PlAt w g f a b c) (x:Int):PlAt (w.setCell ⟨g,2,none⟩ (.int .i64 x)) g f a x c:=
 ⟨(zK _ _ _ _ (by simp)).trans h.c0,(zK _ _ _ _ (by simp)).trans h.c1,zL _ _ _ (by rw[h.c2];rfl),(zK _ _ _ _ (by simp)).trans h.c3,
  by rw[World.frozen?_setCell];exact h.z0,by rw[World.frozen?_setCell];exact h.z1,by rw[World.frozen?_setCell];exact h.z2,by rw[World.frozen?_setCell];exact h.z3⟩
theorem PlAt.set0 {w:World} {g:Nat} {f a b c:Int} (h:PlAt w g f a b c) (x:Int):PlAt (w.setCell ⟨g,0,none⟩ (.int .i64 x)) g x a b c:=
 ⟨zL _ _ _ (by rw[h.c0];rfl),(zK _ _ _ _ (by simp)).trans h.c1,(zK _ _ _ _ (by simp)).trans h.c2,(zK _ _ _ _ (by simp)).trans h.c3,
  by rw[World.frozen?_setCell];exact h.z0,by rw[World.frozen?_setCell];exact h.z1,by rw[World.frozen?_setCell];exact h.z2,by rw[World.frozen?_setCell];exact h.z3⟩
theorem PlAt.set3 {w:World} {g:Nat} {f a b c:Int} (h:PlAt w g f a b c) (x:Int):PlAt (w.setCell ⟨g,3,none⟩ (.int .i64 x)) g f a b x:=
 ⟨(zK _ _ _ _ (by simp)).trans h.c0,(zK _ _ _ _ (by simp)).trans h.c1,(zK _ _ _ _ (by simp)).trans h.c2,zL _ _ _ (by rw[h.c3];rfl),
  by rw[World.frozen?_setCell];exact h.z0,by rw[World.frozen?_setCell];exact h.z1,by rw[World.frozen?_setCell];exact h.z2,by rw[World.frozen?_setCell];exact h.z3⟩
theorem SrcAt.other {w:World} {g b n i k j:Nat} {v:Value} (h:SrcAt w g b n i) (h1:g≠k) (h2:0 < n→b≠k):SrcAt (w.setCell ⟨k,j,none⟩ v) g b n i:=
 h.kept (Below.heap_setCell _ _ _ g h1) (fun h0=>Below.heap_setCell _ _ _ b (h2 h0))
end Go.Proofs.YtednaajanciabaaGreatDoor
