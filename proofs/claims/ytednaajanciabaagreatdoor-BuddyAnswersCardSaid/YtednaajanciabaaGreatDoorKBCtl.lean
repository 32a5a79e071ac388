import Derived.Test.YtednaajanciabaaGreatDoorKBFl
import Derived.Handy
import Derived.Laws.ResultCell
import Derived.Deep.MidRow
set_option maxRecDepth 100000
set_option maxHeartbeats 8000000
set_option linter.unusedSimpArgs false
set_option linter.unusedVariables false
namespace Go.Proofs.YtednaajanciabaaGreatDoor
open Go.RowKit Go.Grid Go.Buddy
theorem text_any (w:World) (g b n i N:Nat) (zs:List ByteArray) (m cap:Nat) (hm:zs.length=m) (h0:0 < m) (h1:m≤1000) (h:SrcAt w g b n i) (hz:∀ j (h:j < zs.length),w.cell? ⟨N,j,none⟩=some (.string zs[j])) (hN:N≠g) :
  Calls Tryz.prog 32 #[.pointer (some ⟨g,0,none⟩),.slice (some ⟨N,0,none⟩) m cap] w fun e w'=>∃ x:ByteArray,e=.returned (.string x)∧x∈zs∧w.grownBy w' (some g)∧∃ j,SrcAt w' g b n j:=by
 go_enter Tryz.func32,Tryz.ntmps32
 go_wp2_with fail
 refine (srcN_any w g b n i m h (by omega) (by omega)).mono ?_
 rintro e w1 ⟨x,rfl,hx0,hx1,hg1,hS⟩
 obtain⟨k,rfl⟩:∃ k:Nat,x=(k:Int):=⟨x.toNat,by omega⟩
 have hk:k < zs.length:=by omega
 have kc:=hg1.cell (hz k hk) (by simpa using hN)
 have HM:Hid (zs[k]∈zs):=zN (List.getElem_mem hk)
 obtain⟨z,hzz⟩:∃ z,z=zs[k]:=⟨_,rfl⟩
 rw[←hzz] at kc HM
 have HG:=zN hg1
 have HS:=zN hS
 clear hz hg1 hS h hzz hk hm
 go_wp2
 go_ret
 exact⟨z,rfl,HM.out,HG.out,HS.out⟩
theorem clamp1 (c:Nat) (hc:c=1∨c=2∨c=3∨c=4∨c=5∨c=6∨c=7∨c=8∨c=9∨c=10∨c=11) (v:Int) (w:World) :
  Calls Tryz.prog 35 #[.int .i64 (c:Int),.int .i64 v] w fun e w'=>∃ x:Int,e=.returned (.int .i64 x)∧(bnd (c:Int)).1≤x∧x≤(bnd (c:Int)).2∧Below w.heap.size w w':=by
 rcases hc with rfl|rfl|rfl|rfl|rfl|rfl|rfl|rfl|rfl|rfl|rfl
 all_goals
  go_enter Tryz.func35,Tryz.ntmps35
  go_wp2
  all_goals go_ret
  all_goals exact⟨_,rfl,by (simp[bnd];omega),by (simp[bnd];omega),(by repeat (first|(with_reducible first|assumption|exact zBr _ _|refine zBs ?_ (by first|omega|(simp<;>omega)) _|refine zBa ?_ (by first|omega|(simp<;>omega)) _|apply zBd)|assumption))⟩
structure CtlAt (w:World) (g:Nat) (k:Ctl):Prop where
 c0:w.cell? ⟨g,0,none⟩=some (.int .i64 k.hops)
 st:∀ j,j < 12→w.cell? ⟨g,1+j,none⟩=some (.int .i64 (k.st j))
 sp:∀ j,j < 12→w.cell? ⟨g,13+j,none⟩=some (.int .i64 (k.sp j))
 c25:w.cell? ⟨g,25,none⟩=some (.int .i64 k.th)
 bd:∀ j,j < 12→w.cell? ⟨g,26+j,none⟩=some (.int .i64 (k.bd j))
 c38:w.cell? ⟨g,38,none⟩=some (.int .i64 k.fr)
 c39:w.cell? ⟨g,39,none⟩=some (.int .i64 k.en)
 c40:w.cell? ⟨g,40,none⟩=some (.int .i64 k.lv)
 fz:∀ j,w.frozen? ⟨g,j,none⟩=false
def up (f:Nat→Int) (c:Nat) (x:Int):Nat→Int:=fun j=>if j=c then x else f j
theorem CtlAt.block {w w':World} {g:Nat} {k:Ctl} (h:CtlAt w g k) (hb:w'.heap[g]?=w.heap[g]?):CtlAt w' g k:=
 ⟨(World.cell?_of_block hb).trans h.c0,fun j hj=>(World.cell?_of_block hb).trans (h.st j hj),fun j hj=>(World.cell?_of_block hb).trans (h.sp j hj),(World.cell?_of_block hb).trans h.c25,fun j hj=>(World.cell?_of_block hb).trans (h.bd j hj),(World.cell?_of_block hb).trans h.c38,(World.cell?_of_block hb).trans h.c39,(World.cell?_of_block hb).trans h.c40,fun j=>(zFb hb).trans (h.fz j)⟩
theorem CtlAt.lt {w:World} {g:Nat} {k:Ctl} (h:CtlAt w g k):g < w.heap.size:=zM _ _ h.c0
theorem CtlAt.below {w w':World} {g:Nat} {k:Ctl} (h:CtlAt w g k) (hb:Below w.heap.size w w'):CtlAt w' g k:=h.block (hb.block _ h.lt)
theorem CtlAt.grown {w w':World} {g r:Nat} {k:Ctl} (h:CtlAt w g k) (hb:w.grownBy w' (some r)) (hne:g≠r):CtlAt w' g k:=h.block (hb.block _ h.lt (by simpa using hne))
theorem cell_set {w:World} {g i j:Nat} {v u:Value} (h:w.cell? ⟨g,j,none⟩=some u) (hne:i≠j):(w.setCell ⟨g,i,none⟩ v).cell? ⟨g,j,none⟩=some u:=
 (zK _ _ _ _ (by intro e;injection e;omega)).trans h
theorem cell_up {w:World} {g b c j:Nat} {f:Nat→Int} {x:Int} (h:∀ j,j < 12→w.cell? ⟨g,b+j,none⟩=some (.int .i64 (f j))) (hc:c < 12) (hj:j < 12):(w.setCell ⟨g,b+c,none⟩ (.int .i64 x)).cell? ⟨g,b+j,none⟩=some (.int .i64 (up f c x j)):=by
 unfold up
 by_cases e:j=c
 ·subst e
  rw[if_pos rfl]
  exact zL _ _ _ (by rw[h j hj];rfl)
 ·rw[if_neg e]
  exact cell_set (h j hj) (by omega)
theorem CtlAt.set_st {w:World} {g c:Nat} {k:Ctl} (h:CtlAt w g k) (hc:c < 12) (x:Int):CtlAt (w.setCell ⟨g,1+c,none⟩ (.int .i64 x)) g { k with st:=up k.st c x }:=
 ⟨cell_set h.c0 (by omega),fun j hj=>cell_up h.st hc hj,fun j hj=>cell_set (h.sp j hj) (by omega),cell_set h.c25 (by omega),fun j hj=>cell_set (h.bd j hj) (by omega),cell_set h.c38 (by omega),cell_set h.c39 (by omega),cell_set h.c40 (by omega),fun j=>by rw[World.frozen?_setCell];exact h.fz j⟩
theorem CtlAt.set_sp {w:World} {g c:Nat} {k:Ctl} (h:CtlAt w g k) (hc:c < 12) (x:Int):CtlAt (w.setCell ⟨g,13+c,none⟩ (.int .i64 x)) g { k with sp:=up k.sp c x }:=
 ⟨cell_set h.c0 (by omega),fun j hj=>cell_set (h.st j hj) (by omega),fun j hj=>cell_up h.sp hc hj,cell_set h.c25 (by omega),fun j hj=>cell_set (h.bd j hj) (by omega),cell_set h.c38 (by omega),cell_set h.c39 (by omega),cell_set h.c40 (by omega),fun j=>by rw[World.frozen?_setCell];exact h.fz j⟩
theorem CtlAt.set_bd {w:World} {g c:Nat} {k:Ctl} (h:CtlAt w g k) (hc:c < 12) (x:Int):CtlAt (w.setCell ⟨g,26+c,none⟩ (.int .i64 x)) g { k with bd:=up k.bd c x }:=
 ⟨cell_set h.c0 (by omega),fun j hj=>cell_set (h.st j hj) (by omega),fun j hj=>cell_set (h.sp j hj) (by omega),cell_set h.c25 (by omega),fun j hj=>cell_up h.bd hc hj,cell_set h.c38 (by omega),cell_set h.c39 (by omega),cell_set h.c40 (by omega),fun j=>by rw[World.frozen?_setCell];exact h.fz j⟩
theorem CtlAt.all {w:World} {g:Nat} {k:Ctl} (h:CtlAt w g k):w.cell? ⟨g,0,none⟩=some (.int .i64 k.hops)∧w.cell? ⟨g,1,none⟩=some (.int .i64 (k.st 0))∧w.cell? ⟨g,2,none⟩=some (.int .i64 (k.st 1))∧w.cell? ⟨g,3,none⟩=some (.int .i64 (k.st 2))∧w.cell? ⟨g,4,none⟩=some (.int .i64 (k.st 3))∧w.cell? ⟨g,5,none⟩=some (.int .i64 (k.st 4))∧w.cell? ⟨g,6,none⟩=some (.int .i64 (k.st 5))∧w.cell? ⟨g,7,none⟩=some (.int .i64 (k.st 6))∧w.cell? ⟨g,8,none⟩=some (.int .i64 (k.st 7))∧w.cell? ⟨g,9,none⟩=some (.int .i64 (k.st 8))∧w.cell? ⟨g,10,none⟩=some (.int .i64 (k.st 9))∧w.cell? ⟨g,11,none⟩=some (.int .i64 (k.st 10))∧w.cell? ⟨g,12,none⟩=some (.int .i64 (k.st 11))∧w.cell? ⟨g,13,none⟩=some (.int .i64 (k.sp 0))∧w.cell? ⟨g,14,none⟩=some (.int .i64 (k.sp 1))∧w.cell? ⟨g,15,none⟩=some (.int .i64 (k.sp 2))∧w.cell? ⟨g,16,none⟩=some (.int .i64 (k.sp 3))∧w.cell? ⟨g,17,none⟩=some (.int .i64 (k.sp 4))∧w.cell? ⟨g,18,none⟩=some (.int .i64 (k.sp 5))∧w.cell? ⟨g,19,none⟩=some (.int .i64 (k.sp 6))∧w.cell? ⟨g,20,none⟩=some (.int .i64 (k.sp 7))∧w.cell? ⟨g,21,none⟩=some (.int .i64 (k.sp 8))∧w.cell? ⟨g,22,none⟩=some (.int .i64 (k.sp 9))∧w.cell? ⟨g,23,none⟩=some (.int .i64 (k.sp 10))∧w.cell? ⟨g,24,none⟩=some (.int .i64 (k.sp 11))∧w.cell? ⟨g,25,none⟩=some (.int .i64 k.th)∧w.cell? ⟨g,26,none⟩=some (.int .i64 (k.bd 0))∧w.cell? ⟨g,27,none⟩=some (.int .i64 (k.bd 1))∧w.cell? ⟨g,28,none⟩=some (.int .i64 (k.bd 2))∧w.cell? ⟨g,29,none⟩=some (.int .i64 (k.bd 3))∧w.cell? ⟨g,30,none⟩=some (.int .i64 (k.bd 4))∧w.cell? ⟨g,31,none⟩=some (.int .i64 (k.bd 5))∧w.cell? ⟨g,32,none⟩=some (.int .i64 (k.bd 6))∧w.cell? ⟨g,33,none⟩=some (.int .i64 (k.bd 7))∧w.cell? ⟨g,34,none⟩=some (.int .i64 (k.bd 8))∧w.cell? ⟨g,35,none⟩=some (.int .i64 (k.bd 9))∧w.cell? ⟨g,36,none⟩=some (.int .i64 (k.bd 10))∧w.cell? ⟨g,37,none⟩=some (.int .i64 (k.bd 11))∧w.cell? ⟨g,38,none⟩=some (.int .i64 k.fr)∧w.cell? ⟨g,39,none⟩=some (.int .i64 k.en)∧w.cell? ⟨g,40,none⟩=some (.int .i64 k.lv):=
 ⟨h.c0,h.st 0 (by decide),h.st 1 (by decide),h.st 2 (by decide),h.st 3 (by decide),h.st 4 (by decide),h.st 5 (by decide),h.st 6 (by decide),h.st 7 (by decide),h.st 8 (by decide),h.st 9 (by decide),h.st 10 (by decide),h.st 11 (by decide),h.sp 0 (by decide),h.sp 1 (by decide),h.sp 2 (by decide),h.sp 3 (by decide),h.sp 4 (by decide),h.sp 5 (by decide),h.sp 6 (by decide),h.sp 7 (by decide),h.sp 8 (by decide),h.sp 9 (by decide),h.sp 10 (by decide),h.sp 11 (by decide),h.c25,h.bd 0 (by decide),h.bd 1 (by decide),h.bd 2 (by decide),h.bd 3 (by decide),h.bd 4 (by decide),h.bd 5 (by decide),h.bd 6 (by decide),h.bd 7 (by decide),h.bd 8 (by decide),h.bd 9 (by decide),h.bd 10 (by decide),h.bd 11 (by decide),h.c38,h.c39,h.c40⟩
theorem CtlAt.new (w:World) (k:Ctl):CtlAt (w.alloc (.cells #[.int .i64 k.hops,.int .i64 (k.st 0),.int .i64 (k.st 1),.int .i64 (k.st 2),.int .i64 (k.st 3),.int .i64 (k.st 4),.int .i64 (k.st 5),.int .i64 (k.st 6),.int .i64 (k.st 7),.int .i64 (k.st 8),.int .i64 (k.st 9),.int .i64 (k.st 10),.int .i64 (k.st 11),.int .i64 (k.sp 0),.int .i64 (k.sp 1),.int .i64 (k.sp 2),.int .i64 (k.sp 3),.int .i64 (k.sp 4),.int .i64 (k.sp 5),.int .i64 (k.sp 6),.int .i64 (k.sp 7),.int .i64 (k.sp 8),.int .i64 (k.sp 9),.int .i64 (k.sp 10),.int .i64 (k.sp 11),.int .i64 k.th,.int .i64 (k.bd 0),.int .i64 (k.bd 1),.int .i64 (k.bd 2),.int .i64 (k.bd 3),.int .i64 (k.bd 4),.int .i64 (k.bd 5),.int .i64 (k.bd 6),.int .i64 (k.bd 7),.int .i64 (k.bd 8),.int .i64 (k.bd 9),.int .i64 (k.bd 10),.int .i64 (k.bd 11),.int .i64 k.fr,.int .i64 k.en,.int .i64 k.lv] 29)) w.heap.size k:=by
 refine⟨(by simp[zO,zJ,zQ]),fun j hj=>?_,fun j hj=>?_,(by simp[zO,zJ,zQ]),fun j hj=>?_,(by simp[zO,zJ,zQ]),(by simp[zO,zJ,zQ]),(by simp[zO,zJ,zQ]),fun j=>by simp[RX.frozen_alloc]⟩
 all_goals
  have hc:j=0∨j=1∨j=2∨j=3∨j=4∨j=5∨j=6∨j=7∨j=8∨j=9∨j=10∨j=11:=by omega
  rcases hc with rfl|rfl|rfl|rfl|rfl|rfl|rfl|rfl|rfl|rfl|rfl|rfl<;>exact (by simp[zO,zJ,zQ])
structure CtlOk (k:Ctl):Prop where
 fr:1≤k.fr∧k.fr≤4
 b0:k.bd 0=0
 bd:∀ j,j < 12→k.bd j=0∨k.bd j=5∨k.bd j=30∨k.bd j=200
structure CtlS (w wr:World) (g b n R:Nat) (k:Ctl):Prop where
 at_:CtlAt wr R k
 ok:CtlOk k
 gr:w.grownBy wr (some g)
 s:∃ j,SrcAt wr g b n j
 ge:w.heap.size≤R
 ne:g≠R
 nb:0 < n→b≠R
theorem CtlS.grown {w wr w':World} {g b n R:Nat} {k:Ctl} (h:CtlS w wr g b n R k) (hg:wr.grownBy w' (some g)) (hs:∃ j,SrcAt w' g b n j):CtlS w w' g b n R k:=
 ⟨h.at_.grown hg (Ne.symm h.ne),h.ok,h.gr.trans hg,hs,h.ge,h.ne,h.nb⟩
theorem CtlS.below {w wr w':World} {g b n R:Nat} {k:Ctl} (h:CtlS w wr g b n R k) (hb:Below wr.heap.size wr w'):CtlS w w' g b n R k:=by
 obtain⟨j,hj⟩:=h.s
 exact⟨h.at_.below hb,h.ok,h.gr.trans (grw_below hb (some g)),⟨j,hj.below hb⟩,h.ge,h.ne,h.nb⟩
theorem CtlS.s_set {w wr:World} {g b n R:Nat} {k:Ctl} (h:CtlS w wr g b n R k) (i:Nat) (v:Value):∃ j,SrcAt (wr.setCell ⟨R,i,none⟩ v) g b n j:=by
 obtain⟨j,hj⟩:=h.s
 exact⟨j,hj.other h.ne h.nb⟩
theorem CtlS.st {w wr:World} {g b n R c:Nat} {k:Ctl} (h:CtlS w wr g b n R k) (hc:c < 12) (x:Int):CtlS w (wr.setCell ⟨R,1+c,none⟩ (.int .i64 x)) g b n R { k with st:=up k.st c x }:=
 ⟨h.at_.set_st hc x,⟨h.ok.fr,h.ok.b0,h.ok.bd⟩,grw_set h.gr (.inr h.ge),h.s_set _ _,h.ge,h.ne,h.nb⟩
theorem CtlS.sp {w wr:World} {g b n R c:Nat} {k:Ctl} (h:CtlS w wr g b n R k) (hc:c < 12) (x:Int):CtlS w (wr.setCell ⟨R,13+c,none⟩ (.int .i64 x)) g b n R { k with sp:=up k.sp c x }:=
 ⟨h.at_.set_sp hc x,⟨h.ok.fr,h.ok.b0,h.ok.bd⟩,grw_set h.gr (.inr h.ge),h.s_set _ _,h.ge,h.ne,h.nb⟩
theorem CtlS.bd {w wr:World} {g b n R c:Nat} {k:Ctl} (h:CtlS w wr g b n R k) (h1:1≤c) (hc:c < 12) (x:Int) (hx:x∈[(0:Int),5,30,200]):CtlS w (wr.setCell ⟨R,26+c,none⟩ (.int .i64 x)) g b n R { k with bd:=up k.bd c x }:=by
 refine⟨h.at_.set_bd hc x,⟨h.ok.fr,?_,fun j hj=>?_⟩,grw_set h.gr (.inr h.ge),h.s_set _ _,h.ge,h.ne,h.nb⟩
 ·show up k.bd c x 0=0
  unfold up
  rw[if_neg (by omega)];exact h.ok.b0
 ·have e:∀ y,y=up k.bd c x j→(y=0∨y=5∨y=30∨y=200):=fun y hy=>by
   unfold up at hy
   by_cases e:j=c
   ·rw[if_pos e] at hy;subst hy;simpa using hx
   ·rw[if_neg e] at hy;subst hy;exact h.ok.bd j hj
  exact e _ rfl
def ctlL (k:Ctl):List Value:=[.int .i64 k.hops,.int .i64 (k.st 0),.int .i64 (k.st 1),.int .i64 (k.st 2),.int .i64 (k.st 3),.int .i64 (k.st 4),.int .i64 (k.st 5),.int .i64 (k.st 6),.int .i64 (k.st 7),.int .i64 (k.st 8),.int .i64 (k.st 9),.int .i64 (k.st 10),.int .i64 (k.st 11),.int .i64 (k.sp 0),.int .i64 (k.sp 1),.int .i64 (k.sp 2),.int .i64 (k.sp 3),.int .i64 (k.sp 4),.int .i64 (k.sp 5),.int .i64 (k.sp 6),.int .i64 (k.sp 7),.int .i64 (k.sp 8),.int .i64 (k.sp 9),.int .i64 (k.sp 10),.int .i64 (k.sp 11),.int .i64 k.th,.int .i64 (k.bd 0),.int .i64 (k.bd 1),.int .i64 (k.bd 2),.int .i64 (k.bd 3),.int .i64 (k.bd 4),.int .i64 (k.bd 5),.int .i64 (k.bd 6),.int .i64 (k.bd 7),.int .i64 (k.bd 8),.int .i64 (k.bd 9),.int .i64 (k.bd 10),.int .i64 (k.bd 11),.int .i64 k.fr,.int .i64 k.en,.int .i64 k.lv]
theorem CtlAt.some_ {w:World} {g:Nat} {k:Ctl} (h:CtlAt w g k):∀ j,j < (ctlL k).length→(w.cell? ⟨g,0+j,none⟩).isSome=true:=by
 intro j hj
 have hj:j < 41:=hj
 rw[Nat.zero_add]
 have e:∀ b m,b≤m→w.cell? ⟨g,m,none⟩=w.cell? ⟨g,b+(m-b),none⟩:=fun b m h=>by rw[show b+(m-b)=m by omega]
 by_cases h0:j=0
 ·subst h0;rw[h.c0];rfl
 by_cases h1:j≤12
 ·rw[e 1 j (by omega),h.st (j-1) (by omega)];rfl
 by_cases h2:j≤24
 ·rw[e 13 j (by omega),h.sp (j-13) (by omega)];rfl
 by_cases h3:j=25
 ·subst h3;rw[h.c25];rfl
 by_cases h4:j≤37
 ·rw[e 26 j (by omega),h.bd (j-26) (by omega)];rfl
 by_cases h5:j=38
 ·subst h5;rw[h.c38];rfl
 by_cases h6:j=39
 ·subst h6;rw[h.c39];rfl
 have h7:j=40:=by omega
 subst h7;rw[h.c40];rfl
theorem ctlL_st (k:Ctl):∀ j,j < 12→(ctlL k)[1+j]?=some (.int .i64 (k.st j))∧(ctlL k)[13+j]?=some (.int .i64 (k.sp j))∧(ctlL k)[26+j]?=some (.int .i64 (k.bd j)):=by
 intro j hj
 have hc:j=0∨j=1∨j=2∨j=3∨j=4∨j=5∨j=6∨j=7∨j=8∨j=9∨j=10∨j=11:=by omega
 rcases hc with rfl|rfl|rfl|rfl|rfl|rfl|rfl|rfl|rfl|rfl|rfl|rfl<;>exact⟨rfl,rfl,rfl⟩
theorem CtlAt.store {w:World} {g:Nat} {k0:Ctl} (h:CtlAt w g k0) (k:Ctl):CtlAt (w.setCells g 0 (ctlL k)) g k:=by
 have key:∀ (j:Nat) (v:Value),(ctlL k)[j]?=some v→(w.setCells g 0 (ctlL k)).cell? ⟨g,j,none⟩=some v:=fun j v hv=>by
  obtain⟨hj,e⟩:=List.getElem?_eq_some_iff.1 hv
  have h1:=World.cell?_setCells_in g (ctlL k) 0 w (fun i hi=>h.some_ i hi) j hj
  rw[Nat.zero_add] at h1
  rw[h1,e]
 exact⟨key 0 _ rfl,fun j hj=>key _ _ (ctlL_st k j hj).1,fun j hj=>key _ _ (ctlL_st k j hj).2.1,key 25 _ rfl,fun j hj=>key _ _ (ctlL_st k j hj).2.2,key 38 _ rfl,key 39 _ rfl,key 40 _ rfl,fun j=>by rw[World.frozen?_setCells];exact h.fz j⟩
theorem CtlAt.range {w:World} {g:Nat} {k:Ctl} (h:CtlAt w g k):Go.World.rangeAt w g 0 (ctlL k):=fun j v hv=>by
 have hj:j < 41:=(List.getElem?_eq_some_iff.1 hv).1
 rw[Nat.zero_add]
 have e:∀ b m,b≤m→w.cell? ⟨g,m,none⟩=w.cell? ⟨g,b+(m-b),none⟩:=fun b m h=>by rw[show b+(m-b)=m by omega]
 have e2:∀ b m:Nat,b≤m→(ctlL k)[m]?=(ctlL k)[b+(m-b)]?:=fun b m h=>by rw[show b+(m-b)=m by omega]
 by_cases h0:j=0
 ·subst h0;rw[h.c0];exact hv
 by_cases h1:j≤12
 ·rw[e2 1 j (by omega),(ctlL_st k (j-1) (by omega)).1] at hv
  rw[e 1 j (by omega),h.st (j-1) (by omega)];exact hv
 by_cases h2:j≤24
 ·rw[e2 13 j (by omega),(ctlL_st k (j-13) (by omega)).2.1] at hv
  rw[e 13 j (by omega),h.sp (j-13) (by omega)];exact hv
 by_cases h3:j=25
 ·subst h3;rw[h.c25];exact hv
 by_cases h4:j≤37
 ·rw[e2 26 j (by omega),(ctlL_st k (j-26) (by omega)).2.2] at hv
  rw[e 26 j (by omega),h.bd (j-26) (by omega)];exact hv
 by_cases h5:j=38
 ·subst h5;rw[h.c38];exact hv
 by_cases h6:j=39
 ·subst h6;rw[h.c39];exact hv
 have h7:j=40:=by omega
 subst h7;rw[h.c40];exact hv
theorem CtlAt.there {w:World} {g:Nat} {k:Ctl} (h:CtlAt w g k):Go.World.there w g 0 (ctlL k).length:=fun j hj=>⟨h.some_ j hj,h.fz _⟩
theorem ctlL_one (k:Ctl):(ctlL k).toArray.all (·.oneCell')=true:=by
 simp[ctlL,Value.oneCell']
theorem wp_loadC {op:Oper} {a:Act} {w:World} {K:Act→World→Prop} {Q:Exit→Act→World→Prop} (x:Operand) (ho:op.op=.load 29 x) (g:Nat) (k:Ctl) (hx:a.eval x=.pointer (some ⟨g,0,none⟩)) (hc:CtlAt w g k)
  (h:K (a.put op.dst (ctv k)) w):op.wp Tryz.prog a w K Q:=
 Go.wp_load_mid 29 x ho g 0 hx (ctlL k) _ hc.range Tryz.underlying29 rfl (by kernel_rfl) h
theorem wpl_loadC {ops:Array Oper} {rest:List Oper} {op:Oper} {a:Act} {w:World} {Q:Exit→Act→World→Prop} (hgd:op.guard=none) (x:Operand) (ho:op.op=.load 29 x) (g:Nat) (k:Ctl) (hx:a.eval x=.pointer (some ⟨g,0,none⟩)) (hc:CtlAt w g k)
  (h:wpList Tryz.prog ops Q rest (a.put op.dst (ctv k)) w):wpList Tryz.prog ops Q (op :: rest) a w:=
 Go.wpList_load_mid hgd 29 x ho g 0 hx (ctlL k) _ hc.range Tryz.underlying29 rfl (by kernel_rfl) h
theorem wpl_storeC {ops:Array Oper} {rest:List Oper} {op:Oper} {a:Act} {w:World} {Q:Exit→Act→World→Prop} (hgd:op.guard=none) (x y:Operand) (ho:op.op=.store 29 x y) (g:Nat) (k0 k:Ctl) (hx:a.eval x=.pointer (some ⟨g,0,none⟩)) (hy:a.eval y=ctv k) (hc:CtlAt w g k0)
  (h:wpList Tryz.prog ops Q rest (a.put op.dst undef) (w.setCells g 0 (ctlL k))):wpList Tryz.prog ops Q (op :: rest) a w:=
 Go.wpList_store_mid hgd 29 x y ho g 0 (ctlL k).toArray hx hy (by have:=hc.there;simpa[ctlL] using this) (by kernel_rfl) (ctlL_one k) h
theorem below_setC {B g:Nat} {a w:World} (h:Below B a w) (hg:B≤g) (k:Ctl):Below B a (w.setCells g 0 (ctlL k)):=by
 have key:∀ (vs:List Value) (o:Nat) (w:World),Below B a w→Below B a (w.setCells g o vs):=fun vs=>by
  induction vs with
  |nil=>exact fun _ _ h=>h
  |cons v r ih=>exact fun o w h=>ih (o+1) _ (zBs h hg _)
 exact key _ _ _ h
theorem grw_setC {g r:Nat} {a w:World} (h:a.grownBy w (some r)) (hg:a.heap.size≤g) (k:Ctl):a.grownBy (w.setCells g 0 (ctlL k)) (some r):=by
 have key:∀ (vs:List Value) (o:Nat) (w:World),a.grownBy w (some r)→a.grownBy (w.setCells g o vs) (some r):=fun vs=>by
  induction vs with
  |nil=>exact fun _ _ h=>h
  |cons v r ih=>exact fun o w h=>ih (o+1) _ (grw_set h (.inr hg))
 exact key _ _ _ h
theorem blk_setC {g b:Nat} {w:World} (hg:b≠g) (k:Ctl):(w.setCells g 0 (ctlL k)).heap[b]?=w.heap[b]?:=by
 have key:∀ (vs:List Value) (o:Nat) (w:World),(w.setCells g o vs).heap[b]?=w.heap[b]?:=fun vs=>by
  induction vs with
  |nil=>exact fun _ _=>rfl
  |cons v r ih=>exact fun o w=>(ih (o+1) _).trans (Go.Deep.blk_setCell_other _ _ _ _ hg)
 exact key _ _ _
theorem control_any (w:World) (g b n i:Nat) (h:SrcAt w g b n i) :
  Calls Tryz.prog 11 #[.pointer (some ⟨g,0,none⟩)] w fun e w'=>∃ k:Ctl,e=.returned (ctv k)∧CtlOk k∧w.grownBy w' (some g)∧∃ j,SrcAt w' g b n j:=by
 have hg0:=h.lt
 have HLB:Hid (0 < n→b < w.heap.size):=zN (fun h0=>h.ltb h0)
 have H0:=zN h
 clear h
 go_enter Tryz.func11,Tryz.ntmps11
 go_upto_region 1 with fail
 refine absW (F:=fun W0=>Hid (SrcAt W0 g b n i)∧Hid (w.grownBy W0 (some g))∧Hid (CtlAt W0 w.heap.size ⟨0,fun _=>0,fun _=>0,0,fun _=>0,0,0,0⟩)) ⟨zN (H0.out.below ((zBr _ _).alloc (Nat.le_refl _) _)),zN (grw_alloc (grw_refl _ _) _),zN (CtlAt.new w ⟨0,fun _=>0,fun _=>0,0,fun _=>0,0,0,0⟩)⟩ ?_
 rintro W0 ⟨HS0,HG0,HQ0⟩
 have hsz0:w.heap.size < W0.heap.size:=HQ0.out.lt
 have hgl0:=HS0.out.lt
 obtain⟨Q,hQ⟩:∃ Q,Q=w.heap.size:=⟨_,rfl⟩
 rw[←hQ] at HQ0 hsz0 ⊢
 have hgq:g≠Q:=by omega
 have HQW:=zN hQ
 clear H0 hQ
 go_wp2_with fail
 refine (pick_any _ g b n i W0.heap.size [4,24,100] 3 3 rfl (by omega) (by omega) (HS0.out.below ((zBr _ _).alloc (Nat.le_refl _) _)) (fun j hj=>by
  match j,hj with
  |0,_=>exact (by simp[zO,zJ,zQ])
  |1,_=>exact (by simp[zO,zJ,zQ])
  |2,_=>exact (by simp[zO,zJ,zQ])
  |j+3,hj=>simp at hj<;>omega) (by omega)).mono ?_
 rintro e W1 ⟨x1,rfl,hx1,hg1,i1,hs1⟩
 have HG1:=zN ((grw_alloc HG0.out _).trans hg1)
 have HQ1:=zN ((HQ0.out.below ((zBr _ _).alloc (Nat.le_refl _) _)).grown hg1 (Ne.symm hgq))
 have HS1:=zN hs1
 have HX1:=zN hx1
 have hgl1:=hs1.lt
 clear hg1 hs1 hx1 HG0 HQ0 HS0 hgl0
 go_wp2_with fail
 refine (pick_any _ g b n i1 W1.heap.size [20,40,5] 3 3 rfl (by omega) (by omega) (HS1.out.below ((zBr _ _).alloc (Nat.le_refl _) _)) (fun j hj=>by
  match j,hj with
  |0,_=>exact (by simp[zO,zJ,zQ])
  |1,_=>exact (by simp[zO,zJ,zQ])
  |2,_=>exact (by simp[zO,zJ,zQ])
  |j+3,hj=>simp at hj<;>omega) (by omega)).mono ?_
 rintro e W2 ⟨x2,rfl,hx2,hg2,i2,hs2⟩
 have HG2:=zN ((grw_alloc HG1.out _).trans hg2)
 have HQ2:=zN ((HQ1.out.below ((zBr _ _).alloc (Nat.le_refl _) _)).grown hg2 (Ne.symm hgq))
 have HS2:=zN hs2
 have HX2:=zN hx2
 have hgl2:=hs2.lt
 clear hg2 hs2 hx2 HG1 HQ1 HS1 hgl1
 go_wp2_with fail
 refine (srcRange_any W2 g b n i2 1 4 HS2.out (by omega) (by omega) (by omega)).mono ?_
 rintro e W3 ⟨x3,rfl,hf0,hf1,hg3,i3,hs3⟩
 have HG3:=zN (HG2.out.trans hg3)
 have HQ3:=zN (HQ2.out.grown hg3 (Ne.symm hgq))
 have HS3:=zN hs3
 have hgl3:=hs3.lt
 clear hg3 hs3 HG2 HQ2 HS2 hgl2
 go_wp2_with fail
 refine (pick_any _ g b n i3 W3.heap.size [50,80] 2 2 rfl (by omega) (by omega) (HS3.out.below ((zBr _ _).alloc (Nat.le_refl _) _)) (fun j hj=>by
  match j,hj with
  |0,_=>exact (by simp[zO,zJ,zQ])
  |1,_=>exact (by simp[zO,zJ,zQ])
  |j+2,hj=>simp at hj<;>omega) (by omega)).mono ?_
 rintro e W4 ⟨x4,rfl,hx4,hg4,i4,hs4⟩
 have HG4:=zN ((grw_alloc HG3.out _).trans hg4)
 have HQ4:=zN ((HQ3.out.below ((zBr _ _).alloc (Nat.le_refl _) _)).grown hg4 (Ne.symm hgq))
 have HS4:=zN hs4
 have HX4:=zN hx4
 have hgl4:=hs4.lt
 clear hg4 hs4 hx4 HG3 HQ3 HS3 hgl3
 go_wp2_with fail
 refine (pick_any _ g b n i4 W4.heap.size [20,50] 2 2 rfl (by omega) (by omega) (HS4.out.below ((zBr _ _).alloc (Nat.le_refl _) _)) (fun j hj=>by
  match j,hj with
  |0,_=>exact (by simp[zO,zJ,zQ])
  |1,_=>exact (by simp[zO,zJ,zQ])
  |j+2,hj=>simp at hj<;>omega) (by omega)).mono ?_
 rintro e W5 ⟨x5,rfl,hx5,hg5,i5,hs5⟩
 have HG5:=zN ((grw_alloc HG4.out _).trans hg5)
 have HQ5:=zN ((HQ4.out.below ((zBr _ _).alloc (Nat.le_refl _) _)).grown hg5 (Ne.symm hgq))
 have HS5:=zN hs5
 have HX5:=zN hx5
 have hgl5:=hs5.lt
 clear hg5 hs5 hx5 HG4 HQ4 HS4 hgl4
 have hW5:Q < W5.heap.size:=HQ5.out.lt
 have HK0:Hid (CtlOk ⟨x1,fun _=>0,fun _=>0,x2,fun _=>0,x3,x4,x5⟩):=zN ⟨⟨hf0,hf1⟩,rfl,fun j hj=>.inl rfl⟩
 have HBB:Hid (0 < n→b≠W5.heap.size):=zN (fun h0=>by have:=HLB.out h0;rw[←HQW.out] at this;omega)
 clear hf0 hf1 hsz0 HX1 HX2 HX4 HX5
 have hW5b:w.heap.size≤W5.heap.size:=by rw[←HQW.out];omega
 have hgW:g≠W5.heap.size:=by omega
 have HZN:Hid (CtlAt (W5.alloc (.cells #[.int .i64 0,.int .i64 0,.int .i64 0,.int .i64 0,.int .i64 0,.int .i64 0,.int .i64 0,.int .i64 0,.int .i64 0,.int .i64 0,.int .i64 0,.int .i64 0,.int .i64 0,.int .i64 0,.int .i64 0,.int .i64 0,.int .i64 0,.int .i64 0,.int .i64 0,.int .i64 0,.int .i64 0,.int .i64 0,.int .i64 0,.int .i64 0,.int .i64 0,.int .i64 0,.int .i64 0,.int .i64 0,.int .i64 0,.int .i64 0,.int .i64 0,.int .i64 0,.int .i64 0,.int .i64 0,.int .i64 0,.int .i64 0,.int .i64 0,.int .i64 0,.int .i64 0,.int .i64 0,.int .i64 0] 29)) W5.heap.size ⟨0,fun _=>0,fun _=>0,0,fun _=>0,0,0,0⟩):=zN (CtlAt.new W5 ⟨0,fun _=>0,fun _=>0,0,fun _=>0,0,0,0⟩)
 go_wp2_with (refine wpl_storeC (by rfl) _ _ (by rfl) W5.heap.size _ ⟨x1,fun _=>0,fun _=>0,x2,fun _=>0,x3,x4,x5⟩ (by rfl) (by rfl) HZN.out ?_)
 refine absW (F:=fun w'=>Hid (CtlS w w' g b n W5.heap.size ⟨x1,fun _=>0,fun _=>0,x2,fun _=>0,x3,x4,x5⟩)∧Hid (∃ k,CtlAt w' Q k)) ⟨zN ⟨HZN.out.store _,HK0.out,grw_setC (grw_alloc HG5.out _) hW5b _,⟨i5,(HS5.out.below ((zBr _ _).alloc (Nat.le_refl _) _)).kept (blk_setC hgW _) (fun h0=>blk_setC (HBB.out h0) _)⟩,hW5b,hgW,HBB.out⟩,zN ⟨_,(HQ5.out.below ((zBr _ _).alloc (Nat.le_refl _) _)).block (blk_setC (by omega) _)⟩⟩ ?_
 rintro W6 ⟨HC6,HQ6⟩
 obtain⟨RB,hR⟩:∃ RB,RB=W5.heap.size:=⟨_,rfl⟩
 rw[←hR] at HC6 hW5 ⊢
 clear hR HBB HK0 HG5 HQ5 HS5 hgl5 HZN hW5b hgW
 clear W5
 go_loopw [4] (fun v4 wr=>∃ (c:Nat) (k:Ctl),1≤c∧c≤12∧v4=.int .i64 (c:Int)∧Hid (CtlS w wr g b n RB k)∧Hid (∃ k,CtlAt wr Q k)) (fun v4 _=>12-(intOf v4).toNat)
 case atStart=>exact⟨1,_,by omega,by omega,rfl,HC6,HQ6⟩
 case round=>
  clear HC6 HQ6
  obtain⟨c,k,hc1,hc12,rfl,HC0,HQ0⟩:=hrel
  by_cases hc:c < 12
  ·have hdc:decide ((c:Int)≤11)=true:=zDt (by omega)
   have hc0:(0:Int)≤(c:Int):=by omega
   have hcI:(c:Int) < 12:=by omega
   have HQl:Hid (Q≠RB):=zN (by omega)
   have HQg:Hid (Q≠g):=zN (by omega)
   obtain⟨W0,hW0⟩:∃ W0,W0=wr:=⟨_,rfl⟩
   rw[←hW0] at HC0 HQ0 ⊢
   clear hW0
   clear wr
   obtain⟨j0,hj0⟩:=HC0.out.s
   have HJ0:=zN hj0
   have hgl:=hj0.lt
   clear hj0
   go_wp2_with fail
   refine (pick_any _ g b n j0 W0.heap.size [0,10,30,100,1000] 5 5 rfl (by omega) (by omega) (HJ0.out.below ((zBr _ _).alloc (Nat.le_refl _) _)) (fun j hj=>by
    match j,hj with
    |0,_=>exact (by simp[zO,zJ,zQ])
    |1,_=>exact (by simp[zO,zJ,zQ])
    |2,_=>exact (by simp[zO,zJ,zQ])
    |3,_=>exact (by simp[zO,zJ,zQ])
    |4,_=>exact (by simp[zO,zJ,zQ])
    |j+5,hj=>simp at hj<;>omega) (by omega)).mono ?_
   rintro e V0 ⟨x,rfl,hx,hg,hs⟩
   have HC:=zN ((HC0.out.below ((zBr _ _).alloc (Nat.le_refl _) _)).grown hg hs)
   have HQ:Hid (∃ k,CtlAt V0 Q k):=by
    obtain⟨k',hk'⟩:=HQ0.out
    exact zN ⟨k',(hk'.below ((zBr _ _).alloc (Nat.le_refl _) _)).grown hg HQg.out⟩
   have y0:=HC.out.at_.st c hc
   have y1:=HC.out.at_.fz (1+c)
   have HCn:=zN (HC.out.st hc x)
   have HQn:Hid (∃ k,CtlAt (V0.setCell ⟨RB,1+c,none⟩ (.int .i64 x)) Q k):=by
    obtain⟨k',hk'⟩:=HQ.out
    exact zN ⟨k',hk'.block (Go.Deep.blk_setCell_other _ _ _ _ HQl.out)⟩
   clear hg hs hx HC HQ HC0 HQ0 HJ0 hgl
   go_upto_region 6 with fail
   clear y0 y1
   obtain⟨W1,hW⟩:∃ W,W=V0.setCell ⟨RB,1+c,none⟩ (.int .i64 x):=⟨_,rfl⟩
   rw[←hW] at HCn HQn ⊢
   obtain⟨k1,hk1⟩:∃ k',CtlS w W1 g b n RB k':=⟨_,HCn.out⟩
   have HC1:=zN hk1
   have HQ1:=HQn
   clear hW HCn HQn hk1
   obtain⟨j1,hj1⟩:=HC1.out.s
   have HJ1:=zN hj1
   have hgl:=hj1.lt
   clear hj1
   go_wp2_with fail
   refine (pick_any _ g b n j1 W1.heap.size [0,20,60,300] 4 4 rfl (by omega) (by omega) (HJ1.out.below ((zBr _ _).alloc (Nat.le_refl _) _)) (fun j hj=>by
    match j,hj with
    |0,_=>exact (by simp[zO,zJ,zQ])
    |1,_=>exact (by simp[zO,zJ,zQ])
    |2,_=>exact (by simp[zO,zJ,zQ])
    |3,_=>exact (by simp[zO,zJ,zQ])
    |j+4,hj=>simp at hj<;>omega) (by omega)).mono ?_
   rintro e V1 ⟨x,rfl,hx,hg,hs⟩
   have HC:=zN ((HC1.out.below ((zBr _ _).alloc (Nat.le_refl _) _)).grown hg hs)
   have HQ:Hid (∃ k,CtlAt V1 Q k):=by
    obtain⟨k',hk'⟩:=HQ1.out
    exact zN ⟨k',(hk'.below ((zBr _ _).alloc (Nat.le_refl _) _)).grown hg HQg.out⟩
   have y0:=HC.out.at_.sp c hc
   have y1:=HC.out.at_.fz (13+c)
   have HCn:=zN (HC.out.sp hc x)
   have HQn:Hid (∃ k,CtlAt (V1.setCell ⟨RB,13+c,none⟩ (.int .i64 x)) Q k):=by
    obtain⟨k',hk'⟩:=HQ.out
    exact zN ⟨k',hk'.block (Go.Deep.blk_setCell_other _ _ _ _ HQl.out)⟩
   clear hg hs hx HC HQ HC1 HQ1 HJ1 hgl
   go_upto_region 7 with fail
   clear y0 y1
   obtain⟨W2,hW⟩:∃ W,W=V1.setCell ⟨RB,13+c,none⟩ (.int .i64 x):=⟨_,rfl⟩
   rw[←hW] at HCn HQn ⊢
   obtain⟨k2,hk2⟩:∃ k',CtlS w W2 g b n RB k':=⟨_,HCn.out⟩
   have HC2:=zN hk2
   have HQ2:=HQn
   clear hW HCn HQn hk2
   obtain⟨j2,hj2⟩:=HC2.out.s
   have HJ2:=zN hj2
   have hgl:=hj2.lt
   clear hj2
   go_wp2_with fail
   refine (pick_any _ g b n j2 W2.heap.size [0,5,30,200] 4 4 rfl (by omega) (by omega) (HJ2.out.below ((zBr _ _).alloc (Nat.le_refl _) _)) (fun j hj=>by
    match j,hj with
    |0,_=>exact (by simp[zO,zJ,zQ])
    |1,_=>exact (by simp[zO,zJ,zQ])
    |2,_=>exact (by simp[zO,zJ,zQ])
    |3,_=>exact (by simp[zO,zJ,zQ])
    |j+4,hj=>simp at hj<;>omega) (by omega)).mono ?_
   rintro e V2 ⟨x,rfl,hx,hg,hs⟩
   have HC:=zN ((HC2.out.below ((zBr _ _).alloc (Nat.le_refl _) _)).grown hg hs)
   have HQ:Hid (∃ k,CtlAt V2 Q k):=by
    obtain⟨k',hk'⟩:=HQ2.out
    exact zN ⟨k',(hk'.below ((zBr _ _).alloc (Nat.le_refl _) _)).grown hg HQg.out⟩
   have y0:=HC.out.at_.bd c hc
   have y1:=HC.out.at_.fz (26+c)
   have HCn:=zN (HC.out.bd hc1 hc x hx)
   have HQn:Hid (∃ k,CtlAt (V2.setCell ⟨RB,26+c,none⟩ (.int .i64 x)) Q k):=by
    obtain⟨k',hk'⟩:=HQ.out
    exact zN ⟨k',hk'.block (Go.Deep.blk_setCell_other _ _ _ _ HQl.out)⟩
   clear hg hs hx HC HQ HC2 HQ2 HJ2 hgl
   go_upto_region 4 with fail
   clear y0 y1
   obtain⟨W3,hW⟩:∃ W,W=V2.setCell ⟨RB,26+c,none⟩ (.int .i64 x):=⟨_,rfl⟩
   rw[←hW] at HCn HQn ⊢
   obtain⟨k3,hk3⟩:∃ k',CtlS w W3 g b n RB k':=⟨_,HCn.out⟩
   have HC3:=zN hk3
   have HQ3:=HQn
   clear hW HCn HQn hk3
   go_wp2
   go_roundw
   case rel=>exact⟨c+1,_,by omega,by omega,by go_num,HC3,HQ3⟩
   case measure=>simp[intOf]<;>omega
  ·have hdc:decide ((c:Int)≤11)=false:=zDf (by omega)
   obtain rfl:c=12:=by omega
   obtain⟨kq,hkq⟩:=HQ0.out
   have HKQ:=zN hkq
   have hQr:w.heap.size≤Q:=by rw[HQW.out];exact Nat.le_refl _
   have hgr:=HC0.out.gr.size
   have HFQ:=zN (hkq.store k)
   have HGQ:=zN (grw_setC HC0.out.gr hQr k)
   have HSQ:Hid (∃ j,SrcAt (wr.setCells Q 0 (ctlL k)) g b n j):=by
    obtain⟨j,hj⟩:=HC0.out.s
    exact zN ⟨j,hj.kept (blk_setC hgq _) (fun h0=>blk_setC (by have h1:=HLB.out h0;have h2:=HQW.out;omega) _)⟩
   clear hkq
   have HAT:=HC0.out.at_
   have HKT:=HKQ.out
   go_wp2_with (first|(refine wpl_loadC (by rfl) (.tmp 3) (by rfl) RB k (by rfl) HAT ?_;refine Hid.out ?_))
   refine zN ?_
   refine wpl_storeC (by rfl) (.tmp 2) (.tmp 42) (by rfl) Q kq k ?hx ?hy HKT ?_
   case hx=>rfl
   case hy=>rfl
   clear HAT HKT
   have HLV:Hid ((loadVar 29 ⟨Q,0,none⟩).run Tryz.prog (wr.setCells Q 0 (ctlL k))=.ok (ctv k) (wr.setCells Q 0 (ctlL k))):=zN (run_loadVar_mid (P:=Tryz.prog) _ Q 0 29 (ctlL k) _ HFQ.out.range Tryz.underlying29 rfl (by kernel_rfl))
   obtain⟨WQ,hWQ⟩:∃ W,W=wr.setCells Q 0 (ctlL k):=⟨_,rfl⟩
   rw[←hWQ] at HLV HGQ HSQ ⊢
   clear hWQ
   go_wp2
   refine bodyPost_ret (v:=ctv k) ?_ rfl ⟨k,rfl,HC0.out.ok,HGQ.out,HSQ.out⟩
   have hlv:=HLV.out
   simp[results,Tryz.results11,Sem.run_bind,Act.put,asAddr,hlv]
end Go.Proofs.YtednaajanciabaaGreatDoor
