import Derived.Test.YtednaajanciabaaGreatDoorKBAwk
import Derived.Test.YtednaajanciabaaGreatDoorKBCtl
import Derived.Test.YtednaajanciabaaGreatDoorBWidP
set_option maxRecDepth 100000
set_option maxHeartbeats 8000000
set_option linter.unusedSimpArgs false
set_option linter.unusedVariables false
namespace Go.Proofs.YtednaajanciabaaGreatDoor
open Go.RowKit Go.Grid Go.Buddy
theorem has_succW {A:List I2} {t:I2} {j:Nat} (h:j < A.length):(A.take (j+1)).contains t=((A.take j).contains t || decide (A[j]=t)):=by
 rw[List.take_succ_eq_append_getElem h,List.contains_eq_mem,List.contains_eq_mem,Bool.eq_iff_iff,Bool.or_eq_true,decide_eq_true_eq,decide_eq_true_eq,decide_eq_true_eq,List.mem_append,List.mem_singleton]
 exact or_congr Iff.rfl eq_comm
theorem chkL_len {k:Ctl} {L:List BR} {m:Nat} (hL:L.length=m) (hm:m≤1000):(chkL k L).length≤1000000:=by
 unfold chkL
 split
 ·have h1:=outC_len k.fr.toNat L k.bd 12
  have h2:(sort2 (outC k.fr.toNat L k.bd 12)).length=(outC k.fr.toNat L k.bd 12).length:=(List.mergeSort_perm _ _).length_eq
  rw[hL] at h1
  omega
 ·simp
theorem VecB.take {w:World} {p:Option Addr} {L:List BR} (h:VecB w p L) (n:Nat):VecB w p (L.take n):=⟨by
 obtain⟨b,o,h1,h2⟩:=h.v
 rw[List.map_take]
 refine⟨b,o,fun h0=>h1 (by rw[List.length_take] at h0;omega),fun k hk=>?_⟩
 have hk':k < (L.map Prod.fst).length:=by rw[List.length_take] at hk;omega
 rw[List.getElem_take]
 exact h2 k hk',fun x hx=>h.r x (List.mem_of_mem_take hx)⟩
theorem four_same {L:List BR} (hl:L.length=4) (h:∀ i (h:i < L.length),FourOk i ([(10100:Int),10100,10100,10100].getD i 0) L[i]) {n:Nat}:(∀ x∈L.take n,vaB x.1=true∧valE x.2=0)∧∀ i,i < (L.take n).length→(bat (L.take n) i).2=[(1,10100)]:=by
 have hz:∀ i:Nat,i < 4→[(10100:Int),10100,10100,10100].getD i 0=10100:=fun i hi=>by
  match i,hi with
  |0,_=>rfl
  |1,_=>rfl
  |2,_=>rfl
  |3,_=>rfl
  |j+4,hi=>omega
 have hv:=four_val (L:=L) (z:=[(10100:Int),10100,10100,10100]) h (fun i hi=>by rw[hz i (by omega)];omega)
 refine⟨fun x hx=>⟨hv.2 x (List.mem_of_mem_take hx),hv.1 x (List.mem_of_mem_take hx)⟩,fun i hi=>?_⟩
 have hi4:i < 4:=by rw[List.length_take,hl] at hi;omega
 rw[bat_eq hi,List.getElem_take,(h i (by omega)).rd,hz i hi4]
theorem neiL_len {n r c:Int} {X:List BR}:(neiL n X r c).length≤X.length:=by
 unfold neiL aroL
 split
 ·split
  ·exact Nat.le_trans (List.length_filter_le _ _) (by rw[List.length_range];exact Nat.le_refl _)
  ·exact Nat.zero_le _
 ·exact Nat.zero_le _
theorem neiL_symm {n:Int} {X:List BR} {c:Int} {i j:Nat} (hn:1≤n∧n≤8) (h0:exE X=0) (hi:i < X.length) (h:j∈neiL n X (i:Int) c):j < X.length∧i∈neiL n X (j:Int) c∧(bat X i).1.name≠(bat X j).1.name∧neiE n X (j:Int)=0:=by
 have e1:neiE n X (i:Int)=0:=neiE_0 hn h0 (by omega)
 unfold neiL at h
 rw[if_pos e1,Int.toNat_natCast] at h
 obtain⟨h1,h2,h3⟩:=aroL_symm (by omega) (by omega) hi h
 have e2:neiE n X (j:Int)=0:=neiE_0 hn h0 (by omega)
 refine⟨h3,?_,h2,e2⟩
 unfold neiL
 rw[if_pos e2,Int.toNat_natCast]
 exact h1
structure WidS (W wr:World) (base g b N R6 RB m:Nat) (p:Option Addr) (cp:Nat) (X:List BR) (kc k2:Ctl) (c:Nat):Prop where
 at6:CtlAt wr R6 k2
 wid:Wid kc k2
 eq:∀ j,c≤j→j < 12→k2.bd j=kc.bd j
 atB:CtlAt wr RB kc
 row:CrRow wr base (.slice p m cp) X
 s:∃ i,SrcAt wr g b N i
 bl:Below W.heap.size W wr
theorem WidS.next {W wr:World} {base g b N R6 RB m:Nat} {p:Option Addr} {cp:Nat} {X:List BR} {kc k2:Ctl} {c:Nat} (h:WidS W wr base g b N R6 RB m p cp X kc k2 c):WidS W wr base g b N R6 RB m p cp X kc k2 (c+1):=
 ⟨h.at6,h.wid,fun j h1 h2=>h.eq j (by omega) h2,h.atB,h.row,h.s,h.bl⟩
theorem WidS.grown {W wr w':World} {base g b N R6 RB m:Nat} {p:Option Addr} {cp:Nat} {X:List BR} {kc k2:Ctl} {c:Nat} (h:WidS W wr base g b N R6 RB m p cp X kc k2 c) (hg:wr.grownBy w' (some g)) (hs:∃ i,SrcAt w' g b N i) (h1:g < base) (h2:g≠R6) (h3:g≠RB) (h4:W.heap.size≤g):WidS W w' base g b N R6 RB m p cp X kc k2 c:=
 ⟨h.at6.grown hg (Ne.symm h2),h.wid,h.eq,h.atB.grown hg (Ne.symm h3),h.row.kept (some g) hg (fun k e=>.inl (by injection e with e;omega)),hs,h.bl.grown hg h.bl.size (fun k hk=>by injection hk with hk;omega)⟩
theorem WidS.below {W wr w':World} {base g b N R6 RB m:Nat} {p:Option Addr} {cp:Nat} {X:List BR} {kc k2:Ctl} {c:Nat} (h:WidS W wr base g b N R6 RB m p cp X kc k2 c) (hb:Below wr.heap.size wr w'):WidS W w' base g b N R6 RB m p cp X kc k2 c:=by
 obtain⟨i,hi⟩:=h.s
 exact⟨h.at6.below hb,h.wid,h.eq,h.atB.below hb,h.row.below hb,⟨i,hi.below hb⟩,h.bl.trans (hb.mono h.bl.size)⟩
theorem WidS.put {W wr:World} {base g b N R6 RB m:Nat} {p:Option Addr} {cp:Nat} {X:List BR} {kc k2:Ctl} {c:Nat} {x:Int} (h:WidS W wr base g b N R6 RB m p cp X kc k2 c) (hc:c < 12) (hx:0≤x∧x < 100) (hl:0 < kc.bd c) (h2:g≠R6) (h3:RB≠R6) (h4:W.heap.size≤R6) (h5:0 < N→b≠R6) (h6:∀ q,(Value.slice p m cp).ownBlock=some q→q < R6) (h7:∀ y∈X,∀ a n c,y.1.rd=.slice (some a) n c→0 < y.2.length→a.block < R6) :
  ∃ k3,WidS W (wr.setCell ⟨R6,26+c,none⟩ (.int .i64 (kc.bd c+x))) base g b N R6 RB m p cp X kc k3 (c+1):=by
 have hg:wr.grownBy (wr.setCell ⟨R6,26+c,none⟩ (.int .i64 (kc.bd c+x))) (some R6):=grw_set (grw_refl _ _) (.inl rfl)
 obtain⟨i,hi⟩:=h.s
 refine⟨{ k2 with bd:=up k2.bd c (kc.bd c+x) },h.at6.set_bd hc _,⟨h.wid.fr,fun j hj=>?_,fun j hj h0=>?_⟩,fun j h1 h2=>?_,h.atB.block (Go.Deep.blk_setCell_other _ _ _ _ h3),⟨World.ownsRow.kept h.row.row hg ?_,fun y hy=>(h.row.rd y hy).turn (fun a n c ha h0=>hg.block _ ((h.row.rd y hy).blk ha h0) (fun e=>by injection e with e;have:=h7 y hy a n c ha h0;omega)),h.row.ne⟩,⟨i,hi.other h2 h5⟩,zBs h.bl h4 _⟩
 ·show kc.bd j≤up k2.bd c (kc.bd c+x) j∧up k2.bd c (kc.bd c+x) j≤kc.bd j+99
  unfold up
  by_cases e:j=c
  ·subst e;rw[if_pos rfl];omega
  ·rw[if_neg e];exact h.wid.le j hj
 ·show up k2.bd c (kc.bd c+x) j=0
  unfold up
  by_cases e:j=c
  ·subst e;omega
  ·rw[if_neg e];exact h.wid.z j hj h0
 ·show up k2.bd c (kc.bd c+x) j=kc.bd j
  unfold up
  rw[if_neg (by omega)]
  exact h.eq j (by omega) h2
 ·cases ho:(Value.slice p m cp).ownBlock with
  |none=>exact .inl rfl
  |some q=>exact .inr (fun e=>by injection e with e;have:=h6 q ho;omega)
theorem wid_law (W:World) (q:Option Addr) (cap:Nat) (Z:List Int) (hV:VecAt W q Z) (hI:I64L Z) (hl:Z.length≤cap) (hc:cap≤9223372036854775807) (hT:HasTab W) (hB:HasBnd W) :
  Calls Tryz.prog 7 #[.slice q Z.length cap] W fun e w'=>e=.returned (.bool true)∧Below W.heap.size W w':=by
 go_enter Tryz.func7,Tryz.ntmps7
 go_wp2_with fail
 refine (knew_any q cap Z W hV hI hl hc).mono ?_
 rintro e w1 ⟨rfl,hb,b,hblt,hs⟩
 clear hV hI
 have HT:=zN hT
 have HBN:=zN hB
 generalize min Z.length 2000=N at *
 obtain⟨g,hg⟩:∃ g,g=W.heap.size:=⟨_,rfl⟩
 rw[←hg] at hs hblt ⊢
 have HG:=zN hg
 have HB1:=zN hb
 have HBL:=zN hblt
 have hg1:=hs.lt
 clear hg hT hB hl hc hb hblt
 go_wp2_with fail
 refine (crowd_any w1 g b N 0 hs 8 (by omega) 14000000 (by omega) (by omega)).mono ?_
 rintro e w2 ⟨v,X,rfl,hrow,hok,hlen,hg2,hs2⟩
 obtain⟨p,cp,rfl,hcp,_,hpb⟩:=hrow.form
 have HB2:=zN (HB1.out.grown hg2 HB1.out.size (fun k hk=>by injection hk with hk;have:=HG.out;omega))
 have hsz2:=hg2.size
 have HROW:=zN hrow
 have HCO:=zN hok
 have HFX:Hid (∀ x∈X,vaB x.1=true∧valE x.2=0):=zN (fun x hx=>⟨(hok x hx).va,(hok x hx).ve⟩)
 have HPB:=zN hpb
 obtain⟨m,hm⟩:∃ m,m=X.length:=⟨_,rfl⟩
 have hmN:m≤8:=by omega
 rw[←hm] at HROW HPB hcp ⊢
 have HXM:=zN hm.symm
 obtain⟨ix,hsx⟩:=hs2
 clear hrow hok hlen hg2 hs hpb hm
 go_wp2_with fail
 refine (control_any w2 g b N ix hsx).mono ?_
 rintro e w6 ⟨kc,rfl,hko,hg6,i6,hs6⟩
 have HB6:=zN (HB2.out.grown hg6 HB2.out.size (fun k hk=>by injection hk with hk;have:=HG.out;omega))
 have HR6:=zN (HROW.out.kept (some g) hg6 (fun k e=>.inl (by injection e with e;omega)))
 have HKO:=zN hko
 have HS6:=zN hs6
 have hsz6:w2.heap.size≤w6.heap.size:=hg6.size
 clear hko hg6 hsx HROW HB2 hs6
 have HZN:=zN (CtlAt.new w6 ⟨0,fun _=>0,fun _=>0,0,fun _=>0,0,0,0⟩)
 have HZB:Hid (Below w6.heap.size w6 (w6.alloc (.cells #[.int .i64 0,.int .i64 0,.int .i64 0,.int .i64 0,.int .i64 0,.int .i64 0,.int .i64 0,.int .i64 0,.int .i64 0,.int .i64 0,.int .i64 0,.int .i64 0,.int .i64 0,.int .i64 0,.int .i64 0,.int .i64 0,.int .i64 0,.int .i64 0,.int .i64 0,.int .i64 0,.int .i64 0,.int .i64 0,.int .i64 0,.int .i64 0,.int .i64 0,.int .i64 0,.int .i64 0,.int .i64 0,.int .i64 0,.int .i64 0,.int .i64 0,.int .i64 0,.int .i64 0,.int .i64 0,.int .i64 0,.int .i64 0,.int .i64 0,.int .i64 0,.int .i64 0,.int .i64 0,.int .i64 0] 29))):=zN ((zBr _ _).alloc (Nat.le_refl _) _)
 go_wp2_with (refine wpl_storeC (by rfl) (.tmp 5) (.tmp 34) (by rfl) w6.heap.size _ kc (by rfl) (by rfl) HZN.out ?_;refine Hid.out ?_)
 refine zN ?_
 have HC7:Hid (CtlAt ((w6.alloc (.cells #[.int .i64 0,.int .i64 0,.int .i64 0,.int .i64 0,.int .i64 0,.int .i64 0,.int .i64 0,.int .i64 0,.int .i64 0,.int .i64 0,.int .i64 0,.int .i64 0,.int .i64 0,.int .i64 0,.int .i64 0,.int .i64 0,.int .i64 0,.int .i64 0,.int .i64 0,.int .i64 0,.int .i64 0,.int .i64 0,.int .i64 0,.int .i64 0,.int .i64 0,.int .i64 0,.int .i64 0,.int .i64 0,.int .i64 0,.int .i64 0,.int .i64 0,.int .i64 0,.int .i64 0,.int .i64 0,.int .i64 0,.int .i64 0,.int .i64 0,.int .i64 0,.int .i64 0,.int .i64 0,.int .i64 0] 29)).setCells w6.heap.size 0 (ctlL kc)) w6.heap.size kc):=zN (HZN.out.store kc)
 have HB7:Hid (Below w6.heap.size w6 ((w6.alloc (.cells #[.int .i64 0,.int .i64 0,.int .i64 0,.int .i64 0,.int .i64 0,.int .i64 0,.int .i64 0,.int .i64 0,.int .i64 0,.int .i64 0,.int .i64 0,.int .i64 0,.int .i64 0,.int .i64 0,.int .i64 0,.int .i64 0,.int .i64 0,.int .i64 0,.int .i64 0,.int .i64 0,.int .i64 0,.int .i64 0,.int .i64 0,.int .i64 0,.int .i64 0,.int .i64 0,.int .i64 0,.int .i64 0,.int .i64 0,.int .i64 0,.int .i64 0,.int .i64 0,.int .i64 0,.int .i64 0,.int .i64 0,.int .i64 0,.int .i64 0,.int .i64 0,.int .i64 0,.int .i64 0,.int .i64 0] 29)).setCells w6.heap.size 0 (ctlL kc))):=zN (below_setC HZB.out (Nat.le_refl _) _)
 generalize ((w6.alloc (.cells #[.int .i64 0,.int .i64 0,.int .i64 0,.int .i64 0,.int .i64 0,.int .i64 0,.int .i64 0,.int .i64 0,.int .i64 0,.int .i64 0,.int .i64 0,.int .i64 0,.int .i64 0,.int .i64 0,.int .i64 0,.int .i64 0,.int .i64 0,.int .i64 0,.int .i64 0,.int .i64 0,.int .i64 0,.int .i64 0,.int .i64 0,.int .i64 0,.int .i64 0,.int .i64 0,.int .i64 0,.int .i64 0,.int .i64 0,.int .i64 0,.int .i64 0,.int .i64 0,.int .i64 0,.int .i64 0,.int .i64 0,.int .i64 0,.int .i64 0,.int .i64 0,.int .i64 0,.int .i64 0,.int .i64 0] 29)).setCells w6.heap.size 0 (ctlL kc))=w7 at *
 have HBW7:=zN (HB6.out.trans (HB7.out.mono HB6.out.size))
 have HR7:=zN (HR6.out.below HB7.out)
 have HS7:=zN (HS6.out.below HB7.out)
 have hsz7:=HB7.out.size
 obtain⟨RB,hRB⟩:∃ RB,RB=w6.heap.size:=⟨_,rfl⟩
 rw[←hRB] at HC7 ⊢
 have HRB:=zN hRB
 have hgRB:g < RB:=by have:=HS6.out.lt;omega
 have hRW:w2.heap.size≤RB:=by omega
 clear hRB HZN HZB HB6 HR6 HS6 HB7
 have hC7:=HC7.out
 have HRO:Hid (∀ q,(Value.slice p m cp).ownBlock=some q→q < w7.heap.size):=zN (fun q hq=>(World.ownsRow.lt HR7.out.row q hq).2)
 have HRL:Hid (∀ y∈X,∀ a n c,y.1.rd=.slice (some a) n c→0 < y.2.length→a.block < w7.heap.size):=zN (fun y hy a n c ha h0=>(HR7.out.rd y hy).blk ha h0)
 go_wp2_with (first|(refine wpl_loadC (by rfl) (.tmp 5) (by rfl) RB kc (by rfl) hC7 ?_;refine Hid.out ?_))
 refine zN ?_
 have HZN:=zN (CtlAt.new w7 ⟨0,fun _=>0,fun _=>0,0,fun _=>0,0,0,0⟩)
 have HZB:Hid (Below w7.heap.size w7 (w7.alloc (.cells #[.int .i64 0,.int .i64 0,.int .i64 0,.int .i64 0,.int .i64 0,.int .i64 0,.int .i64 0,.int .i64 0,.int .i64 0,.int .i64 0,.int .i64 0,.int .i64 0,.int .i64 0,.int .i64 0,.int .i64 0,.int .i64 0,.int .i64 0,.int .i64 0,.int .i64 0,.int .i64 0,.int .i64 0,.int .i64 0,.int .i64 0,.int .i64 0,.int .i64 0,.int .i64 0,.int .i64 0,.int .i64 0,.int .i64 0,.int .i64 0,.int .i64 0,.int .i64 0,.int .i64 0,.int .i64 0,.int .i64 0,.int .i64 0,.int .i64 0,.int .i64 0,.int .i64 0,.int .i64 0,.int .i64 0] 29))):=zN ((zBr _ _).alloc (Nat.le_refl _) _)
 go_wp2_with (refine wpl_storeC (by rfl) (.tmp 6) (.tmp 35) (by rfl) w7.heap.size _ kc (by rfl) (by rfl) HZN.out ?_;refine Hid.out ?_)
 refine zN ?_
 have HC8:Hid (CtlAt ((w7.alloc (.cells #[.int .i64 0,.int .i64 0,.int .i64 0,.int .i64 0,.int .i64 0,.int .i64 0,.int .i64 0,.int .i64 0,.int .i64 0,.int .i64 0,.int .i64 0,.int .i64 0,.int .i64 0,.int .i64 0,.int .i64 0,.int .i64 0,.int .i64 0,.int .i64 0,.int .i64 0,.int .i64 0,.int .i64 0,.int .i64 0,.int .i64 0,.int .i64 0,.int .i64 0,.int .i64 0,.int .i64 0,.int .i64 0,.int .i64 0,.int .i64 0,.int .i64 0,.int .i64 0,.int .i64 0,.int .i64 0,.int .i64 0,.int .i64 0,.int .i64 0,.int .i64 0,.int .i64 0,.int .i64 0,.int .i64 0] 29)).setCells w7.heap.size 0 (ctlL kc)) w7.heap.size kc):=zN (HZN.out.store kc)
 have HB8:Hid (Below w7.heap.size w7 ((w7.alloc (.cells #[.int .i64 0,.int .i64 0,.int .i64 0,.int .i64 0,.int .i64 0,.int .i64 0,.int .i64 0,.int .i64 0,.int .i64 0,.int .i64 0,.int .i64 0,.int .i64 0,.int .i64 0,.int .i64 0,.int .i64 0,.int .i64 0,.int .i64 0,.int .i64 0,.int .i64 0,.int .i64 0,.int .i64 0,.int .i64 0,.int .i64 0,.int .i64 0,.int .i64 0,.int .i64 0,.int .i64 0,.int .i64 0,.int .i64 0,.int .i64 0,.int .i64 0,.int .i64 0,.int .i64 0,.int .i64 0,.int .i64 0,.int .i64 0,.int .i64 0,.int .i64 0,.int .i64 0,.int .i64 0,.int .i64 0] 29)).setCells w7.heap.size 0 (ctlL kc))):=zN (below_setC HZB.out (Nat.le_refl _) _)
 generalize ((w7.alloc (.cells #[.int .i64 0,.int .i64 0,.int .i64 0,.int .i64 0,.int .i64 0,.int .i64 0,.int .i64 0,.int .i64 0,.int .i64 0,.int .i64 0,.int .i64 0,.int .i64 0,.int .i64 0,.int .i64 0,.int .i64 0,.int .i64 0,.int .i64 0,.int .i64 0,.int .i64 0,.int .i64 0,.int .i64 0,.int .i64 0,.int .i64 0,.int .i64 0,.int .i64 0,.int .i64 0,.int .i64 0,.int .i64 0,.int .i64 0,.int .i64 0,.int .i64 0,.int .i64 0,.int .i64 0,.int .i64 0,.int .i64 0,.int .i64 0,.int .i64 0,.int .i64 0,.int .i64 0,.int .i64 0,.int .i64 0] 29)).setCells w7.heap.size 0 (ctlL kc))=w8 at *
 have HS8:Hid (WidS W w8 w1.heap.size g b N w7.heap.size RB m p cp X kc kc 1):=zN ⟨HC8.out,⟨rfl,fun j _=>by omega,fun j _ h=>h⟩,fun j _ _=>rfl,HC7.out.below HB8.out,HR7.out.below HB8.out,⟨i6,HS7.out.below HB8.out⟩,HBW7.out.trans (HB8.out.mono HBW7.out.size)⟩
 have hgl7:=HS7.out.lt
 have hRl7:=HC7.out.lt
 have HbN:Hid (0 < N→b < w7.heap.size):=zN (fun h0=>HS7.out.ltb h0)
 have HGW:Hid (W.heap.size≤g):=zN (by have:=HG.out;omega)
 obtain⟨R6,hR6⟩:∃ R6,R6=w7.heap.size:=⟨_,rfl⟩
 rw[←hR6] at HS8 HbN HRO HRL hgl7 hRl7 ⊢
 have HWR:Hid (W.heap.size≤R6):=zN (by rw[hR6];exact HBW7.out.size)
 clear hR6 hC7 HZN HZB HC8 HB8 HC7 HR7 HBW7 HS7
 go_wp2
 go_loopw [7] (fun v7 wr=>∃ (c:Nat) (k2:Ctl),1≤c∧c≤12∧v7=.int .i64 (c:Int)∧Hid (WidS W wr w1.heap.size g b N R6 RB m p cp X kc k2 c)) (fun v7 _=>12-(intOf v7).toNat)
 case atStart=>exact⟨1,kc,by omega,by omega,rfl,HS8⟩
 case round=>
  clear HS8
  obtain⟨c,k2,hc1,hc12,rfl,HS⟩:=hrel
  by_cases hc:c < 12
  ·have hdc:decide ((c:Int)≤11)=true:=zDt (by omega)
   have hc0:(0:Int)≤(c:Int):=by omega
   have hcI:(c:Int) < 12:=by omega
   have y0:=HS.out.at6.bd c hc
   rw[HS.out.eq c (Nat.le_refl _) hc] at y0
   obtain⟨lc,hlc⟩:∃ lc,lc=kc.bd c:=⟨_,rfl⟩
   rw[←hlc] at y0
   have hlb:0≤lc∧lc≤200:=by rw[hlc];rcases HKO.out.bd c hc with h|h|h|h<;>omega
   have HLC:=zN hlc
   clear hlc
   by_cases hp:lc > 0
   ·have hdp:decide (lc > 0)=true:=zDt hp
    have HSd:=zN (HS.out.below (zBd (zBr wr.heap.size wr)))
    obtain⟨js,hjs⟩:=HSd.out.s
    have hS0:wr.drew.cell? ⟨R6,26+c,none⟩=some (.int .i64 lc):=y0
    clear HS
    go_wp2_with fail
    refine RY.region RX.fN (fun w'=>w'.cell? ⟨R6,26+c,none⟩=some (.int .i64 lc)) (by kernel_rfl) (by kernel_rfl) (hS0) (fun OPS HO QR hQR=>?_)
    repeat (refine zeY (fun R hR=>?_);(first|refine zaY (by first|rfl|(rw[HO.out];rfl)) (by simp only[zA,zB,zC,zD];rfl) ?_|refine zbY (by first|rfl|(rw[HO.out];rfl)) rfl (by first|exact .inl rfl|exact .inr rfl) (by simp only[zE,zF,zG,zH];rfl) (by simp only[zA,zB,zC,zD];rfl) ?_|refine zcY (by first|rfl|(rw[HO.out];rfl)) rfl rfl (by simp only[zE,zF,zG,zH];rfl) (by simp only[zA,zB,zC,zD];rfl) ?_|(refine zdY (by first|rfl|(rw[HO.out];rfl)) rfl rfl rfl ?_;apply zEx;apply zEx;refine⟨fun w' hS K hK=>?_,?_,?_⟩;(focus (skip;go_wp2;exact hK _ _ (by simp only[zl,zG,zH];first|exact zf (by omega)|exact zg (by omega)|exact zh (by omega)|exact zi (by omega)|exact zj (by omega)|exact zk (by omega)|exact RX.bneB _|rfl) rfl));(focus (simp only[zA,zB,zC,zD];rfl))));refine hR _ _ ?_;clear hR R)
    refine zeY (fun R hR=>?_)
    refine zgY (by first|rfl|(rw[HO.out];rfl)) rfl (fun K hK=>?_)
    go_wp2_with fail
    refine (srcN_any _ g b N js 100 hjs (by omega) (by omega)).mono ?_
    rintro e w9 ⟨x,rfl,hx0,hx1,hg9,hs9⟩
    have HS9:=zN (HSd.out.grown hg9 hs9 hg1 (by omega) (by omega) HGW.out)
    have hS9:=hg9.cell hS0 (by simp;omega)
    have hz9:=HS9.out.at6.fz (26+c)
    have HPN:Hid (∃ k3,WidS W (w9.setCell ⟨R6,26+c,none⟩ (.int .i64 (lc+x))) w1.heap.size g b N R6 RB m p cp X kc k3 (c+1)):=zN (by
     have h:=HS9.out.put hc ⟨hx0,hx1⟩ (by rw[←HLC.out];exact hp) (by omega) (by omega) HWR.out (fun h0=>by have:=HbN.out h0;omega) HRO.out HRL.out
     rw[←HLC.out] at h
     exact h)
    clear hg9 hs9 hjs HSd HS9 hS0
    refine hK _ _ ⟨.inr (hS9),hR _ _ ?_⟩;clear hK K hR R
    repeat (refine zeY (fun R hR=>?_);(first|refine zaY (by first|rfl|(rw[HO.out];rfl)) (by simp only[zA,zB,zC,zD];rfl) ?_|refine zbY (by first|rfl|(rw[HO.out];rfl)) rfl (by first|exact .inl rfl|exact .inr rfl) (by simp only[zE,zF,zG,zH];rfl) (by simp only[zA,zB,zC,zD];rfl) ?_|refine zcY (by first|rfl|(rw[HO.out];rfl)) rfl rfl (by simp only[zE,zF,zG,zH];rfl) (by simp only[zA,zB,zC,zD];rfl) ?_|(refine zdY (by first|rfl|(rw[HO.out];rfl)) rfl rfl rfl ?_;apply zEx;apply zEx;refine⟨fun w' hS K hK=>?_,?_,?_⟩;(focus (skip;go_wp2;exact hK _ _ (by simp only[zl,zG,zH];first|exact zf (by omega)|exact zg (by omega)|exact zh (by omega)|exact zi (by omega)|exact zj (by omega)|exact zk (by omega)|exact RX.bneB _|rfl) rfl));(focus (simp only[zA,zB,zC,zD];rfl))));refine hR _ _ ?_;clear hR R)
    refine zeY (fun R hR=>?_)
    refine zgY (by first|rfl|(rw[HO.out];rfl)) rfl (fun K hK=>?_)
    go_wp2
    first|refine⟨(by first|exact .inl rfl|exact .inl trivial|trivial),hR _ _ (RY.wpL_nil (hQR _ _ ?_))⟩|refine hR _ _ (RY.wpL_nil (hQR _ _ ?_))|refine hQR _ _ ?_
    (try clear hR);(try clear R);clear hQR QR HO OPS
    clear hS9 hz9
    go_wp2
    go_roundw
    case rel=>
     obtain⟨k3,hk3⟩:=HPN.out
     exact⟨c+1,k3,by omega,by omega,by go_num,zN hk3⟩
    case measure=>simp[intOf]<;>omega
   ·have hdp:decide (lc > 0)=false:=zDf hp
    have HSN:=zN HS.out.next
    clear hp
    go_wp2
    go_roundw
    case rel=>exact⟨c+1,k2,by omega,by omega,by go_num,HSN⟩
    case measure=>simp[intOf]<;>omega
  ·have hdc:decide ((c:Int)≤11)=false:=zDf (by omega)
   obtain rfl:c=12:=by omega
   generalize wr=w9 at *
   have HS9:=HS
   clear HS
   have hC9:=HS9.out.atB
   have HRW9:=zN HS9.out.row
   obtain⟨px,cx,ex,_,hVX,_⟩:=HRW9.out.form
   rw[HXM.out] at ex
   injection ex with e1 _ e3
   subst e1 e3
   have HVX:=zN hVX
   have HB9:=zN HS9.out.bl
   have HEX:=zN (chkE_ok HKO.out HFX.out)
   have HE2:=zN (HS9.out.wid.chk HKO.out HFX.out)
   have HSUB:=zN (HS9.out.wid.sub HEX.out HE2.out)
   have HCKX:=zN (bcheck_any p cp m X HXM.out (by omega) kc w9 (HT.out.below HB9.out) (HBN.out.below HB9.out) HVX.out)
   rw[HEX.out] at HCKX
   clear hVX
   go_wp2_with (first|(refine wpl_loadC (by rfl) (.tmp 5) (by rfl) RB kc (by rfl) hC9 ?_;refine Hid.out ?_))
   refine zN ?_
   go_wp2_with fail
   refine HCKX.out.mono ?_
   rintro e w10 ⟨v10,rfl,hb10,hF10⟩
   obtain⟨pa,ca,rfl,hca⟩:=hF10.slice
   have HS10:=zN (HS9.out.below hb10)
   have HC10:=zN HS10.out.at6
   have hC10:=HC10.out
   have HB10:=zN HS10.out.bl
   have HVX10:=zN (HVX.out.below hb10)
   have HFA:=zN hF10
   clear hb10 hF10 hC9 HCKX HVX HS9 HB9 HRW9
   have HCKY:=zN (bcheck_any p cp m X HXM.out (by omega) k2 w10 (HT.out.below HB10.out) (HBN.out.below HB10.out) HVX10.out)
   rw[HE2.out] at HCKY
   obtain⟨A,hA⟩:∃ A,A=chkL kc X:=⟨_,rfl⟩
   obtain⟨B,hB⟩:∃ B,B=chkL k2 X:=⟨_,rfl⟩
   have HA9:Hid (A.length≤1000000):=zN (by rw[hA];exact chkL_len HXM.out (by omega))
   have HB99:Hid (B.length≤1000000):=zN (by rw[hB];exact chkL_len HXM.out (by omega))
   rw[←hA,←hB] at HSUB
   rw[←hA] at HFA hca ⊢
   rw[←hB] at HCKY
   obtain⟨na,hna⟩:∃ na,na=A.length:=⟨_,rfl⟩
   obtain⟨nb,hnb⟩:∃ nb,nb=B.length:=⟨_,rfl⟩
   rw[←hna] at HFA hca HA9 ⊢
   have HBl:=zN hnb.symm
   have HAl:=zN hna.symm
   have hna9:=HA9.out
   have hnb9:nb≤1000000:=by rw[hnb];exact HB99.out
   clear hA hB hna hnb
   go_wp2_with (first|(refine wpl_loadC (by rfl) (.tmp 6) (by rfl) R6 k2 (by rfl) hC10 ?_;refine Hid.out ?_))
   refine zN ?_
   go_wp2_with fail
   refine HCKY.out.mono ?_
   rintro e w11 ⟨v11,rfl,hb11,hF11⟩
   obtain⟨pb,cb,rfl,hcb⟩:=hF11.slice
   rw[HBl.out] at hF11 hcb ⊢
   have HS11:=zN (HS10.out.below hb11)
   have HFB:=zN hF11
   have HFA11:=zN (HFA.out.below hb11)
   clear hb11 hF11 hC10 HC10 HCKY HFA HS10 HVX10 HB10
   go_wp2
   go_loopw [74] (fun v74 wr=>∃ k:Nat,k≤nb∧v74=.int .i64 (k:Int)∧Hid (Below w11.heap.size w11 wr)) (fun v74 _=>nb-(intOf v74).toNat)
   case atStart=>exact⟨0,by omega,rfl,zN (zBr _ _)⟩
   case round=>
    obtain⟨k,hkn,rfl,HBK⟩:=hrel
    by_cases hk:k < nb
    ·have hdk:decide ((k:Int) < (nb:Int))=true:=zDt (by omega)
     have hk0:(0:Int)≤(k:Int):=by omega
     have hk1:(k:Int) < (nb:Int):=by omega
     have hkB:k < B.length:=by rw[HBl.out];exact hk
     obtain⟨bb,ob,rfl,_,hsb⟩:=HFB.out.cell (by omega)
     obtain⟨b0,b1,b2⟩:=hsb k hkB
     have y0:=zP HBK.out b0
     have y1:=zP HBK.out b1
     have y2:=zP HBK.out b2
     have HME:=zN (HSUB.out _ (List.getElem_mem hkB))
     obtain⟨t,ht⟩:∃ t,t=B[k]:=⟨_,rfl⟩
     rw[←ht] at y0 y1 HME
     clear hsb b0 b1 b2 ht hkB
     go_wp2
     refine absW (F:=fun w'=>Hid (Below w11.heap.size w11 w')∧Hid (w'.cell? ⟨wr.heap.size,0,none⟩=some (.int .i64 t.1)∧w'.cell? ⟨wr.heap.size,1,none⟩=some (.int .i64 t.2)∧w'.cell? ⟨wr.heap.size,2,none⟩=some (.int .i64 6))) ⟨zN (HBK.out.alloc HBK.out.size (.cells #[.int .i64 t.1,.int .i64 t.2,.int .i64 6] 48)),zN ⟨(by simp[zO,zJ,zQ]),(by simp[zO,zJ,zQ]),(by simp[zO,zJ,zQ])⟩⟩ ?_
     rintro w15 ⟨HB15,HC15⟩
     obtain⟨R15,hR15⟩:∃ R15,R15=wr.heap.size:=⟨_,rfl⟩
     rw[←hR15] at HC15 ⊢
     clear hR15 y0 y1 y2
     go_loopw [80,14] (fun v80 v14 wy=>∃ j:Nat,j≤na∧v80=.int .i64 (j:Int)∧v14=.bool ((A.take j).contains t)∧Hid (Below w15.heap.size w15 wy)) (fun v80 _ _=>na-(intOf v80).toNat)
     case atStart=>exact⟨0,by omega,rfl,rfl,zN (zBr _ _)⟩
     case round=>
      obtain⟨j,hjn,rfl,rfl,HBJ⟩:=hrel
      by_cases hj:j < na
      ·have hdj:decide ((j:Int) < (na:Int))=true:=zDt (by omega)
       have hj0:(0:Int)≤(j:Int):=by omega
       have hj1:(j:Int) < (na:Int):=by omega
       have hjA:j < A.length:=by rw[HAl.out];exact hj
       obtain⟨ba,oa,rfl,_,hsa⟩:=HFA11.out.cell (by omega)
       obtain⟨a0,a1,a2⟩:=hsa j hjA
       have HBJ1:=zN (HB15.out.trans (HBJ.out.mono HB15.out.size))
       have x0:=zP HBJ1.out a0
       have x1:=zP HBJ1.out a1
       have x2:=zP HBJ1.out a2
       have HS:=zN (has_succW (t:=t) hjA)
       obtain⟨f,hf⟩:∃ f,f=A[j]:=⟨_,rfl⟩
       rw[←hf] at x0 x1 HS
       have z0:=zP HBJ.out HC15.out.1
       have z1:=zP HBJ.out HC15.out.2.1
       have z2:=zP HBJ.out HC15.out.2.2
       have hR15l:R15 < wr.heap.size:=zM _ _ z0
       obtain⟨fb,hfb⟩:∃ fb,fb=(A.take j).contains t:=⟨_,rfl⟩
       rw[←hfb] at HS ⊢
       have HBN2:Hid (Below w15.heap.size w15 (wr.alloc (.cells #[.int .i64 f.1,.int .i64 f.2,.int .i64 6] 48))):=zN (HBJ.out.alloc HBJ.out.size _)
       clear hsa a0 a1 a2 hf hfb
       cases fb with
       |true=>
        have HN:Hid ((A.take (j+1)).contains t=true):=zN (by rw[HS.out];rfl)
        go_wp2
        go_roundw
        case rel=>exact⟨j+1,by omega,by go_num,by rw[HN.out],HBN2⟩
        case measure=>simp[intOf]<;>omega
       |false=>
        by_cases h1:t.1=f.1
        ·by_cases h2:t.2=f.2
         ·have HN:Hid ((A.take (j+1)).contains t=true):=zN (by
           rw[HS.out,zDt (show f=t from Prod.ext h1.symm h2.symm)];rfl)
          rw[←h1] at x0 HBN2
          rw[←h2] at x1 HBN2
          clear h1 h2
          go_wp2
          go_roundw
          case rel=>exact⟨j+1,by omega,by go_num,by rw[HN.out],HBN2⟩
          case measure=>simp[intOf]<;>omega
         ·have HN:Hid ((A.take (j+1)).contains t=false):=zN (by
           rw[HS.out,zDf (fun e=>h2 (by rw[e]))];rfl)
          have hb2:(t.2 == f.2)=false:=beq_eq_false_iff_ne.2 h2
          rw[←h1] at x0 HBN2
          clear h1 h2
          go_wp2
          go_roundw
          case rel=>exact⟨j+1,by omega,by go_num,by rw[HN.out],HBN2⟩
          case measure=>simp[intOf]<;>omega
        ·have HN:Hid ((A.take (j+1)).contains t=false):=zN (by
          rw[HS.out,zDf (fun e=>h1 (by rw[e]))];rfl)
         have hb1:(t.1 == f.1)=false:=beq_eq_false_iff_ne.2 h1
         clear h1
         go_wp2
         go_roundw
         case rel=>exact⟨j+1,by omega,by go_num,by rw[HN.out],HBN2⟩
         case measure=>simp[intOf]<;>omega
      ·have hdj:decide ((j:Int) < (na:Int))=false:=zDf (by omega)
       obtain rfl:j=na:=by omega
       have HT1:Hid ((A.take j).contains t=true):=zN (by
        rw[List.take_of_length_le (by rw[HAl.out];exact Nat.le_refl _),List.contains_eq_mem]
        exact zDt HME.out)
       rw[HT1.out]
       have HBZ:=zN (HB15.out.trans (HBJ.out.mono HB15.out.size))
       go_wp2
       go_roundw
       case rel=>exact⟨k+1,by omega,by go_num,HBZ⟩
       case measure=>simp[intOf]<;>omega
    ·have hdk:decide ((k:Int) < (nb:Int))=false:=zDf (by omega)
     have HS12:=zN (HS11.out.below HBK.out)
     clear HS11 HFA11 HFB HSUB HA9 HB99 HBl HAl HBK
     generalize wr=w12 at *
     obtain⟨i12,hS12⟩:=HS12.out.s
     go_wp2_with fail
     refine (srcRange_any w12 g b N i12 1 11 hS12 (by omega) (by omega) (by omega)).mono ?_
     rintro e w13 ⟨cd,rfl,hcd1,hcd2,hg13,hs13⟩
     have HS13:=zN (HS12.out.grown hg13 hs13 hg1 (by omega) (by omega) HGW.out)
     clear hg13 hs13 hS12 HS12
     have HB13:=zN HS13.out.bl
     have HC13:=zN HS13.out.atB
     have HRW13:=zN HS13.out.row
     obtain⟨px,cx,ex,_,hVX,_⟩:=HRW13.out.form
     rw[HXM.out] at ex
     injection ex with e1 _ e3
     subst e1 e3
     have HVX:=zN hVX
     have HFR:Hid (1≤kc.fr∧kc.fr≤8):=zN ⟨HKO.out.fr.1,by have:=HKO.out.fr.2;omega⟩
     have HX0:Hid (exE X=0):=zN (exE_all HFX.out)
     clear hVX
     go_wp2
     go_loopw [98] (fun v98 wr=>∃ i:Nat,i≤m∧v98=.int .i64 (i:Int)∧Hid (Below w13.heap.size w13 wr)) (fun v98 _=>m-(intOf v98).toNat)
     case atStart=>exact⟨0,by omega,rfl,zN (zBr _ _)⟩
     case round=>
      obtain⟨i,him,rfl,HBI⟩:=hrel
      by_cases hi:i < m
      ·have hdi:decide ((i:Int) < (m:Int))=true:=zDt (by omega)
       have hi0:(0:Int)≤(i:Int):=by omega
       have hi1:(i:Int) < (m:Int):=by omega
       have hiX:i < X.length:=by rw[HXM.out];exact hi
       have c38:=zP HBI.out HC13.out.c38
       have HB14:=zN (HB13.out.trans (HBI.out.mono HB13.out.size))
       have HNN:=zN (bnei_any p cp m X HXM.out (by omega) kc.fr (i:Int) cd wr (HT.out.below HB14.out) (HBN.out.below HB14.out) (HVX.out.below HBI.out))
       have HE0:Hid (neiE kc.fr X (i:Int)=0):=zN (neiE_0 HFR.out HX0.out (by omega))
       go_wp2_with fail
       refine HNN.out.mono ?_
       rintro e w15 ⟨v15,rfl,hq15,hb15⟩
       rw[HE0.out]
       obtain⟨pn,cn,rfl,hcn,hVN⟩:=hq15.rd
       rw[natI_len] at hcn ⊢
       have HB15:=zN (HBI.out.trans (hb15.mono HBI.out.size))
       have HVN:=zN hVN
       have HNL:Hid (∀ j:Nat,j∈neiL kc.fr X (i:Int) cd→j < X.length∧i∈neiL kc.fr X (j:Int) cd∧(bat X i).1.name≠(bat X j).1.name∧neiE kc.fr X (j:Int)=0):=zN (fun j hj=>neiL_symm HFR.out HX0.out hiX hj)
       have hl9:(neiL kc.fr X (i:Int) cd).length≤8:=Nat.le_trans neiL_len (by rw[HXM.out];exact hmN)
       obtain⟨A,hA⟩:∃ A,A=neiL kc.fr X (i:Int) cd:=⟨_,rfl⟩
       rw[←hA] at hl9 hcn HVN HNL ⊢
       obtain⟨ln,hln⟩:∃ ln,ln=A.length:=⟨_,rfl⟩
       rw[←hln] at hl9 hcn ⊢
       have HLN:=zN hln
       clear hq15 hb15 hVN hA hln HNN HE0 c38 HB14
       go_wp2
       go_loopw [114] (fun v114 wy=>∃ k:Nat,k≤ln∧v114=.int .i64 (k:Int)∧Hid (Below w15.heap.size w15 wy)) (fun v114 _=>ln-(intOf v114).toNat)
       case atStart=>exact⟨0,by omega,rfl,zN (zBr _ _)⟩
       case round=>
        obtain⟨k,hkn,rfl,HBK⟩:=hrel
        by_cases hk:k < ln
        ·have hdk:decide ((k:Int) < (ln:Int))=true:=zDt (by omega)
         have hk0:(0:Int)≤(k:Int):=by omega
         have hk1:(k:Int) < (ln:Int):=by omega
         have hkL:k < A.length:=by rw[←HLN.out];exact hk
         obtain⟨ob,oo,rfl,hobl,hoc⟩:=HVN.out.cell (by rw[natI_len];omega)
         have o1:=zP HBK.out (hoc k (by rw[natI_len];exact hkL))
         have eo:(natI A)[k]'(by rw[natI_len];exact hkL)=((A[k]:Nat):Int):=by simp[natI]
         rw[eo] at o1
         have HSY:=zN (HNL.out _ (List.getElem_mem hkL))
         obtain⟨j,hj⟩:∃ j,j=A[k]:=⟨_,rfl⟩
         rw[←hj] at o1 HSY
         have hjm:j < m:=by rw[←HXM.out];exact HSY.out.1
         have hj0:(0:Int)≤(j:Int):=by omega
         have hj1:(j:Int) < (m:Int):=by omega
         have hjX:j < X.length:=HSY.out.1
         have HB16:=zN (HB15.out.trans (HBK.out.mono HB15.out.size))
         have c38:=zP HB16.out HC13.out.c38
         have HB0:=zN (HB13.out.trans (HB16.out.mono HB13.out.size))
         have HNN:=zN (bnei_any p cp m X HXM.out (by omega) kc.fr (j:Int) cd wr (HT.out.below HB0.out) (HBN.out.below HB0.out) (HVX.out.below HB16.out))
         clear hoc eo hj hkL
         go_wp2_with fail
         refine HNN.out.mono ?_
         rintro e w16 ⟨v16,rfl,hq16,hb16⟩
         rw[HSY.out.2.2.2]
         have HRQ:=zN (hq16.rd.below (zBd (zBr _ w16)))
         have HIN:Hid (decide ((i:Int)∈natI (neiL kc.fr X (j:Int) cd))=true):=zN (zDt (List.mem_map.2 ⟨i,HSY.out.2.1,rfl⟩))
         have HLQ:Hid ((natI (neiL kc.fr X (j:Int) cd)).length≤1000000):=zN (by
          rw[natI_len]
          exact Nat.le_trans neiL_len (by rw[HXM.out];omega))
         have HBW:Hid (Below w15.heap.size w15 w16.drew):=zN ((HBK.out.trans (hb16.mono HBK.out.size)).drew)
         obtain⟨pbk,rfl,hpb1,hpb2⟩:=HPB.out (by omega)
         have hXr:=(HRW13.out.below (HB15.out.trans (HBW.out.mono HB15.out.size))).row
         have n0:=RepRow.cell8 hXr (i:=i) (c:=1) (by rw[List.length_map];exact hiX) (by omega) rfl
         have n1:=RepRow.cell8 hXr (i:=j) (c:=1) (by rw[List.length_map];exact hjX) (by omega) rfl
         simp only[List.getElem_map] at n0 n1
         rw[←bat_eq hiX] at n0
         rw[←bat_eq hjX] at n1
         have hne:((bat X i).1.name.toList == (bat X j).1.name.toList)=false:=(str_ne HSY.out.2.2.1).2
         obtain⟨na1,hna1⟩:∃ z,z=(bat X i).1.name:=⟨_,rfl⟩
         obtain⟨na2,hna2⟩:∃ z,z=(bat X j).1.name:=⟨_,rfl⟩
         rw[←hna1] at n0 hne
         rw[←hna2] at n1 hne
         clear hq16 hb16 hna1 hna2 hXr HSY HNN o1 c38 hjX
         go_upto_region 37 with fail
         refine RX.region RX.fN (fun w'=>w'=w16.drew) (by kernel_rfl) (by kernel_rfl) (rfl) (fun OPS HO QR hQR=>?_)
         repeat (refine zeX (fun R hR=>?_);(first|refine zaX (by first|rfl|(rw[HO.out];rfl)) (by simp only[zA,zB,zC,zD];rfl) ?_|refine zbX (by first|rfl|(rw[HO.out];rfl)) rfl (by first|exact .inl rfl|exact .inr rfl) (by simp only[zE,zF,zG,zH];rfl) (by simp only[zA,zB,zC,zD];rfl) ?_|refine zcX (by first|rfl|(rw[HO.out];rfl)) rfl rfl (by simp only[zE,zF,zG,zH];rfl) (by simp only[zA,zB,zC,zD];rfl) ?_|(refine zdX (by first|rfl|(rw[HO.out];rfl)) rfl rfl rfl ?_;apply zEx;apply zEx;refine⟨fun w' hS K hK=>?_,?_,?_⟩;(focus ((subst hS);go_wp2;exact hK _ _ (by simp only[zl,zG,zH];first|exact zf (by omega)|exact zg (by omega)|exact zh (by omega)|exact zi (by omega)|exact zj (by omega)|exact zk (by omega)|exact RX.bneB _|rfl) rfl));(focus (simp only[zA,zB,zC,zD];rfl))));refine hR _ _ ?_;clear hR R)
         refine zeX (fun R hR=>?_)
         refine zgX (by first|rfl|(rw[HO.out];rfl)) rfl (fun K hK=>?_)
         go_wp2_with fail
         refine (kin_anyW _ _ _ _ HRQ.out HLQ.out).mono ?_
         rintro e w17 ⟨rfl,rfl⟩
         rw[HIN.out]
         refine hK _ _ ⟨rfl,hR _ _ ?_⟩;clear hK K hR R
         repeat (refine zeX (fun R hR=>?_);(first|refine zaX (by first|rfl|(rw[HO.out];rfl)) (by simp only[zA,zB,zC,zD];rfl) ?_|refine zbX (by first|rfl|(rw[HO.out];rfl)) rfl (by first|exact .inl rfl|exact .inr rfl) (by simp only[zE,zF,zG,zH];rfl) (by simp only[zA,zB,zC,zD];rfl) ?_|refine zcX (by first|rfl|(rw[HO.out];rfl)) rfl rfl (by simp only[zE,zF,zG,zH];rfl) (by simp only[zA,zB,zC,zD];rfl) ?_|(refine zdX (by first|rfl|(rw[HO.out];rfl)) rfl rfl rfl ?_;apply zEx;apply zEx;refine⟨fun w' hS K hK=>?_,?_,?_⟩;(focus ((subst hS);go_wp2;exact hK _ _ (by simp only[zl,zG,zH];first|exact zf (by omega)|exact zg (by omega)|exact zh (by omega)|exact zi (by omega)|exact zj (by omega)|exact zk (by omega)|exact RX.bneB _|rfl) rfl));(focus (simp only[zA,zB,zC,zD];rfl))));refine hR _ _ ?_;clear hR R)
         refine RX.wpL_nil (hQR _ _ (rfl) ?_);clear hQR QR HO OPS
         clear n0 n1 hne
         go_wp2
         go_roundw
         case rel=>exact⟨k+1,by omega,by go_num,HBW⟩
         case measure=>simp[intOf]<;>omega
        ·have hdk:decide ((k:Int) < (ln:Int))=false:=zDf (by omega)
         have HBZ:=zN (HB15.out.trans (HBK.out.mono HB15.out.size))
         go_wp2
         go_roundw
         case rel=>exact⟨i+1,by omega,by go_num,HBZ⟩
         case measure=>simp[intOf]<;>omega
      ·have hdi:decide ((i:Int) < (m:Int))=false:=zDf (by omega)
       have HS14:=zN (HS13.out.below HBI.out)
       clear HS13 HBI HB13 HC13 HRW13 HVX
       obtain⟨i14,hS14⟩:=HS14.out.s
       generalize wr=w14 at *
       go_wp2_with fail
       refine (srcRange_any w14 g b N i14 0 1 hS14 (by omega) (by omega) (by omega)).mono ?_
       rintro e w15 ⟨nx,rfl,hnx1,hnx2,hg15,hs15⟩
       have HS15:=zN (HS14.out.grown hg15 hs15 hg1 (by omega) (by omega) HGW.out)
       clear hg15 hs15 hS14 HS14
       go_wp2_with fail
       refine (four_any _ w15.heap.size 4 4 [10100,10100,10100,10100] rfl (by omega) (fun j hj=>by
        match j,hj with
        |0,_=>exact (by simp[zO,zJ,zQ])
        |1,_=>exact (by simp[zO,zJ,zQ])
        |2,_=>exact (by simp[zO,zJ,zQ])
        |3,_=>exact (by simp[zO,zJ,zQ])
        |j+4,hj=>simp at hj<;>omega) (by simp)).mono ?_
       rintro e w17 ⟨v17,L4,rfl,hr17,hl17,hf17,hb17⟩
       have HB17:=zN (HS15.out.bl.trans ((((zBr w15.heap.size w15).alloc (Nat.le_refl _) _).trans (hb17.mono (by simp))).mono HS15.out.bl.size))
       obtain⟨p4,c4,rfl,hc4,hV4,_⟩:=hr17.form
       rw[hl17] at hc4 ⊢
       obtain⟨n,hn⟩:∃ n:Nat,nx+3=(n:Int):=⟨(nx+3).toNat,by omega⟩
       rw[hn]
       have hn3:3≤n:=by omega
       have hn4:n≤4:=by omega
       have HC17:=zN (HS15.out.atB.below (((zBr w15.heap.size w15).alloc (Nat.le_refl _) _).trans (hb17.mono (by simp))))
       have hC17:=HC17.out
       have HF4:=zN (four_same hl17 hf17 (n:=n))
       have HV4:=zN (hV4.take n)
       have HL4:Hid ((L4.take n).length=n):=zN (by rw[List.length_take,hl17];omega)
       obtain⟨Y,hY⟩:∃ Y,Y=L4.take n:=⟨_,rfl⟩
       rw[←hY] at HF4 HV4 HL4
       have HE4:=zN (chkE_ok HKO.out HF4.out.1)
       have HCK:=zN (bcheck_any p4 c4 n Y HL4.out (by omega) kc w17 (HT.out.below HB17.out) (HBN.out.below HB17.out) HV4.out)
       rw[HE4.out,chkL_same HKO.out HE4.out HF4.out.2] at HCK
       clear hr17 hf17 hb17 hV4 hY hl17 HS15 HC17
       go_wp2_with (first|(refine wpl_loadC (by rfl) (.tmp 5) (by rfl) RB kc (by rfl) hC17 ?_;refine Hid.out ?_))
       refine zN ?_
       go_wp2_with fail
       refine HCK.out.mono ?_
       rintro e w18 ⟨v18,rfl,hb18,hF18⟩
       obtain⟨ps,cs,rfl,hcs⟩:=hF18.slice
       have HB18:=zN (HB17.out.trans (hb18.mono HB17.out.size))
       rw[List.length_nil] at hcs ⊢
       clear hb18 hF18 HCK hC17
       go_wp2_with fail
       refine (awake18_any w18 (HT.out.below HB18.out) (HBN.out.below HB18.out)).mono ?_
       rintro e w20 ⟨rfl,hb20⟩
       have HB20:=zN (HB18.out.trans (hb20.mono HB18.out.size))
       clear hb20
       go_wp2
       go_ret
       exact⟨rfl,HB20.out⟩
end Go.Proofs.YtednaajanciabaaGreatDoor
