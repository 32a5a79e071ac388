import Derived.Test.YtednaajanciabaaGreatDoorKSrc
import Derived.Test.YtednaajanciabaaGreatDoorKRefA
import Derived.Deep.CutRange
import Derived.Deep.CutBlock
import Derived.Test.YtednaajanciabaaGreatDoorKRep
set_option maxRecDepth 100000
set_option maxHeartbeats 8000000
set_option linter.unusedSimpArgs false
set_option linter.unusedVariables false
namespace Go.Proofs.YtednaajanciabaaGreatDoor
open Go.RowKit Go.Grid
theorem pl_int {f a x:Int} (h1:0≤f) (h2:f < 20) (h3:0≤a) (h4:0≤x) (h5:a+x≤840):∃ p:Pl,p.Ok∧pv p=.agg #[.int .i64 f,.int .i64 a,.int .i64 x,.int .i64 (840-a-x)]:=by
 refine⟨⟨f.toNat,a.toNat,x.toNat,(840-a-x).toNat⟩,⟨by show f.toNat < 20;omega,by show a.toNat+x.toNat+(840-a-x).toNat=840;omega⟩,?_⟩
 show (.agg #[.int .i64 (f.toNat:Int),.int .i64 (a.toNat:Int),.int .i64 (x.toNat:Int),.int .i64 ((840-a-x).toNat:Int)]:Value)=_
 rw[Int.toNat_of_nonneg h1,Int.toNat_of_nonneg h3,Int.toNat_of_nonneg h4,Int.toNat_of_nonneg (by omega)]
theorem dplace_any (w:World) (g b n i:Nat) (h:SrcAt w g b n i) (hb0:0 < n→b < w.heap.size) :
  Calls Tryz.prog 31 #[.pointer (some ⟨g,0,none⟩)] w fun e w'=>∃ p:Pl,e=.returned (pv p)∧p.Ok∧w.grownBy w' (some g)∧∃ j,SrcAt w' g b n j:=by
 have hg:=h.lt
 go_enter Tryz.func31,Tryz.ntmps31
 go_wp2_with fail
 have hb1:Below w.heap.size w (w.alloc (.cells #[.int .i64 0,.int .i64 0,.int .i64 0,.int .i64 0] 41)):=(by repeat (first|(with_reducible first|assumption|exact zBr _ _|refine zBs ?_ (by first|omega|(simp<;>omega)) _|refine zBa ?_ (by first|omega|(simp<;>omega)) _|apply zBd)|assumption))
 have hR:=PlAt.new w 0 0 0 0
 have hG:=grw_below hb1 (some g)
 have h1:=h.below hb1
 clear h hb1
 generalize (w.alloc (.cells #[.int .i64 0,.int .i64 0,.int .i64 0,.int .i64 0] 41))=W0 at *
 obtain⟨R,hRe⟩:∃ R,R=w.heap.size:=⟨_,rfl⟩
 rw[←hRe] at hR ⊢
 have hRw:w.heap.size≤R:=by omega
 have hRg:R≠g:=by omega
 have hbR:0 < n→b≠R:=fun h0=>by have:=hb0 h0;omega
 clear hRe
 refine (srcN_any W0 g b n i 20 h1 (by omega) (by omega)).mono ?_
 rintro e w1 ⟨f,rfl,hf0,hf1,hg1,i1,h2⟩
 replace hR:=hR.grown hg1 hRg
 replace hG:=hG.trans hg1
 clear hg1 h1
 clear W0
 go_wp2_with fail
 refine (srcN_any w1 g b n i1 841 h2 (by omega) (by omega)).mono ?_
 rintro e w2 ⟨a,rfl,ha0,ha1,hg2,i2,h3⟩
 replace hR:=hR.grown hg2 hRg
 replace hG:=hG.trans hg2
 clear hg2 h2
 clear w1
 go_wp2_with fail
 have hb1:=(zBr w2.heap.size w2).alloc (Nat.le_refl _) (.cells #[.int .i64 f,.int .i64 a,.int .i64 0,.int .i64 0] 41)
 have hQ:=PlAt.new w2 f a 0 0
 have hRl:=hR.lt
 have hgl:=h3.lt
 have hGs:=hG.size
 replace hR:=hR.below hb1
 replace h3:=h3.below hb1
 replace hG:=grw_alloc hG (.cells #[.int .i64 f,.int .i64 a,.int .i64 0,.int .i64 0] 41)
 obtain⟨Q,hQe⟩:∃ Q,Q=w2.heap.size:=⟨_,rfl⟩
 rw[←hQe] at hQ ⊢
 have hQw:w.heap.size≤Q:=by omega
 have hQg:Q≠g:=by omega
 have hQR:Q≠R:=by omega
 have hRQ:R≠Q:=by omega
 have hbQ:0 < n→b≠Q:=fun h0=>by have:=hb0 h0;omega
 clear hb1 hQe hRl hgl hGs
 generalize (w2.alloc (.cells #[.int .i64 f,.int .i64 a,.int .i64 0,.int .i64 0] 41))=W3 at *
 clear w2
 refine (srcN_any W3 g b n i2 4 h3 (by omega) (by omega)).mono ?_
 rintro e w4 ⟨x4,rfl,hx0,hx1,hg4,i4,h4⟩
 replace hR:=hR.grown hg4 hRg
 replace hQ:=hQ.grown hg4 hQg
 replace hG:=hG.trans hg4
 clear hg4 h3
 clear W3
 go_upto_block 0 with fail
 go_cut [3] from 13 to 24 (fun v3 wx=>v3=.pointer (some ⟨Q,0,none⟩)∧∃ a' j,0≤a'∧a'≤840∧PlAt wx Q f a' 0 0∧PlAt wx R 0 0 0 0∧SrcAt wx g b n j∧w.grownBy wx (some g))
 case first=>
  by_cases hx4:x4=0
  ·subst hx4
   go_wp2_with fail
   refine (srcN_any w4 g b n i4 9 h4 (by omega) (by omega)).mono ?_
   rintro e w5 ⟨x9,rfl,h90,h91,hg5,i5,h5⟩
   replace hR:=hR.grown hg5 hRg
   replace hQ:=hQ.grown hg5 hQg
   replace hG:=hG.trans hg5
   clear hg5 h4
   have HQ:=zN hQ
   obtain⟨c0,c1,c2,c3,z0,z1,z2,z3⟩:=hQ
   go_wp2_with fail
   go_meet
   case rel=>exact⟨rfl,105*x9,i5,by omega,by omega,HQ.out.set1 _,hR.set hRQ,h5.other (Ne.symm hQg) hbQ,grw_set hG (.inr hQw)⟩
  ·by_cases hx5:x4=1
   ·subst hx5
    go_wp2_with fail
    refine (srcN_any w4 g b n i4 5 h4 (by omega) (by omega)).mono ?_
    rintro e w5 ⟨x9,rfl,h90,h91,hg5,i5,h5⟩
    replace hR:=hR.grown hg5 hRg
    replace hQ:=hQ.grown hg5 hQg
    replace hG:=hG.trans hg5
    clear hg5 h4
    have HQ:=zN hQ
    obtain⟨c0,c1,c2,c3,z0,z1,z2,z3⟩:=hQ
    go_wp2_with fail
    go_meet
    case rel=>exact⟨rfl,210*x9,i5,by omega,by omega,HQ.out.set1 _,hR.set hRQ,h5.other (Ne.symm hQg) hbQ,grw_set hG (.inr hQw)⟩
   ·have hb4:(x4 == 0)=false:=by rw[beq_eq_false_iff_ne];exact hx4
    have hb5:(x4 == 1)=false:=by rw[beq_eq_false_iff_ne];exact hx5
    go_wp2_with fail
    go_meet
    case rel=>exact⟨rfl,a,i4,by omega,by omega,hQ,hR,h4,hG⟩
 case rest=>
  clear hR hQ h4 hG
  obtain⟨rfl,a',j5,hA0,hA1,hQ,hR,h5,hG⟩:=hcut
  have HQ:=zN hQ
  have HR:=zN hR
  have HG:=zN hG
  obtain⟨c0,c1,c2,c3,z0,z1,z2,z3⟩:=hQ
  clear hR hG
  go_wp2_with fail
  refine (srcN_any _ g b n j5 (840-a'+1) h5 (by omega) (by omega)).mono ?_
  rintro e w6 ⟨x,rfl,hy0,hy1,hg6,i6,h6⟩
  have hQ6:=HQ.out.grown hg6 hQg
  have hR6:=HR.out.grown hg6 hRg
  have hG6:=HG.out.trans hg6
  clear hg6 HQ HR c0 c1 c2 c3 z0 z1 z2 z3 HG h5
  obtain⟨c0,c1,c2,c3,z0,z1,z2,z3⟩:=hQ6
  have HQ:Hid (PlAt w6 Q f a' 0 0):=zN ⟨c0,c1,c2,c3,z0,z1,z2,z3⟩
  have HR:=zN hR6
  clear hR6
  go_wp2_with fail
  have hQ7:=HQ.out.set2 x
  have hR7:PlAt (w6.setCell ⟨Q,2,none⟩ (.int .i64 x)) R 0 0 0 0:=HR.out.set hRQ
  have h7:SrcAt (w6.setCell ⟨Q,2,none⟩ (.int .i64 x)) g b n i6:=h6.other (Ne.symm hQg) hbQ
  have hG7:w.grownBy (w6.setCell ⟨Q,2,none⟩ (.int .i64 x)) (some g):=grw_set hG6 (.inr hQw)
  clear c0 c1 c2 c3 z0 z1 z2 z3 HQ HR h6 hG6
  generalize (w6.setCell ⟨Q,2,none⟩ (.int .i64 x))=W7 at *
  clear w6
  refine (srcN_any W7 g b n i6 3 h7 (by omega) (by omega)).mono ?_
  rintro e w8 ⟨y,rfl,hv0,hv1,hg8,i8,h8⟩
  have hQ8:=hQ7.grown hg8 hQg
  have hR8:=hR7.grown hg8 hRg
  have hG8:=hG7.trans hg8
  clear hg8 hQ7 hR7 hG7 h7
  clear W7
  go_upto_if 34 with fail
  go_cut [3] from 34 to 41 (fun v3 wx=>v3=.pointer (some ⟨Q,0,none⟩)∧∃ x',0≤x'∧a'+x'≤840∧PlAt wx Q f a' x' 0∧PlAt wx R 0 0 0 0∧SrcAt wx g b n i8∧w.grownBy wx (some g))
  case first=>
   by_cases hy:y=0
   ·subst hy
    have hmod:x.tmod 105=x % 105:=Int.tmod_eq_emod_of_nonneg hy0
    obtain⟨u,hu⟩:∃ u,x-x % 105=u:=⟨_,rfl⟩
    have hu0:0≤u:=by omega
    have hux:u≤x:=by omega
    have HQ:=zN hQ8
    obtain⟨c0,c1,c2,c3,z0,z1,z2,z3⟩:=hQ8
    go_wp2_with fail
    go_meet
    case rel=>exact⟨rfl,u,hu0,by omega,HQ.out.set2 _,hR8.set hRQ,h8.other (Ne.symm hQg) hbQ,grw_set hG8 (.inr hQw)⟩
   ·have hb4:(y == 0)=false:=by rw[beq_eq_false_iff_ne];exact hy
    go_wp2_with fail
    go_meet
    case rel=>exact⟨rfl,x,hy0,by omega,hQ8,hR8,h8,hG8⟩
  case rest=>
   clear hR8 hQ8 h8 hG8
   obtain⟨rfl,z,hz0,hz1,hQ,hR,h5,hG⟩:=hcut
   have HQ:=zN hQ
   have HR:=zN hR
   have HG:=zN hG
   have H5:=zN h5
   obtain⟨c0,c1,c2,c3,z0,z1,z2,z3⟩:=hQ
   obtain⟨p,hp,hpv⟩:=pl_int hf0 (by omega) hA0 hz0 hz1
   have HP:=zN hp
   have HPV:=zN hpv
   clear hR hG h5 hp hpv
   go_wp2_with fail
   rw[←HPV.out]
   have hG1:w.grownBy (wc.setCell ⟨Q,3,none⟩ (.int .i64 (840-a'-z))) (some g):=grw_set HG.out (.inr hQw)
   have hS1:SrcAt (wc.setCell ⟨Q,3,none⟩ (.int .i64 (840-a'-z))) g b n i8:=H5.out.other (Ne.symm hQg) hbQ
   have hR1:PlAt (wc.setCell ⟨Q,3,none⟩ (.int .i64 (840-a'-z))) R 0 0 0 0:=HR.out.set hRQ
   clear c0 c1 c2 c3 z0 z1 z2 z3 HQ HR HG H5
   generalize (wc.setCell ⟨Q,3,none⟩ (.int .i64 (840-a'-z)))=W9 at *
   refine (rnormal_any p HP.out _).mono ?_
   rintro e w9 ⟨rfl,hb9⟩
   have hq:Hid (pv (normal p)=.agg #[.int .i64 (normal p).f,.int .i64 (normal p).a,.int .i64 (normal p).b,.int .i64 (normal p).c]):=zN rfl
   have HO:=zN (normal_ok HP.out)
   generalize normal p=q at *
   have hG2:=hG1.trans (grw_below hb9 (some g))
   have hS2:=hS1.below hb9
   have hR2:=hR1.below hb9
   clear hG1 hS1 hR1 hb9
   clear W9
   rw[hq.out]
   have HG:=zN hG2
   have HS:=zN hS2
   have HR:=zN hR2
   obtain⟨c0,c1,c2,c3,z0,z1,z2,z3⟩:=hR2
   have hRl:=HR.out.lt
   have hsz:=hG2.size
   clear hG2 hS2
   go_wp2
   have hS4:=(((HS.out.other (Ne.symm hRg) hbR (j:=0) (v:=.int .i64 (q.f:Int))).other (Ne.symm hRg) hbR (j:=1) (v:=.int .i64 (q.a:Int))).other (Ne.symm hRg) hbR (j:=2) (v:=.int .i64 (q.b:Int))).other (Ne.symm hRg) hbR (j:=3) (v:=.int .i64 (q.c:Int))
   have hG4:=grw_set (k:=R) (i:=3) (v:=.int .i64 (q.c:Int)) (grw_set (k:=R) (i:=2) (v:=.int .i64 (q.b:Int)) (grw_set (k:=R) (i:=1) (v:=.int .i64 (q.a:Int)) (grw_set (k:=R) (i:=0) (v:=.int .i64 (q.f:Int)) HG.out (.inr hRw)) (.inr hRw)) (.inr hRw)) (.inr hRw)
   have hR4:=(((HR.out.set0 (q.f:Int)).set1 (q.a:Int)).set2 (q.b:Int)).set3 (q.c:Int)
   generalize ((((w9.setCell ⟨R,0,none⟩ (.int .i64 (q.f:Int))).setCell ⟨R,1,none⟩ (.int .i64 (q.a:Int))).setCell ⟨R,2,none⟩ (.int .i64 (q.b:Int))).setCell ⟨R,3,none⟩ (.int .i64 (q.c:Int)))=W at *
   have hba:=(zBr W.heap.size W).alloc (Nat.le_refl _) (.cells #[.int .i64 (q.f:Int),.int .i64 (q.a:Int),.int .i64 (q.b:Int),.int .i64 (q.c:Int)] 41)
   refine bodyPost_ret (v:=.agg #[.int .i64 (q.f:Int),.int .i64 (q.a:Int),.int .i64 (q.b:Int),.int .i64 (q.c:Int)]) ?_ rfl ⟨q,by rw[hq.out],HO.out,grw_alloc hG4 _,i8,hS4.below hba⟩
   obtain⟨e0,e1,e2,e3,_,_,_,_⟩:=hR4.below hba
   generalize W.alloc (.cells #[.int .i64 (q.f:Int),.int .i64 (q.a:Int),.int .i64 (q.b:Int),.int .i64 (q.c:Int)] 41)=W' at e0 e1 e2 e3 ⊢
   simp[results,Tryz.results31,go_sem,e0,e1,e2,e3]
def dStr:ByteArray:={ data:=#[68,69,76,84,65] }
def eStr:ByteArray:={ data:=#[69,67,72,79,55] }
def RepRow (w:World) (base:Nat) (v:Value) (L:List Rep):Prop:=w.ownsRow base 44 8 v L.length (L.flatMap rpc)
theorem elRep:RX.ElemOf Tryz.prog 25 44 (.agg #[.int .i64 0,.string { data:=#[] },.int .i64 0,.int .i64 0,.int .i64 0,.int .i64 0,.int .i64 0,.slice none 0 0]) 8 88:=⟨Tryz.underlying25,by kernel_rfl,rfl,by decide⟩
theorem RepRow.nil (w:World) (base:Nat):RepRow w base (.slice none 0 0) []:=World.ownsRow_nil _ _ _ _
theorem RepRow.snoc {w:World} {base:Nat} {v:Value} {L:List Rep} {r:Rep} (h:w.ownsRow base 44 8 v (L.length+1) (L.flatMap rpc ++ rpc r)):RepRow w base v (L ++ [r]):=by
 unfold RepRow
 rw[List.flatMap_append,List.length_append]
 simpa using h
theorem rps_len (L:List Rep):(L.flatMap rpc).length=L.length*8:=by
 induction L with
 |nil=>rfl
 |cons p L ih=>simp only[List.flatMap_cons,List.length_append,List.length_cons] at ih ⊢;rw[ih];simp[rpc];omega
theorem rps_get:∀ (L:List Rep) (m:Nat) (h:m < L.length) (j:Nat),j < 8→(L.flatMap rpc)[m*8+j]?=(rpc L[m])[j]?
 |p :: L,0,h,j,hj=>by
  simp only[List.flatMap_cons,Nat.zero_mul,Nat.zero_add]
  rw[List.getElem?_append_left (by simp[rpc];omega)];rfl
 |p :: L,m+1,h,j,hj=>by
  have ih:=rps_get L m (by simpa using h) j hj
  simp only[List.flatMap_cons] at ih ⊢
  rw[List.getElem?_append_right (by simp[rpc];omega),show (m+1)*8+j-(rpc p).length=m*8+j by simp[rpc];omega,ih];rfl
theorem RepRow.form {w:World} {base:Nat} {v:Value} {L:List Rep} (h:RepRow w base v L) (hr:∀ r∈L,RdOk r):∃ p cap,v=.slice p L.length cap∧L.length≤cap∧VecR w p L∧(0 < L.length→∃ b,p=some ⟨b,0,none⟩∧base≤b∧b < w.heap.size):=by
 rcases Nat.eq_zero_or_pos L.length with h0|h0
 ·obtain⟨p,cap,rfl,hc⟩:=own_slice h
  obtain rfl:=List.length_eq_zero_iff.1 h0
  exact⟨p,cap,rfl,hc,VecR.nil _ _,fun h=>absurd h (by simp)⟩
 ·obtain⟨g,cap,cur,rfl,hc,hb,hg⟩:∃ g cap cur,v=.slice (some ⟨g,0,none⟩) L.length cap∧L.length≤cap∧base≤g∧w.heap[g]?=some (.cells cur 44 (0,0)):=by
   rcases h.2 with ⟨_,h2⟩|⟨g,cap,cur,h1,h2,h3,h4,_⟩
   ·omega
   ·exact⟨g,cap,cur,h1,h4,h2,h3⟩
  refine⟨_,cap,rfl,hc,⟨g,0,fun _=>rfl,fun m hm=>?_⟩,fun _=>⟨g,rfl,hb,(World.ownsRow.lt h g rfl).2⟩⟩
  have key:∀ i,i < 8→w.cell? ⟨g,0+m*8+i,none⟩=(rpc L[m])[i]?:=fun i hi=>by
   rw[Nat.zero_add,World.ownsRow.cellAt h (m*8+i) (by omega),←rps_get L m hm i hi]
  exact⟨key 0 (by omega),key 1 (by omega),key 2 (by omega),key 3 (by omega),key 4 (by omega),key 5 (by omega),key 6 (by omega),key 7 (by omega),hr _ (List.getElem_mem hm)⟩
structure RptW (w:World) (g:Nat) (r:Rep):Prop where
 c0:w.cell? ⟨g,0,none⟩=some (.int .i64 r.kind)
 c1:w.cell? ⟨g,1,none⟩=some (.string r.name)
 c2:w.cell? ⟨g,2,none⟩=some (.int .i64 r.time)
 c3:w.cell? ⟨g,3,none⟩=some (.int .i64 r.f)
 c4:w.cell? ⟨g,4,none⟩=some (.int .i64 r.a)
 c5:w.cell? ⟨g,5,none⟩=some (.int .i64 r.b)
 c6:w.cell? ⟨g,6,none⟩=some (.int .i64 r.c)
 c7:w.cell? ⟨g,7,none⟩=some r.rd
 z:∀ k,w.frozen? ⟨g,k,none⟩=false
theorem RptW.block {w w':World} {g:Nat} {r:Rep} (h:RptW w g r) (hb:w'.heap[g]?=w.heap[g]?):RptW w' g r:=
 ⟨(World.cell?_of_block hb).trans h.c0,(World.cell?_of_block hb).trans h.c1,(World.cell?_of_block hb).trans h.c2,(World.cell?_of_block hb).trans h.c3,(World.cell?_of_block hb).trans h.c4,(World.cell?_of_block hb).trans h.c5,(World.cell?_of_block hb).trans h.c6,(World.cell?_of_block hb).trans h.c7,fun k=>(zFb hb).trans (h.z k)⟩
theorem RptW.lt {w:World} {g:Nat} {r:Rep} (h:RptW w g r):g < w.heap.size:=zM _ _ h.c0
theorem RptW.below {w w':World} {g:Nat} {r:Rep} (h:RptW w g r) (hb:Below w.heap.size w w'):RptW w' g r:=h.block (hb.block _ h.lt)
theorem RptW.grown {w w':World} {g k:Nat} {r:Rep} (h:RptW w g r) (hb:w.grownBy w' (some k)) (hne:g≠k):RptW w' g r:=h.block (hb.block _ h.lt (by simpa using hne))
theorem RptW.set {w:World} {g k i:Nat} {v:Value} {r:Rep} (h:RptW w g r) (hne:g≠k):RptW (w.setCell ⟨k,i,none⟩ v) g r:=h.block (Below.heap_setCell _ _ _ g hne)
theorem RptW.new (w:World) (r:Rep):RptW (w.alloc (.cells #[.int .i64 r.kind,.string r.name,.int .i64 r.time,.int .i64 r.f,.int .i64 r.a,.int .i64 r.b,.int .i64 r.c,r.rd] 44)) w.heap.size r:=
 ⟨(by simp[zO,zJ,zQ]),(by simp[zO,zJ,zQ]),(by simp[zO,zJ,zQ]),(by simp[zO,zJ,zQ]),(by simp[zO,zJ,zQ]),(by simp[zO,zJ,zQ]),(by simp[zO,zJ,zQ]),(by simp[zO,zJ,zQ]),fun k=>by simp[RX.frozen_alloc]⟩
theorem RptW.set0 {w:World} {g:Nat} {r:Rep} (h:RptW w g r) (x:Int):RptW (w.setCell ⟨g,0,none⟩ (.int .i64 x)) g { r with kind:=x }:=
 ⟨zL _ _ _ (by rw[h.c0];rfl),(zK _ _ _ _ (by simp)).trans h.c1,(zK _ _ _ _ (by simp)).trans h.c2,(zK _ _ _ _ (by simp)).trans h.c3,(zK _ _ _ _ (by simp)).trans h.c4,(zK _ _ _ _ (by simp)).trans h.c5,(zK _ _ _ _ (by simp)).trans h.c6,(zK _ _ _ _ (by simp)).trans h.c7,fun k=>by rw[World.frozen?_setCell];exact h.z k⟩
theorem RptW.set1 {w:World} {g:Nat} {r:Rep} (h:RptW w g r) (x:ByteArray):RptW (w.setCell ⟨g,1,none⟩ (.string x)) g { r with name:=x }:=
 ⟨(zK _ _ _ _ (by simp)).trans h.c0,zL _ _ _ (by rw[h.c1];rfl),(zK _ _ _ _ (by simp)).trans h.c2,(zK _ _ _ _ (by simp)).trans h.c3,(zK _ _ _ _ (by simp)).trans h.c4,(zK _ _ _ _ (by simp)).trans h.c5,(zK _ _ _ _ (by simp)).trans h.c6,(zK _ _ _ _ (by simp)).trans h.c7,fun k=>by rw[World.frozen?_setCell];exact h.z k⟩
theorem RptW.set2 {w:World} {g:Nat} {r:Rep} (h:RptW w g r) (x:Int):RptW (w.setCell ⟨g,2,none⟩ (.int .i64 x)) g { r with time:=x }:=
 ⟨(zK _ _ _ _ (by simp)).trans h.c0,(zK _ _ _ _ (by simp)).trans h.c1,zL _ _ _ (by rw[h.c2];rfl),(zK _ _ _ _ (by simp)).trans h.c3,(zK _ _ _ _ (by simp)).trans h.c4,(zK _ _ _ _ (by simp)).trans h.c5,(zK _ _ _ _ (by simp)).trans h.c6,(zK _ _ _ _ (by simp)).trans h.c7,fun k=>by rw[World.frozen?_setCell];exact h.z k⟩
theorem RptW.set3 {w:World} {g:Nat} {r:Rep} (h:RptW w g r) (x:Int):RptW (w.setCell ⟨g,3,none⟩ (.int .i64 x)) g { r with f:=x }:=
 ⟨(zK _ _ _ _ (by simp)).trans h.c0,(zK _ _ _ _ (by simp)).trans h.c1,(zK _ _ _ _ (by simp)).trans h.c2,zL _ _ _ (by rw[h.c3];rfl),(zK _ _ _ _ (by simp)).trans h.c4,(zK _ _ _ _ (by simp)).trans h.c5,(zK _ _ _ _ (by simp)).trans h.c6,(zK _ _ _ _ (by simp)).trans h.c7,fun k=>by rw[World.frozen?_setCell];exact h.z k⟩
theorem RptW.set4 {w:World} {g:Nat} {r:Rep} (h:RptW w g r) (x:Int):RptW (w.setCell ⟨g,4,none⟩ (.int .i64 x)) g { r with a:=x }:=
 ⟨(zK _ _ _ _ (by simp)).trans h.c0,(zK _ _ _ _ (by simp)).trans h.c1,(zK _ _ _ _ (by simp)).trans h.c2,(zK _ _ _ _ (by simp)).trans h.c3,zL _ _ _ (by rw[h.c4];rfl),(zK _ _ _ _ (by simp)).trans h.c5,(zK _ _ _ _ (by simp)).trans h.c6,(zK _ _ _ _ (by simp)).trans h.c7,fun k=>by rw[World.frozen?_setCell];exact h.z k⟩
theorem RptW.set5 {w:World} {g:Nat} {r:Rep} (h:RptW w g r) (x:Int):RptW (w.setCell ⟨g,5,none⟩ (.int .i64 x)) g { r with b:=x }:=
 ⟨(zK _ _ _ _ (by simp)).trans h.c0,(zK _ _ _ _ (by simp)).trans h.c1,(zK _ _ _ _ (by simp)).trans h.c2,(zK _ _ _ _ (by simp)).trans h.c3,(zK _ _ _ _ (by simp)).trans h.c4,zL _ _ _ (by rw[h.c5];rfl),(zK _ _ _ _ (by simp)).trans h.c6,(zK _ _ _ _ (by simp)).trans h.c7,fun k=>by rw[World.frozen?_setCell];exact h.z k⟩
theorem RptW.set6 {w:World} {g:Nat} {r:Rep} (h:RptW w g r) (x:Int):RptW (w.setCell ⟨g,6,none⟩ (.int .i64 x)) g { r with c:=x }:=
 ⟨(zK _ _ _ _ (by simp)).trans h.c0,(zK _ _ _ _ (by simp)).trans h.c1,(zK _ _ _ _ (by simp)).trans h.c2,(zK _ _ _ _ (by simp)).trans h.c3,(zK _ _ _ _ (by simp)).trans h.c4,(zK _ _ _ _ (by simp)).trans h.c5,zL _ _ _ (by rw[h.c6];rfl),(zK _ _ _ _ (by simp)).trans h.c7,fun k=>by rw[World.frozen?_setCell];exact h.z k⟩
theorem RptW.set7 {w:World} {g:Nat} {r:Rep} (h:RptW w g r) (x:Value):RptW (w.setCell ⟨g,7,none⟩ x) g { r with rd:=x }:=
 ⟨(zK _ _ _ _ (by simp)).trans h.c0,(zK _ _ _ _ (by simp)).trans h.c1,(zK _ _ _ _ (by simp)).trans h.c2,(zK _ _ _ _ (by simp)).trans h.c3,(zK _ _ _ _ (by simp)).trans h.c4,(zK _ _ _ _ (by simp)).trans h.c5,(zK _ _ _ _ (by simp)).trans h.c6,zL _ _ _ (by rw[h.c7];rfl),fun k=>by rw[World.frozen?_setCell];exact h.z k⟩
theorem RptW.set8 {w:World} {g:Nat} {r:Rep} (h:RptW w g r) (kd:Int) (nm:ByteArray) (t f a b c:Int) (rd:Value):RptW ((((((((w.setCell ⟨g,0,none⟩ (.int .i64 kd)).setCell ⟨g,1,none⟩ (.string nm)).setCell ⟨g,2,none⟩ (.int .i64 t)).setCell ⟨g,3,none⟩ (.int .i64 f)).setCell ⟨g,4,none⟩ (.int .i64 a)).setCell ⟨g,5,none⟩ (.int .i64 b)).setCell ⟨g,6,none⟩ (.int .i64 c)).setCell ⟨g,7,none⟩ rd) g ⟨kd,nm,t,f,a,b,c,rd⟩:=
 ((((((((h.set0 kd).set1 nm).set2 t).set3 f).set4 a).set5 b).set6 c).set7 rd)
def repAt (t:Int) (p:Pl):Rep:=⟨2,dStr,t,p.f,p.a,p.b,p.c,.slice none 0 0⟩
structure RpOk (one:Bool) (r:Rep):Prop where
 rd:r.rd=.slice none 0 0
 nm:r.name=dStr∨r.name=eStr
 kind:1≤r.kind∧r.kind≤3
 time:14000000≤r.time∧r.time≤14010000
 pl:∃ p:Pl,p.Ok∧r.f=p.f∧(r.a=p.a∨r.a=p.a+1)∧r.b=p.b∧r.c=p.c
 one:one=true→r.kind=2∧r.name=dStr∧∃ p:Pl,p.Ok∧r.f=p.f∧r.a=p.a∧r.b=p.b∧r.c=p.c
theorem own_gr {w w':World} {base g:Nat} {e:TypeId} {size:Nat} {v:Value} {n:Nat} {xs:List Value} (h:w.ownsRow base e size v n xs) (hg:w.grownBy w' (some g)) (hl:g < base):w'.ownsRow base e size v n xs:=
 h.kept hg (by
  cases hv:v.ownBlock with
  |none=>exact .inl rfl
  |some k=>exact .inr (fun e=>by have:=(World.ownsRow.lt h k hv).1;injection e with e;omega))
theorem own_bl {w w':World} {base:Nat} {e:TypeId} {size:Nat} {v:Value} {n:Nat} {xs:List Value} (h:w.ownsRow base e size v n xs) (hb:Below w.heap.size w w'):w'.ownsRow base e size v n xs:=
 World.ownsRow.kept (row:=none) h ⟨hb.os,hb.tape,hb.output,hb.size,fun k hk _=>hb.block k hk⟩ (by
  cases v.ownBlock with
  |none=>exact .inl rfl
  |some k=>exact .inr (by simp))
theorem RepRow.gr {w w':World} {base g:Nat} {v:Value} {L:List Rep} (h:RepRow w base v L) (hg:w.grownBy w' (some g)) (hl:g < base):RepRow w' base v L:=own_gr h hg hl
theorem RepRow.bl {w w':World} {base:Nat} {v:Value} {L:List Rep} (h:RepRow w base v L) (hb:Below w.heap.size w w'):RepRow w' base v L:=own_bl h hb
structure GS (w wr:World) (g b n Q:Nat) (v:Value) (L:List Rep) (p:Pl):Prop where
 q:PlAt wr Q p.f p.a p.b p.c
 ok:p.Ok
 row:RepRow wr (Q+1) v L
 gr:w.grownBy wr (some g)
 s:∃ j,SrcAt wr g b n j
 sz:Q+1≤wr.heap.size
 gq:g < Q
 bq:0 < n→b < Q
 wq:w.heap.size≤Q
theorem GS.grown {w wr w':World} {g b n Q:Nat} {v:Value} {L:List Rep} {p:Pl} (h:GS w wr g b n Q v L p) (hg:wr.grownBy w' (some g)) (hs:∃ j,SrcAt w' g b n j):GS w w' g b n Q v L p:=
 ⟨h.q.grown hg (by have:=h.gq;omega),h.ok,h.row.gr hg (by have:=h.gq;omega),h.gr.trans hg,hs,Nat.le_trans h.sz hg.size,h.gq,h.bq,h.wq⟩
theorem GS.below {w wr w':World} {g b n Q:Nat} {v:Value} {L:List Rep} {p:Pl} (h:GS w wr g b n Q v L p) (hb:Below wr.heap.size wr w'):GS w w' g b n Q v L p:=by
 obtain⟨j,hj⟩:=h.s
 exact⟨h.q.below hb,h.ok,h.row.bl hb,h.gr.trans (grw_below hb (some g)),⟨j,hj.below hb⟩,Nat.le_trans h.sz hb.size,h.gq,h.bq,h.wq⟩
theorem GS.store {w wr:World} {g b n Q:Nat} {v:Value} {L:List Rep} {p:Pl} (h:GS w wr g b n Q v L p) (q:Pl) (hq:q.Ok) :
  GS w ((((wr.setCell ⟨Q,0,none⟩ (.int .i64 q.f)).setCell ⟨Q,1,none⟩ (.int .i64 q.a)).setCell ⟨Q,2,none⟩ (.int .i64 q.b)).setCell ⟨Q,3,none⟩ (.int .i64 q.c)) g b n Q v L q:=by
 have h1:=h.gq
 have h2:=h.bq
 have h3:=h.wq
 obtain⟨j,hj⟩:=h.s
 have hne:g≠Q:=by omega
 have hbn:0 < n→b≠Q:=fun h0=>by have:=h2 h0;omega
 refine⟨(((h.q.set0 _).set1 _).set2 _).set3 _,hq,?_,grw_set (grw_set (grw_set (grw_set h.gr (.inr h3)) (.inr h3)) (.inr h3)) (.inr h3),⟨j,(((hj.other hne hbn).other hne hbn).other hne hbn).other hne hbn⟩,by simpa using h.sz,h1,h2,h3⟩
 have hg:wr.grownBy ((((wr.setCell ⟨Q,0,none⟩ (.int .i64 q.f)).setCell ⟨Q,1,none⟩ (.int .i64 q.a)).setCell ⟨Q,2,none⟩ (.int .i64 q.b)).setCell ⟨Q,3,none⟩ (.int .i64 q.c)) (some Q):=grw_set (grw_set (grw_set (grw_set (grw_refl _ _) (.inl rfl)) (.inl rfl)) (.inl rfl)) (.inl rfl)
 exact h.row.gr hg (by omega)
theorem GS.other {w wr:World} {g b n Q B k:Nat} {v v':Value} {L:List Rep} {p:Pl} (h:GS w wr g b n Q v L p) (hB:Q+1≤B) (hb:0 < n→b≠B) (hv:∀ k,v.ownBlock=some k→k≠B):GS w (wr.setCell ⟨B,k,none⟩ v') g b n Q v L p:=by
 have h1:=h.gq
 have h3:=h.wq
 obtain⟨j,hj⟩:=h.s
 refine⟨h.q.set (by omega),h.ok,?_,grw_set h.gr (.inr (by omega)),⟨j,hj.other (by omega) hb⟩,by simpa using h.sz,h1,h.bq,h3⟩
 exact World.ownsRow.kept h.row (src_setCell wr B k v') (by
  cases ho:v.ownBlock with
  |none=>exact .inl rfl
  |some q=>exact .inr (fun e=>hv q ho (by injection e)))
end Go.Proofs.YtednaajanciabaaGreatDoor
