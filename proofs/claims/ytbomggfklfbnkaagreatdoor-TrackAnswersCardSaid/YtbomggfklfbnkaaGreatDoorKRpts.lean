import Derived.Test.YtbomggfklfbnkaaGreatDoorKSrc
import Derived.Test.YtbomggfklfbnkaaGreatDoorKRefA
import Derived.Deep.CutRange
import Derived.Deep.CutBlock
import Derived.Test.YtbomggfklfbnkaaGreatDoorKRep
set_option maxRecDepth 100000
set_option maxHeartbeats 8000000
set_option linter.unusedSimpArgs false
set_option linter.unusedVariables false
namespace Go.Proofs.YtbomggfklfbnkaaGreatDoor
open Go.RowKit Go.Grid
theorem pl_int {f a x:Int} (h1:0≤f) (h2:f < 20) (h3:0≤a) (h4:0≤x) (h5:a+x≤840):∃ p:Pl,p.Ok∧pv p=.agg #[.int .i64 f,.int .i64 a,.int .i64 x,.int .i64 (840-a-x)]:=by
 refine⟨⟨f.toNat,a.toNat,x.toNat,(840-a-x).toNat⟩,⟨by show f.toNat < 20;omega,by show a.toNat+x.toNat+(840-a-x).toNat=840;omega⟩,?_⟩
 show (.agg #[.int .i64 (f.toNat:Int),.int .i64 (a.toNat:Int),.int .i64 (x.toNat:Int),.int .i64 ((840-a-x).toNat:Int)]:Value)=_
 rw[Int.toNat_of_nonneg h1,Int.toNat_of_nonneg h3,Int.toNat_of_nonneg h4,Int.toNat_of_nonneg (by omega)]
theorem dplace_any (w:World) (g b n i:Nat) (h:SrcAt w g b n i) (hb0:0 < n→b < w.heap.size) :
  Calls Tryz.prog 29 #[.pointer (some ⟨g,0,none⟩)] w fun e w'=>∃ p:Pl,e=.returned (pv p)∧p.Ok∧w.grownBy w' (some g)∧∃ j,SrcAt w' g b n j:=by
 have hg:=h.lt
 go_enter Tryz.func29,Tryz.ntmps29
 go_wp2_with fail
 have hb1:Below w.heap.size w (w.alloc (.cells #[.int .i64 0,.int .i64 0,.int .i64 0,.int .i64 0] 32)):=(by repeat (first|(with_reducible first|assumption|exact zBr _ _|refine zBs ?_ (by first|omega|(simp<;>omega)) _|refine zBa ?_ (by first|omega|(simp<;>omega)) _|apply zBd)|assumption))
 have hR:=PlAt.new w 0 0 0 0
 have hG:=grw_below hb1 (some g)
 have h1:=h.below hb1
 clear h hb1
 generalize (w.alloc (.cells #[.int .i64 0,.int .i64 0,.int .i64 0,.int .i64 0] 32))=W0 at *
 obtain⟨R,hRe⟩:∃ R,R=w.heap.size:=⟨_,rfl⟩
 rw[←hRe] at hR ⊢
 have hRw:w.heap.size≤R:=by omega
 have hRg:R≠g:=by omega
 have hbR:0 < n→b≠R:=fun h0=>by have:=hb0 h0;omega
 clear hRe
 refine (srcN_any W0 g b n i 20 h1 (by omega) (by omega)).mono ?_
 rintro e w1 ⟨f,rfl,hf0,hf1,hg1,i1,h2⟩
 replace hR:=hR.grown hg1 hRg
 replace hG:=hG.trans hg1
 clear hg1 h1
 clear W0
 go_wp2_with fail
 refine (srcN_any w1 g b n i1 841 h2 (by omega) (by omega)).mono ?_
 rintro e w2 ⟨a,rfl,ha0,ha1,hg2,i2,h3⟩
 replace hR:=hR.grown hg2 hRg
 replace hG:=hG.trans hg2
 clear hg2 h2
 clear w1
 go_wp2_with fail
 have hb1:=(zBr w2.heap.size w2).alloc (Nat.le_refl _) (.cells #[.int .i64 f,.int .i64 a,.int .i64 0,.int .i64 0] 32)
 have hQ:=PlAt.new w2 f a 0 0
 have hRl:=hR.lt
 have hgl:=h3.lt
 have hGs:=hG.size
 replace hR:=hR.below hb1
 replace h3:=h3.below hb1
 replace hG:=grw_alloc hG (.cells #[.int .i64 f,.int .i64 a,.int .i64 0,.int .i64 0] 32)
 obtain⟨Q,hQe⟩:∃ Q,Q=w2.heap.size:=⟨_,rfl⟩
 rw[←hQe] at hQ ⊢
 have hQw:w.heap.size≤Q:=by omega
 have hQg:Q≠g:=by omega
 have hQR:Q≠R:=by omega
 have hRQ:R≠Q:=by omega
 have hbQ:0 < n→b≠Q:=fun h0=>by have:=hb0 h0;omega
 clear hb1 hQe hRl hgl hGs
 generalize (w2.alloc (.cells #[.int .i64 f,.int .i64 a,.int .i64 0,.int .i64 0] 32))=W3 at *
 clear w2
 refine (srcN_any W3 g b n i2 4 h3 (by omega) (by omega)).mono ?_
 rintro e w4 ⟨x4,rfl,hx0,hx1,hg4,i4,h4⟩
 replace hR:=hR.grown hg4 hRg
 replace hQ:=hQ.grown hg4 hQg
 replace hG:=hG.trans hg4
 clear hg4 h3
 clear W3
 go_upto_block 0 with fail
 go_cut [3] from 13 to 24 (fun v3 wx=>v3=.pointer (some ⟨Q,0,none⟩)∧∃ a' j,0≤a'∧a'≤840∧PlAt wx Q f a' 0 0∧PlAt wx R 0 0 0 0∧SrcAt wx g b n j∧w.grownBy wx (some g))
 case first=>
  by_cases hx4:x4=0
  ·subst hx4
   go_wp2_with fail
   refine (srcN_any w4 g b n i4 9 h4 (by omega) (by omega)).mono ?_
   rintro e w5 ⟨x9,rfl,h90,h91,hg5,i5,h5⟩
   replace hR:=hR.grown hg5 hRg
   replace hQ:=hQ.grown hg5 hQg
   replace hG:=hG.trans hg5
   clear hg5 h4
   have HQ:=zN hQ
   obtain⟨c0,c1,c2,c3,z0,z1,z2,z3⟩:=hQ
   go_wp2_with fail
   go_meet
   case rel=>exact⟨rfl,105*x9,i5,by omega,by omega,HQ.out.set1 _,hR.set hRQ,h5.other (Ne.symm hQg) hbQ,grw_set hG (.inr hQw)⟩
  ·by_cases hx5:x4=1
   ·subst hx5
    go_wp2_with fail
    refine (srcN_any w4 g b n i4 5 h4 (by omega) (by omega)).mono ?_
    rintro e w5 ⟨x9,rfl,h90,h91,hg5,i5,h5⟩
    replace hR:=hR.grown hg5 hRg
    replace hQ:=hQ.grown hg5 hQg
    replace hG:=hG.trans hg5
    clear hg5 h4
    have HQ:=zN hQ
    obtain⟨c0,c1,c2,c3,z0,z1,z2,z3⟩:=hQ
    go_wp2_with fail
    go_meet
    case rel=>exact⟨rfl,210*x9,i5,by omega,by omega,HQ.out.set1 _,hR.set hRQ,h5.other (Ne.symm hQg) hbQ,grw_set hG (.inr hQw)⟩
   ·have hb4:(x4 == 0)=false:=by rw[beq_eq_false_iff_ne];exact hx4
    have hb5:(x4 == 1)=false:=by rw[beq_eq_false_iff_ne];exact hx5
    go_wp2_with fail
    go_meet
    case rel=>exact⟨rfl,a,i4,by omega,by omega,hQ,hR,h4,hG⟩
 case rest=>
  clear hR hQ h4 hG
  obtain⟨rfl,a',j5,hA0,hA1,hQ,hR,h5,hG⟩:=hcut
  have HQ:=zN hQ
  have HR:=zN hR
  have HG:=zN hG
  obtain⟨c0,c1,c2,c3,z0,z1,z2,z3⟩:=hQ
  clear hR hG
  go_wp2_with fail
  refine (srcN_any _ g b n j5 (840-a'+1) h5 (by omega) (by omega)).mono ?_
  rintro e w6 ⟨x,rfl,hy0,hy1,hg6,i6,h6⟩
  have hQ6:=HQ.out.grown hg6 hQg
  have hR6:=HR.out.grown hg6 hRg
  have hG6:=HG.out.trans hg6
  clear hg6 HQ HR c0 c1 c2 c3 z0 z1 z2 z3 HG h5
  obtain⟨c0,c1,c2,c3,z0,z1,z2,z3⟩:=hQ6
  have HQ:Hid (PlAt w6 Q f a' 0 0):=zN ⟨c0,c1,c2,c3,z0,z1,z2,z3⟩
  have HR:=zN hR6
  clear hR6
  go_wp2_with fail
  have hQ7:=HQ.out.set2 x
  have hR7:PlAt (w6.setCell ⟨Q,2,none⟩ (.int .i64 x)) R 0 0 0 0:=HR.out.set hRQ
  have h7:SrcAt (w6.setCell ⟨Q,2,none⟩ (.int .i64 x)) g b n i6:=h6.other (Ne.symm hQg) hbQ
  have hG7:w.grownBy (w6.setCell ⟨Q,2,none⟩ (.int .i64 x)) (some g):=grw_set hG6 (.inr hQw)
  clear c0 c1 c2 c3 z0 z1 z2 z3 HQ HR h6 hG6
  generalize (w6.setCell ⟨Q,2,none⟩ (.int .i64 x))=W7 at *
  clear w6
  refine (srcN_any W7 g b n i6 3 h7 (by omega) (by omega)).mono ?_
  rintro e w8 ⟨y,rfl,hv0,hv1,hg8,i8,h8⟩
  have hQ8:=hQ7.grown hg8 hQg
  have hR8:=hR7.grown hg8 hRg
  have hG8:=hG7.trans hg8
  clear hg8 hQ7 hR7 hG7 h7
  clear W7
  go_upto_if 34 with fail
  go_cut [3] from 34 to 41 (fun v3 wx=>v3=.pointer (some ⟨Q,0,none⟩)∧∃ x',0≤x'∧a'+x'≤840∧PlAt wx Q f a' x' 0∧PlAt wx R 0 0 0 0∧SrcAt wx g b n i8∧w.grownBy wx (some g))
  case first=>
   by_cases hy:y=0
   ·subst hy
    have hmod:x.tmod 105=x % 105:=Int.tmod_eq_emod_of_nonneg hy0
    obtain⟨u,hu⟩:∃ u,x-x % 105=u:=⟨_,rfl⟩
    have hu0:0≤u:=by omega
    have hux:u≤x:=by omega
    have HQ:=zN hQ8
    obtain⟨c0,c1,c2,c3,z0,z1,z2,z3⟩:=hQ8
    go_wp2_with fail
    go_meet
    case rel=>exact⟨rfl,u,hu0,by omega,HQ.out.set2 _,hR8.set hRQ,h8.other (Ne.symm hQg) hbQ,grw_set hG8 (.inr hQw)⟩
   ·have hb4:(y == 0)=false:=by rw[beq_eq_false_iff_ne];exact hy
    go_wp2_with fail
    go_meet
    case rel=>exact⟨rfl,x,hy0,by omega,hQ8,hR8,h8,hG8⟩
  case rest=>
   clear hR8 hQ8 h8 hG8
   obtain⟨rfl,z,hz0,hz1,hQ,hR,h5,hG⟩:=hcut
   have HQ:=zN hQ
   have HR:=zN hR
   have HG:=zN hG
   have H5:=zN h5
   obtain⟨c0,c1,c2,c3,z0,z1,z2,z3⟩:=hQ
   obtain⟨p,hp,hpv⟩:=pl_int hf0 (by omega) hA0 hz0 hz1
   have HP:=zN hp
   have HPV:=zN hpv
   clear hR hG h5 hp hpv
   go_wp2_with fail
   rw[←HPV.out]
   have hG1:w.grownBy (wc.setCell ⟨Q,3,none⟩ (.int .i64 (840-a'-z))) (some g):=grw_set HG.out (.inr hQw)
   have hS1:SrcAt (wc.setCell ⟨Q,3,none⟩ (.int .i64 (840-a'-z))) g b n i8:=H5.out.other (Ne.symm hQg) hbQ
   have hR1:PlAt (wc.setCell ⟨Q,3,none⟩ (.int .i64 (840-a'-z))) R 0 0 0 0:=HR.out.set hRQ
   clear c0 c1 c2 c3 z0 z1 z2 z3 HQ HR HG H5
   generalize (wc.setCell ⟨Q,3,none⟩ (.int .i64 (840-a'-z)))=W9 at *
   refine (rnormal_any p HP.out _).mono ?_
   rintro e w9 ⟨rfl,hb9⟩
   have hq:Hid (pv (normal p)=.agg #[.int .i64 (normal p).f,.int .i64 (normal p).a,.int .i64 (normal p).b,.int .i64 (normal p).c]):=zN rfl
   have HO:=zN (normal_ok HP.out)
   generalize normal p=q at *
   have hG2:=hG1.trans (grw_below hb9 (some g))
   have hS2:=hS1.below hb9
   have hR2:=hR1.below hb9
   clear hG1 hS1 hR1 hb9
   clear W9
   rw[hq.out]
   have HG:=zN hG2
   have HS:=zN hS2
   have HR:=zN hR2
   obtain⟨c0,c1,c2,c3,z0,z1,z2,z3⟩:=hR2
   have hRl:=HR.out.lt
   have hsz:=hG2.size
   clear hG2 hS2
   go_wp2
   have hS4:=(((HS.out.other (Ne.symm hRg) hbR (j:=0) (v:=.int .i64 (q.f:Int))).other (Ne.symm hRg) hbR (j:=1) (v:=.int .i64 (q.a:Int))).other (Ne.symm hRg) hbR (j:=2) (v:=.int .i64 (q.b:Int))).other (Ne.symm hRg) hbR (j:=3) (v:=.int .i64 (q.c:Int))
   have hG4:=grw_set (k:=R) (i:=3) (v:=.int .i64 (q.c:Int)) (grw_set (k:=R) (i:=2) (v:=.int .i64 (q.b:Int)) (grw_set (k:=R) (i:=1) (v:=.int .i64 (q.a:Int)) (grw_set (k:=R) (i:=0) (v:=.int .i64 (q.f:Int)) HG.out (.inr hRw)) (.inr hRw)) (.inr hRw)) (.inr hRw)
   have hR4:=(((HR.out.set0 (q.f:Int)).set1 (q.a:Int)).set2 (q.b:Int)).set3 (q.c:Int)
   generalize ((((w9.setCell ⟨R,0,none⟩ (.int .i64 (q.f:Int))).setCell ⟨R,1,none⟩ (.int .i64 (q.a:Int))).setCell ⟨R,2,none⟩ (.int .i64 (q.b:Int))).setCell ⟨R,3,none⟩ (.int .i64 (q.c:Int)))=W at *
   have hba:=(zBr W.heap.size W).alloc (Nat.le_refl _) (.cells #[.int .i64 (q.f:Int),.int .i64 (q.a:Int),.int .i64 (q.b:Int),.int .i64 (q.c:Int)] 32)
   refine bodyPost_ret (v:=.agg #[.int .i64 (q.f:Int),.int .i64 (q.a:Int),.int .i64 (q.b:Int),.int .i64 (q.c:Int)]) ?_ rfl ⟨q,by rw[hq.out],HO.out,grw_alloc hG4 _,i8,hS4.below hba⟩
   obtain⟨e0,e1,e2,e3,_,_,_,_⟩:=hR4.below hba
   generalize W.alloc (.cells #[.int .i64 (q.f:Int),.int .i64 (q.a:Int),.int .i64 (q.b:Int),.int .i64 (q.c:Int)] 32)=W' at e0 e1 e2 e3 ⊢
   simp[results,Tryz.results29,go_sem,e0,e1,e2,e3]
def dStr:ByteArray:={ data:=#[68,69,76,84,65] }
def eStr:ByteArray:={ data:=#[69,67,72,79,55] }
def RepRow (w:World) (base:Nat) (v:Value) (L:List Rep):Prop:=w.ownsRow base 35 8 v L.length (L.flatMap rpc)
theorem elRep:RX.ElemOf Tryz.prog 22 35 (.agg #[.int .i64 0,.string { data:=#[] },.int .i64 0,.int .i64 0,.int .i64 0,.int .i64 0,.int .i64 0,.slice none 0 0]) 8 88:=⟨Tryz.underlying22,by kernel_rfl,rfl,by decide⟩
theorem RepRow.nil (w:World) (base:Nat):RepRow w base (.slice none 0 0) []:=World.ownsRow_nil _ _ _ _
theorem RepRow.snoc {w:World} {base:Nat} {v:Value} {L:List Rep} {r:Rep} (h:w.ownsRow base 35 8 v (L.length+1) (L.flatMap rpc ++ rpc r)):RepRow w base v (L ++ [r]):=by
 unfold RepRow
 rw[List.flatMap_append,List.length_append]
 simpa using h
theorem rps_len (L:List Rep):(L.flatMap rpc).length=L.length*8:=by
 induction L with
 |nil=>rfl
 |cons p L ih=>simp only[List.flatMap_cons,List.length_append,List.length_cons] at ih ⊢;rw[ih];simp[rpc];omega
theorem rps_get:∀ (L:List Rep) (m:Nat) (h:m < L.length) (j:Nat),j < 8→(L.flatMap rpc)[m*8+j]?=(rpc L[m])[j]?
 |p :: L,0,h,j,hj=>by
  simp only[List.flatMap_cons,Nat.zero_mul,Nat.zero_add]
  rw[List.getElem?_append_left (by simp[rpc];omega)];rfl
 |p :: L,m+1,h,j,hj=>by
  have ih:=rps_get L m (by simpa using h) j hj
  simp only[List.flatMap_cons] at ih ⊢
  rw[List.getElem?_append_right (by simp[rpc];omega),show (m+1)*8+j-(rpc p).length=m*8+j by simp[rpc];omega,ih];rfl
theorem RepRow.form {w:World} {base:Nat} {v:Value} {L:List Rep} (h:RepRow w base v L) (hr:∀ r∈L,RdOk r):∃ p cap,v=.slice p L.length cap∧L.length≤cap∧VecR w p L∧(0 < L.length→∃ b,p=some ⟨b,0,none⟩∧base≤b∧b < w.heap.size):=by
 rcases Nat.eq_zero_or_pos L.length with h0|h0
 ·obtain⟨p,cap,rfl,hc⟩:=own_slice h
  obtain rfl:=List.length_eq_zero_iff.1 h0
  exact⟨p,cap,rfl,hc,VecR.nil _ _,fun h=>absurd h (by simp)⟩
 ·obtain⟨g,cap,cur,rfl,hc,hb,hg⟩:∃ g cap cur,v=.slice (some ⟨g,0,none⟩) L.length cap∧L.length≤cap∧base≤g∧w.heap[g]?=some (.cells cur 35 (0,0)):=by
   rcases h.2 with ⟨_,h2⟩|⟨g,cap,cur,h1,h2,h3,h4,_⟩
   ·omega
   ·exact⟨g,cap,cur,h1,h4,h2,h3⟩
  refine⟨_,cap,rfl,hc,⟨g,0,fun _=>rfl,fun m hm=>?_⟩,fun _=>⟨g,rfl,hb,(World.ownsRow.lt h g rfl).2⟩⟩
  have key:∀ i,i < 8→w.cell? ⟨g,0+m*8+i,none⟩=(rpc L[m])[i]?:=fun i hi=>by
   rw[Nat.zero_add,World.ownsRow.cellAt h (m*8+i) (by omega),←rps_get L m hm i hi]
  exact⟨key 0 (by omega),key 1 (by omega),key 2 (by omega),key 3 (by omega),key 4 (by omega),key 5 (by omega),key 6 (by omega),key 7 (by omega),hr _ (List.getElem_mem hm)⟩
structure RptW (w:World) (g:Nat) (r:Rep):Prop where
 c0:w.cell? ⟨g,0,none⟩=some (.int .i64 r.kind)
 c1:w.cell? ⟨g,1,none⟩=some (.string r.name)
 c2:w.cell? ⟨g,2,none⟩=some (.int .i64 r.time)
 c3:w.cell? ⟨g,3,none⟩=some (.int .i64 r.f)
 c4:w.cell? ⟨g,4,none⟩=some (.int .i64 r.a)
 c5:w.cell? ⟨g,5,none⟩=some (.int .i64 r.b)
 c6:w.cell? ⟨g,6,none⟩=some (.int .i64 r.c)
 c7:w.cell? ⟨g,7,none⟩=some r.rd
 z:∀ k,w.frozen? ⟨g,k,none⟩=false
theorem RptW.block {w w':World} {g:Nat} {r:Rep} (h:RptW w g r) (hb:w'.heap[g]?=w.heap[g]?):RptW w' g r:=
 ⟨(World.cell?_of_block hb).trans h.c0,(World.cell?_of_block hb).trans h.c1,(World.cell?_of_block hb).trans h.c2,(World.cell?_of_block hb).trans h.c3,(World.cell?_of_block hb).trans h.c4,(World.cell?_of_block hb).trans h.c5,(World.cell?_of_block hb).trans h.c6,(World.cell?_of_block hb).trans h.c7,fun k=>(zFb hb).trans (h.z k)⟩
theorem RptW.lt {w:World} {g:Nat} {r:Rep} (h:RptW w g r):g < w.heap.size:=zM _ _ h.c0
theorem RptW.below {w w':World} {g:Nat} {r:Rep} (h:RptW w g r) (hb:Below w.heap.size w w'):RptW w' g r:=h.block (hb.block _ h.lt)
theorem RptW.grown {w w':World} {g k:Nat} {r:Rep} (h:RptW w g r) (hb:w.grownBy w' (some k)) (hne:g≠k):RptW w' g r:=h.block (hb.block _ h.lt (by simpa using hne))
theorem RptW.set {w:World} {g k i:Nat} {v:Value} {r:Rep} (h:RptW w g r) (hne:g≠k):RptW (w.setCell ⟨k,i,none⟩ v) g r:=h.block (Below.heap_setCell _ _ _ g hne)
theorem RptW.new (w:World) (r:Rep):RptW (w.alloc (.cells #[.int .i64 r.kind,.string r.name,.int .i64 r.time,.int .i64 r.f,.int .i64 r.a,.int .i64 r.b,.int .i64 r.c,r.rd] 35)) w.heap.size r:=
 ⟨(by simp[zO,zJ,zQ]),(by simp[zO,zJ,zQ]),(by simp[zO,zJ,zQ]),(by simp[zO,zJ,zQ]),(by simp[zO,zJ,zQ]),(by simp[zO,zJ,zQ]),(by simp[zO,zJ,zQ]),(by simp[zO,zJ,zQ]),fun k=>by simp[RX.frozen_alloc]⟩
theorem RptW.set0 {w:World} {g:Nat} {r:Rep} (h:RptW w g r) (x:Int):RptW (w.setCell ⟨g,0,none⟩ (.int .i64 x)) g { r with kind:=x }:=
 ⟨zL _ _ _ (by rw[h.c0];rfl),(zK _ _ _ _ (by simp)).trans h.c1,(zK _ _ _ _ (by simp)).trans h.c2,(zK _ _ _ _ (by simp)).trans h.c3,(zK _ _ _ _ (by simp)).trans h.c4,(zK _ _ _ _ (by simp)).trans h.c5,(zK _ _ _ _ (by simp)).trans h.c6,(zK _ _ _ _ (by simp)).trans h.c7,fun k=>by rw[World.frozen?_setCell];exact h.z k⟩
theorem RptW.set1 {w:World} {g:Nat} {r:Rep} (h:RptW w g r) (x:ByteArray):RptW (w.setCell ⟨g,1,none⟩ (.string x)) g { r with name:=x }:=
 ⟨(zK _ _ _ _ (by simp)).trans h.c0,zL _ _ _ (by rw[h.c1];rfl),(zK _ _ _ _ (by simp)).trans h.c2,(zK _ _ _ _ (by simp)).trans h.c3,(zK _ _ _ _ (by simp)).trans h.c4,(zK _ _ _ _ (by simp)).trans h.c5,(zK _ _ _ _ (by simp)).trans h.c6,(zK _ _ _ _ (by simp)).trans h.c7,fun k=>by rw[World.frozen?_setCell];exact h.z k⟩
theorem RptW.set2 {w:World} {g:Nat} {r:Rep} (h:RptW w g r) (x:Int):RptW (w.setCell ⟨g,2,none⟩ (.int .i64 x)) g { r with time:=x }:=
 ⟨(zK _ _ _ _ (by simp)).trans h.c0,(zK _ _ _ _ (by simp)).trans h.c1,zL _ _ _ (by rw[h.c2];rfl),(zK _ _ _ _ (by simp)).trans h.c3,(zK _ _ _ _ (by simp)).trans h.c4,(zK _ _ _ _ (by simp)).trans h.c5,(zK _ _ _ _ (by simp)).trans h.c6,(zK _ _ _ _ (by simp)).trans h.c7,fun k=>by rw[World.frozen?_setCell];exact h.z k⟩
theorem RptW.set3 {w:World} {g:Nat} {r:Rep} (h:RptW w g r) (x:Int):RptW (w.setCell ⟨g,3,none⟩ (.int .i64 x)) g { r with f:=x }:=
 ⟨(zK _ _ _ _ (by simp)).trans h.c0,(zK _ _ _ _ (by simp)).trans h.c1,(zK _ _ _ _ (by simp)).trans h.c2,zL _ _ _ (by rw[h.c3];rfl),(zK _ _ _ _ (by simp)).trans h.c4,(zK _ _ _ _ (by simp)).trans h.c5,(zK _ _ _ _ (by simp)).trans h.c6,(zK _ _ _ _ (by simp)).trans h.c7,fun k=>by rw[World.frozen?_setCell];exact h.z k⟩
theorem RptW.set4 {w:World} {g:Nat} {r:Rep} (h:RptW w g r) (x:Int):RptW (w.setCell ⟨g,4,none⟩ (.int .i64 x)) g { r with a:=x }:=
 ⟨(zK _ _ _ _ (by simp)).trans h.c0,(zK _ _ _ _ (by simp)).trans h.c1,(zK _ _ _ _ (by simp)).trans h.c2,(zK _ _ _ _ (by simp)).trans h.c3,zL _ _ _ (by rw[h.c4];rfl),(zK _ _ _ _ (by simp)).trans h.c5,(zK _ _ _ _ (by simp)).trans h.c6,(zK _ _ _ _ (by simp)).trans h.c7,fun k=>by rw[World.frozen?_setCell];exact h.z k⟩
theorem RptW.set5 {w:World} {g:Nat} {r:Rep} (h:RptW w g r) (x:Int):RptW (w.setCell ⟨g,5,none⟩ (.int .i64 x)) g { r with b:=x }:=
 ⟨(zK _ _ _ _ (by simp)).trans h.c0,(zK _ _ _ _ (by simp)).trans h.c1,(zK _ _ _ _ (by simp)).trans h.c2,(zK _ _ _ _ (by simp)).trans h.c3,(zK _ _ _ _ (by simp)).trans h.c4,zL _ _ _ (by rw[h.c5];rfl),(zK _ _ _ _ (by simp)).trans h.c6,(zK _ _ _ _ (by simp)).trans h.c7,fun k=>by rw[World.frozen?_setCell];exact h.z k⟩
theorem RptW.set6 {w:World} {g:Nat} {r:Rep} (h:RptW w g r) (x:Int):RptW (w.setCell ⟨g,6,none⟩ (.int .i64 x)) g { r with c:=x }:=
 ⟨(zK _ _ _ _ (by simp)).trans h.c0,(zK _ _ _ _ (by simp)).trans h.c1,(zK _ _ _ _ (by simp)).trans h.c2,(zK _ _ _ _ (by simp)).trans h.c3,(zK _ _ _ _ (by simp)).trans h.c4,(zK _ _ _ _ (by simp)).trans h.c5,zL _ _ _ (by rw[h.c6];rfl),(zK _ _ _ _ (by simp)).trans h.c7,fun k=>by rw[World.frozen?_setCell];exact h.z k⟩
theorem RptW.set7 {w:World} {g:Nat} {r:Rep} (h:RptW w g r) (x:Value):RptW (w.setCell ⟨g,7,none⟩ x) g { r with rd:=x }:=
 ⟨(zK _ _ _ _ (by simp)).trans h.c0,(zK _ _ _ _ (by simp)).trans h.c1,(zK _ _ _ _ (by simp)).trans h.c2,(zK _ _ _ _ (by simp)).trans h.c3,(zK _ _ _ _ (by simp)).trans h.c4,(zK _ _ _ _ (by simp)).trans h.c5,(zK _ _ _ _ (by simp)).trans h.c6,zL _ _ _ (by rw[h.c7];rfl),fun k=>by rw[World.frozen?_setCell];exact h.z k⟩
theorem RptW.set8 {w:World} {g:Nat} {r:Rep} (h:RptW w g r) (kd:Int) (nm:ByteArray) (t f a b c:Int) (rd:Value):RptW ((((((((w.setCell ⟨g,0,none⟩ (.int .i64 kd)).setCell ⟨g,1,none⟩ (.string nm)).setCell ⟨g,2,none⟩ (.int .i64 t)).setCell ⟨g,3,none⟩ (.int .i64 f)).setCell ⟨g,4,none⟩ (.int .i64 a)).setCell ⟨g,5,none⟩ (.int .i64 b)).setCell ⟨g,6,none⟩ (.int .i64 c)).setCell ⟨g,7,none⟩ rd) g ⟨kd,nm,t,f,a,b,c,rd⟩:=
 ((((((((h.set0 kd).set1 nm).set2 t).set3 f).set4 a).set5 b).set6 c).set7 rd)
def repAt (t:Int) (p:Pl):Rep:=⟨2,dStr,t,p.f,p.a,p.b,p.c,.slice none 0 0⟩
theorem at12_any (t:Int) (p:Pl) (hp:p.Ok) (w:World):Calls Tryz.prog 28 #[.int .i64 t,pv p] w fun e w'=>e=.returned (rpv (repAt t (normal p)))∧Below w.heap.size w w':=by
 have HP:=zN hp
 have hpv:Hid (pv p=.agg #[.int .i64 p.f,.int .i64 p.a,.int .i64 p.b,.int .i64 p.c]):=zN rfl
 rw[hpv.out]
 clear hp
 obtain⟨B,hB⟩:∃ B,B=w.heap.size:=⟨_,rfl⟩
 go_enter Tryz.func28,Tryz.ntmps28
 go_wp2_with fail
 rw[←hpv.out]
 have hb1:Below w.heap.size w ((w.alloc (.cells #[.int .i64 p.f,.int .i64 p.a,.int .i64 p.b,.int .i64 p.c] 32)).alloc (.cells #[.int .i64 0,.string { data:=#[] },.int .i64 0,.int .i64 0,.int .i64 0,.int .i64 0,.int .i64 0,.slice none 0 0] 35)):=(by repeat (first|(with_reducible first|assumption|exact zBr _ _|refine zBs ?_ (by first|omega|(simp<;>omega)) _|refine zBa ?_ (by first|omega|(simp<;>omega)) _|apply zBd)|assumption))
 have hW:=(RptW.new (w.alloc (.cells #[.int .i64 p.f,.int .i64 p.a,.int .i64 p.b,.int .i64 p.c] 32)) ⟨0,{ data:=#[] },0,0,0,0,0,.slice none 0 0⟩)
 rw[show (w.alloc (.cells #[.int .i64 p.f,.int .i64 p.a,.int .i64 p.b,.int .i64 p.c] 32)).heap.size=w.heap.size+1 by simp] at hW
 dsimp only at hW
 generalize ((w.alloc (.cells #[.int .i64 p.f,.int .i64 p.a,.int .i64 p.b,.int .i64 p.c] 32)).alloc (.cells #[.int .i64 0,.string { data:=#[] },.int .i64 0,.int .i64 0,.int .i64 0,.int .i64 0,.int .i64 0,.slice none 0 0] 35))=W1 at *
 obtain⟨R,hR⟩:∃ R,R=w.heap.size+1:=⟨_,rfl⟩
 rw[←hR,←hB]
 rw[←hR] at hW
 refine (rnormal_any p HP.out W1).mono ?_
 rintro e w1 ⟨rfl,hb2⟩
 have hq:Hid (pv (normal p)=.agg #[.int .i64 (normal p).f,.int .i64 (normal p).a,.int .i64 (normal p).b,.int .i64 (normal p).c]):=zN rfl
 generalize hqq:normal p=q at hq ⊢
 have HQQ:=zN hqq
 clear hqq
 rw[hq.out]
 have hW2:=hW.below hb2
 have hb3:=hb1.trans (hb2.mono hb1.size)
 have hRl:=hW2.lt
 have hsz:=hb3.size
 clear hb1 hb2 hW
 have HB:=zN hb3
 have hRw:w.heap.size≤R:=by omega
 clear hb3 hR hB
 clear W1
 have HW:Hid (∃ r,RptW w1 R r):=zN ⟨_,hW2⟩
 obtain⟨c0,c1,c2,c3,c4,c5,c6,c7,z⟩:=hW2
 have z0:=z 0
 have z1:=z 1
 have z2:=z 2
 have z3:=z 3
 have z4:=z 4
 have z5:=z 5
 have z6:=z 6
 have z7:=z 7
 clear z
 dsimp only at c0 c1 c2 c3 c4 c5 c6 c7
 go_wp2
 clear c0 c1 c2 c3 c4 c5 c6 c7 z0 z1 z2 z3 z4 z5 z6 z7
 have hba:Below w.heap.size w (((((((((w1.setCell ⟨R,0,none⟩ (.int .i64 2)).setCell ⟨R,1,none⟩ (.string { data:=#[68,69,76,84,65] })).setCell ⟨R,2,none⟩ (.int .i64 t)).setCell ⟨R,3,none⟩ (.int .i64 (q.f:Int))).setCell ⟨R,4,none⟩ (.int .i64 (q.a:Int))).setCell ⟨R,5,none⟩ (.int .i64 (q.b:Int))).setCell ⟨R,6,none⟩ (.int .i64 (q.c:Int))).setCell ⟨R,7,none⟩ (.slice none 0 0)).alloc (.cells #[.int .i64 q.f,.int .i64 q.a,.int .i64 q.b,.int .i64 q.c] 32)):=by
  have hb0:=HB.out
  exact (by repeat (first|(with_reducible first|assumption|exact zBr _ _|refine zBs ?_ (by first|omega|(simp<;>omega)) _|refine zBa ?_ (by first|omega|(simp<;>omega)) _|apply zBd)|assumption))
 refine bodyPost_ret (v:=.agg #[.int .i64 2,.string dStr,.int .i64 t,.int .i64 (q.f:Int),.int .i64 (q.a:Int),.int .i64 (q.b:Int),.int .i64 (q.c:Int),.slice none 0 0]) ?_ rfl ⟨by rw[HQQ.out];rfl,hba⟩
 clear hba
 obtain⟨r0,hr0⟩:=HW.out
 have hf:=RptW.set8 hr0 2 dStr t q.f q.a q.b q.c (.slice none 0 0)
 rw[show dStr={ data:=#[68,69,76,84,65] } from rfl] at hf
 generalize ((((((((w1.setCell ⟨R,0,none⟩ (.int .i64 2)).setCell ⟨R,1,none⟩ (.string { data:=#[68,69,76,84,65] })).setCell ⟨R,2,none⟩ (.int .i64 t)).setCell ⟨R,3,none⟩ (.int .i64 (q.f:Int))).setCell ⟨R,4,none⟩ (.int .i64 (q.a:Int))).setCell ⟨R,5,none⟩ (.int .i64 (q.b:Int))).setCell ⟨R,6,none⟩ (.int .i64 (q.c:Int))).setCell ⟨R,7,none⟩ (.slice none 0 0))=W at hf ⊢
 obtain⟨e0,e1,e2,e3,e4,e5,e6,e7,_⟩:=hf.below ((zBr W.heap.size W).alloc (Nat.le_refl _) (.cells #[.int .i64 q.f,.int .i64 q.a,.int .i64 q.b,.int .i64 q.c] 32))
 dsimp only at e0 e1 e2 e3 e4 e5 e6 e7
 generalize W.alloc (.cells #[.int .i64 q.f,.int .i64 q.a,.int .i64 q.b,.int .i64 q.c] 32)=W' at e0 e1 e2 e3 e4 e5 e6 e7 ⊢
 simp[results,Tryz.results28,go_sem,e0,e1,e2,e3,e4,e5,e6,e7,dStr]
structure RpOk (one:Bool) (r:Rep):Prop where
 rd:r.rd=.slice none 0 0
 nm:r.name=dStr∨r.name=eStr
 kind:1≤r.kind∧r.kind≤3
 time:14000000≤r.time∧r.time≤14010000
 pl:∃ p:Pl,p.Ok∧r.f=p.f∧(r.a=p.a∨r.a=p.a+1)∧r.b=p.b∧r.c=p.c
 one:one=true→r.kind=2∧r.name=dStr∧∃ p:Pl,p.Ok∧r.f=p.f∧r.a=p.a∧r.b=p.b∧r.c=p.c
theorem RpOk.rdOk {one:Bool} {r:Rep} (h:RpOk one r):RdOk r:=⟨_,_,_,h.rd⟩
theorem rpOk_at {t:Int} {p:Pl} (hp:p.Ok) (h0:14000000≤t) (h1:t≤14010000) (one:Bool):RpOk one (repAt t p):=
 ⟨rfl,.inl rfl,⟨by show (1:Int)≤2;omega,by show (2:Int)≤3;omega⟩,⟨h0,h1⟩,⟨p,hp,rfl,.inl rfl,rfl,rfl⟩,fun _=>⟨rfl,rfl,p,hp,rfl,rfl,rfl,rfl⟩⟩
theorem own_gr {w w':World} {base g:Nat} {e:TypeId} {size:Nat} {v:Value} {n:Nat} {xs:List Value} (h:w.ownsRow base e size v n xs) (hg:w.grownBy w' (some g)) (hl:g < base):w'.ownsRow base e size v n xs:=
 h.kept hg (by
  cases hv:v.ownBlock with
  |none=>exact .inl rfl
  |some k=>exact .inr (fun e=>by have:=(World.ownsRow.lt h k hv).1;injection e with e;omega))
theorem own_bl {w w':World} {base:Nat} {e:TypeId} {size:Nat} {v:Value} {n:Nat} {xs:List Value} (h:w.ownsRow base e size v n xs) (hb:Below w.heap.size w w'):w'.ownsRow base e size v n xs:=
 World.ownsRow.kept (row:=none) h ⟨hb.os,hb.tape,hb.output,hb.size,fun k hk _=>hb.block k hk⟩ (by
  cases v.ownBlock with
  |none=>exact .inl rfl
  |some k=>exact .inr (by simp))
theorem RepRow.gr {w w':World} {base g:Nat} {v:Value} {L:List Rep} (h:RepRow w base v L) (hg:w.grownBy w' (some g)) (hl:g < base):RepRow w' base v L:=own_gr h hg hl
theorem RepRow.bl {w w':World} {base:Nat} {v:Value} {L:List Rep} (h:RepRow w base v L) (hb:Below w.heap.size w w'):RepRow w' base v L:=own_bl h hb
structure GS (w wr:World) (g b n Q:Nat) (v:Value) (L:List Rep) (p:Pl):Prop where
 q:PlAt wr Q p.f p.a p.b p.c
 ok:p.Ok
 row:RepRow wr (Q+1) v L
 gr:w.grownBy wr (some g)
 s:∃ j,SrcAt wr g b n j
 sz:Q+1≤wr.heap.size
 gq:g < Q
 bq:0 < n→b < Q
 wq:w.heap.size≤Q
theorem GS.grown {w wr w':World} {g b n Q:Nat} {v:Value} {L:List Rep} {p:Pl} (h:GS w wr g b n Q v L p) (hg:wr.grownBy w' (some g)) (hs:∃ j,SrcAt w' g b n j):GS w w' g b n Q v L p:=
 ⟨h.q.grown hg (by have:=h.gq;omega),h.ok,h.row.gr hg (by have:=h.gq;omega),h.gr.trans hg,hs,Nat.le_trans h.sz hg.size,h.gq,h.bq,h.wq⟩
theorem GS.below {w wr w':World} {g b n Q:Nat} {v:Value} {L:List Rep} {p:Pl} (h:GS w wr g b n Q v L p) (hb:Below wr.heap.size wr w'):GS w w' g b n Q v L p:=by
 obtain⟨j,hj⟩:=h.s
 exact⟨h.q.below hb,h.ok,h.row.bl hb,h.gr.trans (grw_below hb (some g)),⟨j,hj.below hb⟩,Nat.le_trans h.sz hb.size,h.gq,h.bq,h.wq⟩
theorem GS.store {w wr:World} {g b n Q:Nat} {v:Value} {L:List Rep} {p:Pl} (h:GS w wr g b n Q v L p) (q:Pl) (hq:q.Ok) :
  GS w ((((wr.setCell ⟨Q,0,none⟩ (.int .i64 q.f)).setCell ⟨Q,1,none⟩ (.int .i64 q.a)).setCell ⟨Q,2,none⟩ (.int .i64 q.b)).setCell ⟨Q,3,none⟩ (.int .i64 q.c)) g b n Q v L q:=by
 have h1:=h.gq
 have h2:=h.bq
 have h3:=h.wq
 obtain⟨j,hj⟩:=h.s
 have hne:g≠Q:=by omega
 have hbn:0 < n→b≠Q:=fun h0=>by have:=h2 h0;omega
 refine⟨(((h.q.set0 _).set1 _).set2 _).set3 _,hq,?_,grw_set (grw_set (grw_set (grw_set h.gr (.inr h3)) (.inr h3)) (.inr h3)) (.inr h3),⟨j,(((hj.other hne hbn).other hne hbn).other hne hbn).other hne hbn⟩,by simpa using h.sz,h1,h2,h3⟩
 have hg:wr.grownBy ((((wr.setCell ⟨Q,0,none⟩ (.int .i64 q.f)).setCell ⟨Q,1,none⟩ (.int .i64 q.a)).setCell ⟨Q,2,none⟩ (.int .i64 q.b)).setCell ⟨Q,3,none⟩ (.int .i64 q.c)) (some Q):=grw_set (grw_set (grw_set (grw_set (grw_refl _ _) (.inl rfl)) (.inl rfl)) (.inl rfl)) (.inl rfl)
 exact h.row.gr hg (by omega)
theorem GS.other {w wr:World} {g b n Q B k:Nat} {v v':Value} {L:List Rep} {p:Pl} (h:GS w wr g b n Q v L p) (hB:Q+1≤B) (hb:0 < n→b≠B) (hv:∀ k,v.ownBlock=some k→k≠B):GS w (wr.setCell ⟨B,k,none⟩ v') g b n Q v L p:=by
 have h1:=h.gq
 have h3:=h.wq
 obtain⟨j,hj⟩:=h.s
 refine⟨h.q.set (by omega),h.ok,?_,grw_set h.gr (.inr (by omega)),⟨j,hj.other (by omega) hb⟩,by simpa using h.sz,h1,h.bq,h3⟩
 exact World.ownsRow.kept h.row (src_setCell wr B k v') (by
  cases ho:v.ownBlock with
  |none=>exact .inl rfl
  |some q=>exact .inr (fun e=>hv q ho (by injection e)))
theorem text2_any (w:World) (g b n i N:Nat) (s t:ByteArray) (h:SrcAt w g b n i) (h0:w.cell? ⟨N,0,none⟩=some (.string s)) (h1:w.cell? ⟨N,1,none⟩=some (.string t)) (hN:N≠g) :
  Calls Tryz.prog 22 #[.pointer (some ⟨g,0,none⟩),.slice (some ⟨N,0,none⟩) 2 2] w fun e w'=>∃ x:ByteArray,e=.returned (.string x)∧(x=s∨x=t)∧w.grownBy w' (some g)∧∃ j,SrcAt w' g b n j:=by
 go_enter Tryz.func22,Tryz.ntmps22
 go_wp2_with fail
 refine (srcN_any w g b n i 2 h (by omega) (by omega)).mono ?_
 rintro e w1 ⟨x,rfl,hx0,hx1,hg1,hS⟩
 have hS1:=zN hS
 have hG1:=zN hg1
 have k0:=hg1.cell h0 (by simpa using hN)
 have k1:=hg1.cell h1 (by simpa using hN)
 clear hS hg1 h h0 h1
 by_cases hx:x=0
 ·subst hx
  go_wp2
  go_ret
  exact⟨s,rfl,.inl rfl,hG1.out,hS1.out⟩
 ·obtain rfl:x=1:=by omega
  go_wp2
  go_ret
  exact⟨t,rfl,.inr rfl,hG1.out,hS1.out⟩
theorem reports_any (one:Bool) (m:Nat) (hm:m≤10) (w:World) (g b n i:Nat) (h:SrcAt w g b n i) (hb0:0 < n→b < w.heap.size) :
  Calls Tryz.prog 11 #[.pointer (some ⟨g,0,none⟩),.int .i64 (m:Int),.bool one] w fun e w'=>∃ v L,e=.returned v∧RepRow w' w.heap.size v L∧(∀ r∈L,RpOk one r)∧L.Pairwise (fun r s=>r.time < s.time)∧L.length≤m∧w.grownBy w' (some g)∧∃ j,SrcAt w' g b n j:=by
 have hg:=h.lt
 go_enter Tryz.func11,Tryz.ntmps11
 go_wp2_with fail
 refine (dplace_any w g b n i h hb0).mono ?_
 rintro e w1 ⟨p0,rfl,hp0,hg1,i1,h1⟩
 have hpv:Hid (pv p0=.agg #[.int .i64 p0.f,.int .i64 p0.a,.int .i64 p0.b,.int .i64 p0.c]):=zN rfl
 rw[hpv.out]
 go_wp2_with fail
 have hQ:=PlAt.new w1 p0.f p0.a p0.b p0.c
 have hb1:=(zBr w1.heap.size w1).alloc (Nat.le_refl _) (.cells #[.int .i64 p0.f,.int .i64 p0.a,.int .i64 p0.b,.int .i64 p0.c] 32)
 have hG:=grw_alloc hg1 (.cells #[.int .i64 p0.f,.int .i64 p0.a,.int .i64 p0.b,.int .i64 p0.c] 32)
 have hs1:=hg1.size
 have hgl:=h1.lt
 replace h1:=h1.below hb1
 obtain⟨Q,hQe⟩:∃ Q,Q=w1.heap.size:=⟨_,rfl⟩
 rw[←hQe] at hQ ⊢
 have hQw:w.heap.size≤Q:=by omega
 have hQg:Q≠g:=by omega
 have hbQ:0 < n→b≠Q:=fun h0=>by have:=hb0 h0;omega
 have hQs:Q+1≤(w1.alloc (.cells #[.int .i64 p0.f,.int .i64 p0.a,.int .i64 p0.b,.int .i64 p0.c] 32)).heap.size:=by simp;omega
 clear hb1 hg1 hQe h
 generalize (w1.alloc (.cells #[.int .i64 p0.f,.int .i64 p0.a,.int .i64 p0.b,.int .i64 p0.c] 32))=W0 at *
 clear hs1 hgl
 clear w1
 refine (srcN_any W0 g b n i1 ((m:Int)+1) h1 (by omega) (by omega)).mono ?_
 rintro e w2 ⟨x0,rfl,hx0,hx1,hg2,i2,h2⟩
 replace hQ:=hQ.grown hg2 hQg
 replace hG:=hG.trans hg2
 replace hQs:=Nat.le_trans hQs hg2.size
 clear hg2 h1
 clear W0
 go_wp2
 obtain⟨c0,hc0⟩:∃ c:Nat,x0=(c:Int):=⟨x0.toNat,by omega⟩
 subst hc0
 have hcm:c0≤m:=by omega
 have HQ0:Hid (PlAt w2 Q p0.f p0.a p0.b p0.c):=zN hQ
 have HP0:=zN hp0
 clear hQ hx0 hx1 hp0 hpv
 have HGS:Hid (GS w w2 g b n Q (.slice none 0 0) [] p0):=zN ⟨HQ0.out,HP0.out,RepRow.nil _ _,hG,⟨i2,h2⟩,hQs,by omega,fun h0=>by have:=hb0 h0;omega,hQw⟩
 clear HQ0 HP0 hG h2 hQs
 go_loopw [7,8,10] (fun v7 v8 v10 wr=>∃ (L:List Rep) (k:Nat) (t:Int) (p:Pl),v8=.int .i64 t∧v10=.int .i64 (k:Int)∧L.length+k≤m∧14000000≤t∧t≤14000000+400*(L.length:Int)∧Hid (∀ r∈L,RpOk one r∧r.time≤t)∧Hid (L.Pairwise (fun r s=>r.time < s.time))∧GS w wr g b n Q v7 L p) (fun _ _ v10 _=>(intOf v10).toNat)
 case atStart=>exact⟨[],c0,14000000,p0,rfl,rfl,by simpa using hcm,by omega,by simp,zN (fun r hr=>by cases hr),zN List.Pairwise.nil,HGS.out⟩
 case round=>
  clear HGS
  obtain⟨L,k,t,p,rfl,rfl,hlk,ht0,ht1,HO,HP,hgs⟩:=hrel
  obtain⟨pl,cl,rfl,hcl⟩:=own_slice hgs.row
  by_cases hk:0 < k
  ·have hdk:decide ((k:Int) > 0)=true:=zDt (by omega)
   obtain⟨j,hS⟩:=hgs.s
   go_wp2_with fail
   refine (srcRange_any wr g b n j 1 400 hS (by omega) (by omega) (by omega)).mono ?_
   rintro e w3 ⟨dt,rfl,hd0,hd1,hg3,hs3⟩
   replace hgs:=hgs.grown hg3 hs3
   clear hg3 hs3 hS
   obtain⟨j,hS⟩:=hgs.s
   go_wp2_with fail
   refine (srcN_any w3 g b n j 5 hS (by omega) (by omega)).mono ?_
   rintro e w4 ⟨x5,rfl,hy0,hy1,hg4,hs4⟩
   replace hgs:=hgs.grown hg4 hs4
   clear hg4 hs4 hS
   clear w3
   go_upto_block 2 with fail
   go_cut [9] from 30 to 82 (fun v9 wx=>v9=.pointer (some ⟨Q,0,none⟩)∧∃ p',GS w wx g b n Q (.slice pl L.length cl) L p')
   case first=>
    by_cases e0:x5=0
    ·subst e0
     obtain⟨j,hS⟩:=hgs.s
     go_wp2_with fail
     refine (dplace_any w4 g b n j hS (fun h0=>hS.ltb h0)).mono ?_
     rintro e w5 ⟨q,rfl,hq,hg5,hs5⟩
     have hqv:Hid (pv q=.agg #[.int .i64 q.f,.int .i64 q.a,.int .i64 q.b,.int .i64 q.c]):=zN rfl
     rw[hqv.out]
     replace hgs:=hgs.grown hg5 hs5
     clear hg5 hs5 hS
     have hq0:=hgs.q
     obtain⟨a0,a1,a2,a3,z0,z1,z2,z3⟩:=hq0
     have HGS2:=zN hgs
     clear hgs
     go_wp2_with fail
     go_meet
     case rel=>exact⟨rfl,q,HGS2.out.store q hq⟩
    by_cases e1:x5=1
    ·subst e1
     have hq0:=hgs.q
     obtain⟨a0,a1,a2,a3,z0,z1,z2,z3⟩:=hq0
     have hP4:=hgs.ok.s
     have HOK:=hgs.ok.f
     obtain⟨j,hS⟩:=hgs.s
     have HGS2:=zN hgs
     clear hgs
     go_wp2_with fail
     all_goals (
      refine (srcRange_any w4 g b n j 0 _ hS (by omega) (by omega) (by omega)).mono ?_
      rintro e w5 ⟨d,rfl,hd3,hd4,hg5,hs5⟩
      obtain⟨d',hd'⟩:∃ d':Nat,d=(d':Int):=⟨d.toNat,by omega⟩
      subst hd'
      have hgs:=HGS2.out.grown hg5 hs5
      have hq0:=hgs.q
      clear hg5 hs5 hS a0 a1 a2 a3 z0 z1 z2 z3 HGS2
      obtain⟨a0,a1,a2,a3,z0,z1,z2,z3⟩:=hq0
      obtain⟨q,hq,hqv⟩:∃ q:Pl,q.Ok∧pv q=.agg #[.int .i64 (p.f:Int),.int .i64 ((p.a:Int)-(d':Int)),.int .i64 ((p.b:Int)+(d':Int)),.int .i64 (p.c:Int)]:=
       ⟨⟨p.f,(p.a-d'),(p.b+d'),p.c⟩,⟨HOK,by show (p.a-d')+(p.b+d')+p.c=840;omega⟩,by
        show (.agg #[.int .i64 (p.f:Int),.int .i64 (((p.a-d'):Nat):Int),.int .i64 (((p.b+d'):Nat):Int),.int .i64 ((p.c:Nat):Int)]:Value)=_
        rw[show (((p.a-d'):Nat):Int)=((p.a:Int)-(d':Int)) by omega,show (((p.b+d'):Nat):Int)=((p.b:Int)+(d':Int)) by omega,show ((p.c:Nat):Int)=(p.c:Int) by omega]⟩
      have HQ:=zN (And.intro hq hqv)
      have HGS3:=zN hgs
      clear hq hqv hgs
      have hd5:(d':Int)≤1000000:=by omega
      have hp1:(p.a:Int)≤840:=by omega
      have hp2:(p.b:Int)≤840:=by omega
      have hp3:(p.c:Int)≤840:=by omega
      go_wp2_with fail
      rw[←HQ.out.2]
      refine (rnormal_any q HQ.out.1 w5).mono ?_
      rintro e w6 ⟨rfl,hb6⟩
      have hgs:=HGS3.out.below hb6
      have hn:Hid (pv (normal q)=.agg #[.int .i64 (normal q).f,.int .i64 (normal q).a,.int .i64 (normal q).b,.int .i64 (normal q).c]):=zN rfl
      have HN:=zN (normal_ok HQ.out.1)
      generalize normal q=q' at *
      rw[hn.out]
      have hq0:=hgs.q
      clear hb6 a0 a1 a2 a3 z0 z1 z2 z3 HGS3
      obtain⟨a0,a1,a2,a3,z0,z1,z2,z3⟩:=hq0
      have HGS4:=zN hgs
      clear hgs
      go_wp2_with fail
      go_meet
      case rel=>exact⟨rfl,q',HGS4.out.store q' HN.out⟩)
    by_cases e2:x5=2
    ·subst e2
     have hq0:=hgs.q
     obtain⟨a0,a1,a2,a3,z0,z1,z2,z3⟩:=hq0
     have hP4:=hgs.ok.s
     have HOK:=hgs.ok.f
     obtain⟨j,hS⟩:=hgs.s
     have HGS2:=zN hgs
     clear hgs
     go_wp2_with fail
     all_goals (
      refine (srcRange_any w4 g b n j 0 _ hS (by omega) (by omega) (by omega)).mono ?_
      rintro e w5 ⟨d,rfl,hd3,hd4,hg5,hs5⟩
      obtain⟨d',hd'⟩:∃ d':Nat,d=(d':Int):=⟨d.toNat,by omega⟩
      subst hd'
      have hgs:=HGS2.out.grown hg5 hs5
      have hq0:=hgs.q
      clear hg5 hs5 hS a0 a1 a2 a3 z0 z1 z2 z3 HGS2
      obtain⟨a0,a1,a2,a3,z0,z1,z2,z3⟩:=hq0
      obtain⟨q,hq,hqv⟩:∃ q:Pl,q.Ok∧pv q=.agg #[.int .i64 (p.f:Int),.int .i64 ((p.a:Int)-(d':Int)),.int .i64 ((p.b:Int)+(d':Int)),.int .i64 (p.c:Int)]:=
       ⟨⟨p.f,(p.a-d'),(p.b+d'),p.c⟩,⟨HOK,by show (p.a-d')+(p.b+d')+p.c=840;omega⟩,by
        show (.agg #[.int .i64 (p.f:Int),.int .i64 (((p.a-d'):Nat):Int),.int .i64 (((p.b+d'):Nat):Int),.int .i64 ((p.c:Nat):Int)]:Value)=_
        rw[show (((p.a-d'):Nat):Int)=((p.a:Int)-(d':Int)) by omega,show (((p.b+d'):Nat):Int)=((p.b:Int)+(d':Int)) by omega,show ((p.c:Nat):Int)=(p.c:Int) by omega]⟩
      have HQ:=zN (And.intro hq hqv)
      have HGS3:=zN hgs
      clear hq hqv hgs
      have hd5:(d':Int)≤1000000:=by omega
      have hp1:(p.a:Int)≤840:=by omega
      have hp2:(p.b:Int)≤840:=by omega
      have hp3:(p.c:Int)≤840:=by omega
      go_wp2_with fail
      rw[←HQ.out.2]
      refine (rnormal_any q HQ.out.1 w5).mono ?_
      rintro e w6 ⟨rfl,hb6⟩
      have hgs:=HGS3.out.below hb6
      have hn:Hid (pv (normal q)=.agg #[.int .i64 (normal q).f,.int .i64 (normal q).a,.int .i64 (normal q).b,.int .i64 (normal q).c]):=zN rfl
      have HN:=zN (normal_ok HQ.out.1)
      generalize normal q=q' at *
      rw[hn.out]
      have hq0:=hgs.q
      clear hb6 a0 a1 a2 a3 z0 z1 z2 z3 HGS3
      obtain⟨a0,a1,a2,a3,z0,z1,z2,z3⟩:=hq0
      have HGS4:=zN hgs
      clear hgs
      go_wp2_with fail
      go_meet
      case rel=>exact⟨rfl,q',HGS4.out.store q' HN.out⟩)
    by_cases e3:x5=3
    ·subst e3
     have hq0:=hgs.q
     obtain⟨a0,a1,a2,a3,z0,z1,z2,z3⟩:=hq0
     have hP4:=hgs.ok.s
     have HOK:=hgs.ok.f
     obtain⟨j,hS⟩:=hgs.s
     have HGS2:=zN hgs
     clear hgs
     go_wp2_with fail
     all_goals (
      refine (srcRange_any w4 g b n j 0 _ hS (by omega) (by omega) (by omega)).mono ?_
      rintro e w5 ⟨d,rfl,hd3,hd4,hg5,hs5⟩
      obtain⟨d',hd'⟩:∃ d':Nat,d=(d':Int):=⟨d.toNat,by omega⟩
      subst hd'
      have hgs:=HGS2.out.grown hg5 hs5
      have hq0:=hgs.q
      clear hg5 hs5 hS a0 a1 a2 a3 z0 z1 z2 z3 HGS2
      obtain⟨a0,a1,a2,a3,z0,z1,z2,z3⟩:=hq0
      obtain⟨q,hq,hqv⟩:∃ q:Pl,q.Ok∧pv q=.agg #[.int .i64 (p.f:Int),.int .i64 ((p.a:Int)+(d':Int)),.int .i64 (p.b:Int),.int .i64 ((p.c:Int)-(d':Int))]:=
       ⟨⟨p.f,(p.a+d'),p.b,(p.c-d')⟩,⟨HOK,by show (p.a+d')+p.b+(p.c-d')=840;omega⟩,by
        show (.agg #[.int .i64 (p.f:Int),.int .i64 (((p.a+d'):Nat):Int),.int .i64 ((p.b:Nat):Int),.int .i64 (((p.c-d'):Nat):Int)]:Value)=_
        rw[show (((p.a+d'):Nat):Int)=((p.a:Int)+(d':Int)) by omega,show ((p.b:Nat):Int)=(p.b:Int) by omega,show (((p.c-d'):Nat):Int)=((p.c:Int)-(d':Int)) by omega]⟩
      have HQ:=zN (And.intro hq hqv)
      have HGS3:=zN hgs
      clear hq hqv hgs
      have hd5:(d':Int)≤1000000:=by omega
      have hp1:(p.a:Int)≤840:=by omega
      have hp2:(p.b:Int)≤840:=by omega
      have hp3:(p.c:Int)≤840:=by omega
      go_wp2_with fail
      rw[←HQ.out.2]
      refine (rnormal_any q HQ.out.1 w5).mono ?_
      rintro e w6 ⟨rfl,hb6⟩
      have hgs:=HGS3.out.below hb6
      have hn:Hid (pv (normal q)=.agg #[.int .i64 (normal q).f,.int .i64 (normal q).a,.int .i64 (normal q).b,.int .i64 (normal q).c]):=zN rfl
      have HN:=zN (normal_ok HQ.out.1)
      generalize normal q=q' at *
      rw[hn.out]
      have hq0:=hgs.q
      clear hb6 a0 a1 a2 a3 z0 z1 z2 z3 HGS3
      obtain⟨a0,a1,a2,a3,z0,z1,z2,z3⟩:=hq0
      have HGS4:=zN hgs
      clear hgs
      go_wp2_with fail
      go_meet
      case rel=>exact⟨rfl,q',HGS4.out.store q' HN.out⟩)
    ·have b0:(x5 == 0)=false:=by rw[beq_eq_false_iff_ne];exact e0
     have b1:(x5 == 1)=false:=by rw[beq_eq_false_iff_ne];exact e1
     have b2:(x5 == 2)=false:=by rw[beq_eq_false_iff_ne];exact e2
     have b3:(x5 == 3)=false:=by rw[beq_eq_false_iff_ne];exact e3
     go_wp2_with fail
     go_meet
     case rel=>exact⟨rfl,p,hgs⟩
   case rest=>
    clear hgs
    obtain⟨rfl,p',hgs⟩:=hcut
    have hpv':Hid (pv p'=.agg #[.int .i64 p'.f,.int .i64 p'.a,.int .i64 p'.b,.int .i64 p'.c]):=zN rfl
    have hq0:=hgs.q
    obtain⟨a0,a1,a2,a3,z0,z1,z2,z3⟩:=hq0
    have HGS2:=zN hgs
    clear hgs
    go_wp2_with fail
    rw[←hpv'.out]
    refine (at12_any (t+dt) p' HGS2.out.ok _).mono ?_
    rintro e w5 ⟨rfl,hb5⟩
    have hgs:=HGS2.out.below hb5
    have hno:=normal_ok HGS2.out.ok
    clear a0 a1 a2 a3 z0 z1 z2 z3 HGS2 hb5 hpv'
    generalize normal p'=q at hno ⊢
    have hrv:rpv (repAt (t+dt) q)=.agg #[.int .i64 2,.string { data:=#[68,69,76,84,65] },.int .i64 (t+dt),.int .i64 q.f,.int .i64 q.a,.int .i64 q.b,.int .i64 q.c,.slice none 0 0]:=rfl
    rw[hrv]
    clear hrv
    go_upto_if 87 with fail
    have hrl:∀ k,(Value.slice pl L.length cl).ownBlock=some k→k≠w5.heap.size:=fun k hk=>by have:=(World.ownsRow.lt hgs.row k hk).2;omega
    have hba:=(zBr w5.heap.size w5).alloc (Nat.le_refl _) (.cells #[.int .i64 2,.string { data:=#[68,69,76,84,65] },.int .i64 (t+dt),.int .i64 q.f,.int .i64 q.a,.int .i64 q.b,.int .i64 q.c,.slice none 0 0] 35)
    have hW:RptW (w5.alloc (.cells #[.int .i64 2,.string { data:=#[68,69,76,84,65] },.int .i64 (t+dt),.int .i64 q.f,.int .i64 q.a,.int .i64 q.b,.int .i64 q.c,.slice none 0 0] 35)) w5.heap.size (repAt (t+dt) q):=RptW.new w5 (repAt (t+dt) q)
    have hsz5:=hgs.sz
    replace hgs:=hgs.below hba
    have hBl:=hW.lt
    have hok:=rpOk_at hno (t:=t+dt) (by omega) (by omega) one
    generalize (w5.alloc (.cells #[.int .i64 2,.string { data:=#[68,69,76,84,65] },.int .i64 (t+dt),.int .i64 q.f,.int .i64 q.a,.int .i64 q.b,.int .i64 q.c,.slice none 0 0] 35))=w6 at *
    obtain⟨B,hB⟩:∃ B,B=w5.heap.size:=⟨_,rfl⟩
    rw[←hB] at hW hBl hrl ⊢
    have hQB:Q+1≤B:=by omega
    have hBw:w.heap.size≤B:=by omega
    clear hba hB hsz5
    have htm:(repAt (t+dt) q).time=t+dt:=rfl
    obtain⟨r0,hr0⟩:∃ r,r=repAt (t+dt) q:=⟨_,rfl⟩
    have hkd:r0.name=dStr∧r0.a=(q.a:Int)∧r0.b=(q.b:Int)∧r0.c=(q.c:Int)∧r0.f=(q.f:Int):=by rw[hr0];exact⟨rfl,rfl,rfl,rfl,rfl⟩
    rw[←hr0] at hW hok htm
    clear hr0
    have hgB:g < B:=by have:=hgs.gq;omega
    have hbB:0 < n→b≠B:=fun h0=>by have:=hgs.bq h0;omega
    go_cut [13] from 88 to 103 (fun v13 wx=>v13=.pointer (some ⟨B,0,none⟩)∧∃ r,RpOk one r∧r.time=t+dt∧RptW wx B r∧GS w wx g b n Q (.slice pl L.length cl) L p')
    case first=>
     cases one with
     |true=>
      go_wp2_with fail
      go_meet
      case rel=>exact⟨rfl,r0,hok,htm,hW,hgs⟩
     |false=>
      obtain⟨j,hS⟩:=hgs.s
      go_wp2_with fail
      refine (srcRange_any w6 g b n j 1 3 hS (by omega) (by omega) (by omega)).mono ?_
      rintro e w7 ⟨kd,rfl,hk1,hk3,hg7,hs7⟩
      replace hgs:=hgs.grown hg7 hs7
      replace hW:=hW.grown hg7 (by omega)
      clear hg7 hs7 hS hBl
      have HGS2:=zN hgs
      have HW2:=zN hW
      obtain⟨c0,_,_,_,_,_,_,_,z⟩:=hW
      have z0:=z 0
      clear hgs z
      go_wp2_with fail
      have hbs:Below (w7.setCell ⟨B,0,none⟩ (.int .i64 kd)).heap.size (w7.setCell ⟨B,0,none⟩ (.int .i64 kd)) ((w7.setCell ⟨B,0,none⟩ (.int .i64 kd)).alloc (.cells #[.string { data:=#[68,69,76,84,65] },.string { data:=#[69,67,72,79,55] }] 9)):=(zBr _ _).alloc (Nat.le_refl _) _
      have hgs:=(HGS2.out.other (k:=0) (v':=.int .i64 kd) hQB hbB hrl).below hbs
      have hW:=(HW2.out.set0 kd).below hbs
      have k0:((w7.setCell ⟨B,0,none⟩ (.int .i64 kd)).alloc (.cells #[.string { data:=#[68,69,76,84,65] },.string { data:=#[69,67,72,79,55] }] 9)).cell? ⟨w7.heap.size,0,none⟩=some (.string dStr):=by simp[zJ,dStr]
      have k1:((w7.setCell ⟨B,0,none⟩ (.int .i64 kd)).alloc (.cells #[.string { data:=#[68,69,76,84,65] },.string { data:=#[69,67,72,79,55] }] 9)).cell? ⟨w7.heap.size,1,none⟩=some (.string eStr):=by simp[zJ,eStr]
      have hN7:w7.heap.size≠g:=by have:=HGS2.out.sz;have:=HGS2.out.gq;omega
      clear c0 z0 HGS2 HW2 hbs
      generalize ((w7.setCell ⟨B,0,none⟩ (.int .i64 kd)).alloc (.cells #[.string { data:=#[68,69,76,84,65] },.string { data:=#[69,67,72,79,55] }] 9))=w8 at *
      obtain⟨j,hS⟩:=hgs.s
      refine (text2_any w8 g b n j w7.heap.size dStr eStr hS k0 k1 hN7).mono ?_
      rintro e w9 ⟨nm,rfl,hnm,hg9,hs9⟩
      replace hgs:=hgs.grown hg9 hs9
      replace hW:=hW.grown hg9 (by omega)
      clear hg9 hs9 hS k0 k1 hN7
      clear w8
      have HGS2:=zN hgs
      have HW2:=zN hW
      have HNM:=zN hnm
      obtain⟨_,c1,_,_,_,_,_,_,z⟩:=hW
      have z1:=z 1
      clear hgs z hnm
      go_wp2_with fail
      have hgs:=HGS2.out.other (k:=1) (v':=.string nm) hQB hbB hrl
      have hW:=HW2.out.set1 nm
      clear c1 z1 HGS2 HW2
      generalize (w9.setCell ⟨B,1,none⟩ (.string nm))=wA at *
      obtain⟨j,hS⟩:=hgs.s
      refine (srcN_any wA g b n j 12 hS (by omega) (by omega)).mono ?_
      rintro e wB ⟨y,rfl,hv0,hv1,hgC,hsC⟩
      replace hgs:=hgs.grown hgC hsC
      replace hW:=hW.grown hgC (by omega)
      clear hgC hsC hS
      obtain⟨h1,h2,h3,h4,h5,h6⟩:=hok
      by_cases hy:y=11
      ·subst hy
       have HGS2:=zN hgs
       have HW2:=zN hW
       have HNO:=zN hno
       have HKD:=zN hkd
       have haq:r0.a=(q.a:Int):=hkd.2.1
       have hqa:=hno.s
       obtain⟨_,_,_,_,c4,_,_,_,z⟩:=hW
       have z4:=z 4
       dsimp only at c4
       rw[haq] at c4
       have hqa2:q.a≤840:=by omega
       clear hgs z hno hkd haq hqa
       go_wp2_with fail
       go_meet
       case rel=>exact⟨rfl,{ r0 with kind:=kd,name:=nm,a:=(q.a:Int)+1 },⟨h1,HNM.out,⟨hk1,hk3⟩,h4,⟨q,HNO.out,HKD.out.2.2.2.2,.inr rfl,HKD.out.2.2.1,HKD.out.2.2.2.1⟩,fun e=>by cases e⟩,htm,HW2.out.set4 _,HGS2.out.other hQB hbB hrl⟩
      ·have hbf:(y == 11)=false:=by rw[beq_eq_false_iff_ne];exact hy
       have HGS2:=zN hgs
       have HW2:=zN hW
       go_wp2_with fail
       go_meet
       case rel=>exact⟨rfl,{ r0 with kind:=kd,name:=nm },⟨h1,HNM.out,⟨hk1,hk3⟩,h4,⟨q,hno,hkd.2.2.2.2,.inl hkd.2.1,hkd.2.2.1,hkd.2.2.2.1⟩,fun e=>by cases e⟩,htm,HW2.out,HGS2.out⟩
    case rest=>
     clear hW hok hgs hBl htm hkd
     obtain⟨rfl,r,hok,htm,hW,hgs⟩:=hcut
     have HGS2:=zN hgs
     have HOK:=zN hok
     have HTM:=zN htm
     obtain⟨c0,c1,c2,c3,c4,c5,c6,c7,_⟩:=hW
     rw[hok.rd] at c7
     have hrpc:rpc r=[.int .i64 r.kind,.string r.name,.int .i64 r.time,.int .i64 r.f,.int .i64 r.a,.int .i64 r.b,.int .i64 r.c,.slice none 0 0]:=by
      unfold rpc;rw[hok.rd]
     have HRPC:=zN hrpc
     have hL:L.length≤10:=by omega
     have hown:(wc.alloc (.cells #[.int .i64 r.kind,.string r.name,.int .i64 r.time,.int .i64 r.f,.int .i64 r.a,.int .i64 r.b,.int .i64 r.c,.slice none 0 0] 35)).ownsRow (Q+1) 35 8 (.slice pl L.length cl) L.length (L.flatMap rpc):=World.ownsRow.alloc hgs.row _
     have hszc:=hgs.sz
     clear hgs hok htm hrpc
     go_wp2_with (refine RX.wpl_apq (by rfl) elRep _ _ (by rfl) (Q+1) _ _ _ hown (by rfl) wc.heap.size _ 1 (by rfl) (heap_alloc_new _ _) (by rfl) (by simp[Value.oneCell']) (by omega) (by omega) (by simp;omega) ?_;intro v' wd hown2 hbd hgd hatd)
     clear c0 c1 c2 c3 c4 c5 c6 c7 hown
     have hgs:=HGS2.out.below ((zBr wc.heap.size wc).alloc (Nat.le_refl _) (.cells #[.int .i64 r.kind,.string r.name,.int .i64 r.time,.int .i64 r.f,.int .i64 r.a,.int .i64 r.b,.int .i64 r.c,.slice none 0 0] 35))
     generalize (wc.alloc (.cells #[.int .i64 r.kind,.string r.name,.int .i64 r.time,.int .i64 r.f,.int .i64 r.a,.int .i64 r.b,.int .i64 r.c,.slice none 0 0] 35))=we at *
     have hgs':GS w wd g b n Q v' (L ++ [r]) p':=by
      have h1:=hgs.gq
      have h3:=hgs.wq
      obtain⟨j,hj⟩:=hgs.s
      have hbd1:Below (Q+1) we wd:=hbd
      exact⟨hgs.q.block (hbd1.block Q (by omega)),hgs.ok,RepRow.snoc (by rw[HRPC.out];exact hown2),⟨hgd.os.trans hgs.gr.os,hgd.tape.trans hgs.gr.tape,hgd.output.trans hgs.gr.output,Nat.le_trans hgs.gr.size hgd.size,fun k hk hne=>(hgd.block k (Nat.lt_of_lt_of_le hk hgs.gr.size) (fun e=>by have:=(World.ownsRow.lt hgs.row k e.symm).1;omega)).trans (hgs.gr.block k hk hne)⟩,⟨j,hj.kept (hbd1.block g (by omega)) (fun h0=>hbd1.block b (by have:=hgs.bq h0;omega))⟩,Nat.le_trans hgs.sz hbd1.size,h1,hgs.bq,h3⟩
     have HG:=zN hgs'
     clear hgs' hgs hown2 hbd hgd hatd HGS2
     obtain⟨k',rfl⟩:∃ k',k=k'+1:=⟨k-1,by omega⟩
     go_wp2
     go_roundw
     case rel=>exact⟨L ++ [r],k',t+dt,p',rfl,by go_num,by simp;omega,by omega,by simp;omega,zN (fun s hs=>by
      rcases List.mem_append.1 hs with h|h
      ·have:=HO.out s h;exact⟨this.1,by omega⟩
      ·rw[List.mem_singleton] at h;subst h;exact⟨HOK.out,by rw[HTM.out];omega⟩),zN (List.pairwise_append.2 ⟨HP.out,List.pairwise_singleton _ _,fun x hx y hy=>by
      rw[List.mem_singleton] at hy;subst hy;have:=(HO.out x hx).2;rw[HTM.out];omega⟩),HG.out⟩
     case measure=>simp[intOf]<;>omega
  ·obtain rfl:k=0:=by omega
   have hdk:decide (((0:Nat):Int) > 0)=false:=zDf (by omega)
   go_wp2
   go_ret
   exact⟨_,L,rfl,own_mono hgs.row (by omega),fun r hr=>(HO.out r hr).1,HP.out,by omega,hgs.gr,hgs.s⟩
end Go.Proofs.YtbomggfklfbnkaaGreatDoor
