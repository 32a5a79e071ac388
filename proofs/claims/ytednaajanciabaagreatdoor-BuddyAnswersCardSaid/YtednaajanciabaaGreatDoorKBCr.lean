import Derived.Test.YtednaajanciabaaGreatDoorKRegion
import Derived.Test.YtednaajanciabaaGreatDoorKBCtl
import Derived.Test.YtednaajanciabaaGreatDoorKRpts
import Derived.Deep.CutBlock
set_option maxRecDepth 100000
set_option maxHeartbeats 8000000
set_option linter.unusedSimpArgs false
set_option linter.unusedVariables false
namespace Go.RX
open Go.RowKit
theorem tmpsL (xs:List Value) (ds:List Deferred) (t:Nat):(Act.mk xs.toArray ds).tmps[t]?.getD undef=xs.getD t undef:=by
 simp[List.getD_eq_getElem?_getD]
def RI (base:List Value) (ds:List Deferred) (sl:Nat→Nat) (k:Nat) (f:Nat→Value→World→Prop) (Wp:World→Prop) (Post:(Nat→Value)→World→Prop) (d:Nat→Bool) (ac:Act) (w:World):Prop:=
 ∃ xs:List Value,xs.length=base.length∧ac=⟨xs.toArray,ds⟩∧(∀ t,(∀ j,j < k→t≠sl j)→xs.getD t undef=base.getD t undef)∧
  ((d k=false∧Wp w∧∀ j,j < k→d j=true→f j (xs.getD (sl j) undef) w)∨((∀ j,j < k→d j=true)∧d k=true∧Post (fun j=>xs.getD (sl j) undef) w))
section
variable {base:List Value} {ds:List Deferred} {sl:Nat→Nat} {k:Nat} {f:Nat→Value→World→Prop} {Wp:World→Prop} {Post:(Nat→Value)→World→Prop} {d:Nat→Bool} {ac:Act} {w w':World}
theorem RI.start (hW:Wp w):RI base ds sl k f Wp Post (fun _=>false) ⟨base.toArray,ds⟩ w:=
 ⟨base,rfl,rfl,fun _ _=>rfl,.inl ⟨rfl,hW,fun _ _ h=>absurd h (by simp)⟩⟩
theorem RI.live (h:RI base ds sl k f Wp Post d ac w) {i:Nat} (hi:i≤k) (hd:d i=false):Wp w∧(∀ j t,t=sl j→j < k→d j=true→f j (ac.tmps[t]?.getD undef) w)∧∀ t,(∀ j,j < k→t≠sl j)→ac.tmps[t]?.getD undef=base.getD t undef:=by
 obtain⟨xs,hl,rfl,ho,⟨_,hw,hf⟩|⟨ha,hb,_⟩⟩:=h
 ·refine⟨hw,fun j t ht hj hdj=>?_,fun t ht=>by rw[tmpsL];exact ho t ht⟩
  subst ht
  rw[tmpsL]
  exact hf j hj hdj
 ·exfalso
  rcases Nat.lt_or_eq_of_le hi with h|h
  ·rw[ha i h] at hd;cases hd
  ·subst h;rw[hb] at hd;cases hd
theorem RI.put (h:RI base ds sl k f Wp Post d ac w) (hinj:∀ i j,i < k→j < k→sl i=sl j→i=j) (hlt:∀ j,j < k→sl j < base.length) {j:Nat} (hj:j < k) (hd:d j=false) {v:Value} (hv:f j v w') (hW:Wp w') (hk:∀ i x,i < k→f i x w→f i x w') :
  RI base ds sl k f Wp Post (fun i=>i == j || d i) (ac.put (some (sl j)) v) w':=by
 obtain⟨xs,hl,rfl,ho,⟨h9,hw,hf⟩|⟨ha,_,_⟩⟩:=h
 ·refine⟨xs.set (sl j) v,by simpa using hl,by simp[Act.put],fun t ht=>?_,.inl ⟨?_,hW,fun i hi hdi=>?_⟩⟩
  ·rw[List.getD_eq_getElem?_getD,List.getElem?_set_ne (Ne.symm (ht j hj)),←List.getD_eq_getElem?_getD]
   exact ho t ht
  ·have hne:(k == j)=false:=by rw[beq_eq_false_iff_ne];omega
   show (k == j || d k)=false
   rw[hne,h9];rfl
  ·by_cases hij:i=j
   ·subst hij
    rw[List.getD_eq_getElem?_getD,List.getElem?_set_self (by rw[hl];exact hlt i hi)]
    exact hv
   ·rw[List.getD_eq_getElem?_getD,List.getElem?_set_ne (fun e=>hij (hinj i j hi hj e.symm)),←List.getD_eq_getElem?_getD]
    exact hk i _ hi (hf i hi (by simpa[hij] using hdi))
 ·rw[ha j hj] at hd;cases hd
theorem RI.last (h:RI base ds sl k f Wp Post d ac w) (hd:d k=false) (hall:∀ j,j < k→d j=true) (hP:Post (fun j=>ac.tmps[sl j]?.getD undef) w'):RI base ds sl k f Wp Post (fun i=>i == k || d i) ac w':=by
 obtain⟨xs,hl,rfl,ho,_⟩:=h
 have e:(fun j=>(Act.mk xs.toArray ds).tmps[sl j]?.getD undef)=fun j=>xs.getD (sl j) undef:=funext fun j=>tmpsL xs ds (sl j)
 rw[e] at hP
 exact⟨xs,hl,rfl,ho,.inr ⟨fun j hj=>by show (j == k || d j)=true;rw[hall j hj];simp,by simp,hP⟩⟩
theorem RI.fin (h:RI base ds sl k f Wp Post d ac w) (hd:d k=true):∃ y:Nat→Value,Post y w∧ac=⟨((List.range k).foldl (fun l j=>l.set (sl j) (y j)) base).toArray,ds⟩:=by
 obtain⟨xs,hl,rfl,ho,⟨h9,_⟩|⟨_,_,hP⟩⟩:=h
 ·rw[hd] at h9;cases h9
 ·refine⟨_,hP,?_⟩
  have key:∀ m,m≤k→((List.range m).foldl (fun l j=>l.set (sl j) (xs.getD (sl j) undef)) base).length=base.length∧∀ t,(∃ j,j < m∧t=sl j)∨(∀ j,j < k→t≠sl j)→((List.range m).foldl (fun l j=>l.set (sl j) (xs.getD (sl j) undef)) base)[t]?=xs[t]?:=by
   intro m
   induction m with
   |zero=>
    intro _
    refine⟨rfl,fun t ht=>?_⟩
    rcases ht with ⟨j,hj,_⟩|ht
    ·omega
    ·have h1:=ho t ht
     show base[t]?=xs[t]?
     by_cases htl:t < base.length
     ·rw[List.getD_eq_getElem?_getD,List.getD_eq_getElem?_getD,List.getElem?_eq_getElem htl,List.getElem?_eq_getElem (by omega)] at h1
      rw[List.getElem?_eq_getElem htl,List.getElem?_eq_getElem (by omega)]
      exact congrArg some h1.symm
     ·rw[List.getElem?_eq_none (by omega),List.getElem?_eq_none (by omega)]
   |succ m ih=>
    intro hm
    obtain⟨h1,h2⟩:=ih (by omega)
    rw[List.range_succ,List.foldl_append]
    simp only[List.foldl_cons,List.foldl_nil]
    refine⟨by rw[List.length_set];exact h1,fun t ht=>?_⟩
    by_cases e:t=sl m
    ·subst e
     by_cases hlt:sl m < base.length
     ·rw[List.getElem?_set_self (by rw[h1];exact hlt),List.getD_eq_getElem?_getD,List.getElem?_eq_getElem (by omega)]
      rfl
     ·rw[List.getElem?_eq_none (by rw[List.length_set,h1];omega),List.getElem?_eq_none (by omega)]
    ·rw[List.getElem?_set_ne (Ne.symm e)]
     refine h2 t ?_
     rcases ht with ⟨j,hj,hjt⟩|ht
     ·by_cases hjm:j=m
      ·subst hjm;exact absurd hjt e
      ·exact .inl ⟨j,by omega,hjt⟩
     ·exact .inr ht
  congr 1
  apply congrArg List.toArray
  obtain⟨h1,h2⟩:=key k (Nat.le_refl _)
  refine (List.ext_getElem? fun t=>?_).symm
  by_cases ht:∃ j,j < k∧t=sl j
  ·exact h2 t (.inl ht)
  ·exact h2 t (.inr fun j hj e=>ht ⟨j,hj,e⟩)
end
end Go.RX
namespace Go.Proofs.YtednaajanciabaaGreatDoor
open Go.RowKit Go.Grid Go.Buddy
abbrev rdV (D:Rdg):List Value:=D.flatMap (fun x=>[.int .i64 x.1,.int .i64 x.2])
def RdOwn (w:World) (base:Nat) (v:Value) (D:Rdg):Prop:=w.ownsRow base 55 2 v D.length (rdV D)
theorem elRd:RX.ElemOf Tryz.prog 42 55 (.agg #[.int .i64 0,.int .i64 0]) 2 16:=⟨Tryz.underlying42,by kernel_rfl,rfl,by decide⟩
theorem rdV_len (D:Rdg):(rdV D).length=D.length*2:=by
 induction D with
 |nil=>rfl
 |cons p D ih=>simp only[rdV,List.flatMap_cons,List.length_append,List.length_cons] at ih ⊢;rw[ih];simp;omega
theorem rdV_get:∀ (D:Rdg) (m:Nat) (h:m < D.length),(rdV D)[m*2]?=some (.int .i64 D[m].1)∧(rdV D)[m*2+1]?=some (.int .i64 D[m].2)
 |p :: D,0,h=>⟨rfl,rfl⟩
 |p :: D,m+1,h=>by
  have ih:=rdV_get D m (by simpa using h)
  have e:∀ j,(rdV (p :: D))[j+2]?=(rdV D)[j]?:=fun j=>by
   simp only[rdV,List.flatMap_cons]
   rw[List.getElem?_append_right (by simp)]
   simp
  rw[show (m+1)*2=m*2+2 by omega,show m*2+2+1=m*2+1+2 by omega,e,e]
  exact ih
theorem RdOwn.snoc {w:World} {base:Nat} {v:Value} {D:Rdg} {a b:Int} (h:w.ownsRow base 55 2 v (D.length+1) (rdV D ++ [.int .i64 a,.int .i64 b])):RdOwn w base v (D ++ [(a,b)]):=by
 unfold RdOwn
 rw[List.length_append,show rdV (D ++ [(a,b)])=rdV D ++ [.int .i64 a,.int .i64 b] by simp[rdV,List.flatMap_append]]
 exact h
theorem RdOwn.form {w:World} {base:Nat} {v:Value} {D:Rdg} (h:RdOwn w base v D):∃ p cap,v=.slice p D.length cap∧D.length≤cap∧RdgIn w p D∧(0 < D.length→∃ b,p=some ⟨b,0,none⟩∧base≤b∧b < w.heap.size):=by
 rcases Nat.eq_zero_or_pos D.length with h0|h0
 ·obtain⟨p,cap,rfl,hc⟩:=own_slice h
  obtain rfl:=List.length_eq_zero_iff.1 h0
  exact⟨p,cap,rfl,hc,RdgIn.nil _ _,fun h=>absurd h (by simp)⟩
 ·obtain⟨g,cap,cur,rfl,hc,hb,hg⟩:=own_some h h0
  refine⟨_,cap,rfl,hc,⟨g,0,fun _=>rfl,fun m hm=>?_⟩,fun _=>⟨g,rfl,hb,(World.ownsRow.lt h g rfl).2⟩⟩
  have e:=rdV_get D m hm
  rw[Nat.zero_add]
  exact⟨by rw[World.ownsRow.cellAt h (m*2) (by omega),e.1],by rw[World.ownsRow.cellAt h (m*2+1) (by omega),e.2]⟩
structure CrRow (w:World) (base:Nat) (v:Value) (L:List BR):Prop where
 row:RepRow w base v (L.map Prod.fst)
 rd:∀ x∈L,BOk w x
 ne:∀ x∈L,∀ a n c,x.1.rd=.slice (some a) n c→0 < x.2.length→base≤a.block∧v.ownBlock≠some a.block
theorem CrRow.nil (w:World) (base:Nat):CrRow w base (.slice none 0 0) []:=⟨RepRow.nil _ _,fun x h=>(by cases h),fun x h=>(by cases h)⟩
theorem BOk.turn {w w':World} {x:BR} (h:BOk w x) (hb:∀ a n c,x.1.rd=.slice (some a) n c→0 < x.2.length→w'.heap[a.block]?=w.heap[a.block]?):BOk w' x:=by
 obtain⟨q,cap,h1,h2⟩:=h.ex
 exact⟨⟨q,cap,h1,h2.turn (fun a ha h0=>hb a _ _ (by rw[h1,ha]) h0)⟩,h.len⟩
theorem BOk.blk {w:World} {x:BR} (h:BOk w x) {a:Addr} {n c:Nat} (ha:x.1.rd=.slice (some a) n c) (h0:0 < x.2.length):a.block < w.heap.size:=by
 obtain⟨q,cap,h1,h2⟩:=h.ex
 rw[ha] at h1
 injection h1 with e1 e2 e3
 exact h2.lt a e1.symm h0
theorem CrRow.kept {w w':World} {base:Nat} {v:Value} {L:List BR} (h:CrRow w base v L) (row:Option Nat) (hg:w.grownBy w' row) (hr:∀ k,row=some k→k < base∨w.heap.size≤k):CrRow w' base v L:=by
 refine⟨World.ownsRow.kept h.row hg ?_,fun x hx=>(h.rd x hx).turn (fun a n c ha h0=>?_),h.ne⟩
 ·cases ho:v.ownBlock with
  |none=>exact .inl rfl
  |some k=>exact .inr (fun e=>by have h1:=World.ownsRow.lt h.row k ho;rcases hr k e.symm with h2|h2<;>omega)
 ·refine hg.block _ ((h.rd x hx).blk ha h0) (fun e=>?_)
  have h1:=(h.ne x hx a n c ha h0).1
  have h2:=(h.rd x hx).blk ha h0
  rcases hr _ e.symm with h3|h3<;>omega
theorem CrRow.below {w w':World} {base:Nat} {v:Value} {L:List BR} (h:CrRow w base v L) (hb:Below w.heap.size w w'):CrRow w' base v L:=h.kept none (grw_below hb none) (fun k e=>by cases e)
theorem CrRow.mono {w:World} {base base':Nat} {v:Value} {L:List BR} (h:CrRow w base v L) (hb:base'≤base):CrRow w base' v L:=
 ⟨own_mono h.row hb,h.rd,fun x hx a n c ha h0=>⟨Nat.le_trans hb (h.ne x hx a n c ha h0).1,(h.ne x hx a n c ha h0).2⟩⟩
theorem map_snoc (L:List BR) (x:BR):(L ++ [x]).map Prod.fst=L.map Prod.fst ++ [x.1]:=by simp
theorem CrRow.snoc {w w1 w2:World} {base:Nat} {v v':Value} {L:List BR} {x:BR} (h:CrRow w base v L) (hb:Below w.heap.size w w1) (hown:w2.ownsRow base 44 8 v' (L.length+1) ((L.map Prod.fst).flatMap rpc ++ rpc x.1))
  (hg:w1.grownBy w2 v.ownBlock) (hat:v'.ownBlock=v.ownBlock∨v'.ownBlock=some w1.heap.size) (hx:BOk w1 x) (hne:∀ a n c,x.1.rd=.slice (some a) n c→0 < x.2.length→base≤a.block∧v.ownBlock≠some a.block):CrRow w2 base v' (L ++ [x]):=by
 have hall:∀ y∈L ++ [x],BOk w1 y∧∀ a n c,y.1.rd=.slice (some a) n c→0 < y.2.length→base≤a.block∧v.ownBlock≠some a.block:=fun y hy=>by
  rcases List.mem_append.1 hy with h1|h1
  ·exact⟨(h.rd y h1).below hb,h.ne y h1⟩
  ·rw[List.mem_singleton.1 h1];exact⟨hx,hne⟩
 refine⟨?_,fun y hy=>?_,fun y hy a n c ha h0=>?_⟩
 ·rw[map_snoc]
  refine RepRow.snoc ?_
  rw[List.length_map];exact hown
 ·obtain⟨h1,h2⟩:=hall y hy
  exact h1.turn (fun a n c ha h0=>hg.block _ (h1.blk ha h0) (fun e=>(h2 a n c ha h0).2 e.symm))
 ·obtain⟨h1,h2⟩:=hall y hy
  refine⟨(h2 a n c ha h0).1,fun e=>?_⟩
  rcases hat with h3|h3
  ·exact (h2 a n c ha h0).2 (by rw[←h3];exact e)
  ·rw[h3] at e
   injection e with e
   have:=h1.blk ha h0
   omega
theorem CrRow.form {w:World} {base:Nat} {v:Value} {L:List BR} (h:CrRow w base v L):∃ p cap,v=.slice p L.length cap∧L.length≤cap∧VecB w p L∧(0 < L.length→∃ b,p=some ⟨b,0,none⟩∧base≤b∧b < w.heap.size):=by
 obtain⟨p,cap,h1,h2,h3,h4⟩:=RepRow.form h.row (fun r hr=>by
  obtain⟨x,hx,rfl⟩:=List.mem_map.1 hr
  obtain⟨q,c,e,_⟩:=(h.rd x hx).ex
  exact⟨q,_,c,e⟩)
 rw[List.length_map] at h1 h2 h4
 exact⟨p,cap,h1,h2,⟨h3,h.rd⟩,h4⟩
theorem valE_ok {D:Rdg} (h:∀ x∈D,okC x.1∧(bnd x.1).1≤x.2∧x.2≤(bnd x.1).2) (ha:AscR D):valE D=0:=by
 have key:∀ x∈D,checkE x.1 x.2=0:=fun x hx=>by
  obtain⟨h1,h2,h3⟩:=h x hx
  unfold checkE
  rw[if_pos h1,if_neg (by omega)]
 refine valE0 ?_ ?_ ha
 ·rw[List.any_eq_false];intro x hx;rw[key x hx];decide
 ·rw[List.any_eq_false];intro x hx;rw[key x hx];decide
theorem vaB_pl {r:Rep} {p:Pl} (hp:p.Ok) (h1:r.f=p.f) (h2:r.a=p.a) (h3:r.b=p.b) (h4:r.c=p.c):vaB r=true:=by
 unfold vaB validB
 refine zDt ?_
 have h5:=hp.f
 have h6:=hp.s
 unfold ValidI
 omega
def crNames:List ByteArray:=[{ data:=#[65,76,80,72,65] },{ data:=#[66,82,65,86,79] },{ data:=#[48,49,50,51,52] },{ data:=#[68,69,76,84,65] },{ data:=#[69,67,72,79,55] },{ data:=#[55,55,55,55,55] },{ data:=#[71,79,76,70,49] },{ data:=#[72,79,84,69,76] },{ data:=#[73,78,68,73,65] },{ data:=#[74,85,76,73,65] }]
structure CrOk (x:BR):Prop where
 va:vaB x.1=true
 ve:valE x.2=0
 nm:x.1.name∈crNames
structure CrS (w wr:World) (g b n Q:Nat) (p:Pl) (v:Value) (L:List BR):Prop where
 q:PlAt wr Q p.f p.a p.b p.c
 ok:p.Ok
 nm:∀ j (h:j < crNames.length),wr.cell? ⟨Q+1,j,none⟩=some (.string crNames[j])
 row:CrRow wr (Q+2) v L
 all:∀ x∈L,CrOk x
 gr:w.grownBy wr (some g)
 s:∃ j,SrcAt wr g b n j
 sz:Q+2≤wr.heap.size
 gq:g < Q
 bq:0 < n→b < Q
 wq:w.heap.size≤Q
theorem CrS.kept {w wr w':World} {g b n Q:Nat} {p:Pl} {v:Value} {L:List BR} (h:CrS w wr g b n Q p v L) (row:Option Nat) (hg:wr.grownBy w' row) (hr:∀ k,row=some k→k=g∨wr.heap.size≤k) (hs:∃ j,SrcAt w' g b n j):CrS w w' g b n Q p v L:=by
 have h1:=h.gq
 have h2:=h.wq
 have h3:=h.sz
 have h4:=h.gr.size
 refine⟨h.q.block (hg.block _ h.q.lt (fun e=>?_)),h.ok,fun j hj=>hg.cell (h.nm j hj) (fun e=>?_),h.row.kept row hg (fun k e=>?_),h.all,⟨hg.os.trans h.gr.os,hg.tape.trans h.gr.tape,hg.output.trans h.gr.output,Nat.le_trans h.gr.size hg.size,fun k hk hne=>(hg.block k (Nat.lt_of_lt_of_le hk h.gr.size) (fun e=>?_)).trans (h.gr.block k hk hne)⟩,hs,Nat.le_trans h.sz hg.size,h.gq,h.bq,h.wq⟩
 ·have h5:=h.q.lt
  rcases hr Q e.symm with h6|h6<;>omega
 ·rcases hr (Q+1) e.symm with h6|h6<;>omega
 ·rcases hr k e with h6|h6
  ·exact .inl (by omega)
  ·exact .inr h6
 ·rcases hr k e.symm with h6|h6
  ·subst h6;exact hne rfl
  ·omega
theorem CrS.grown {w wr w':World} {g b n Q:Nat} {p:Pl} {v:Value} {L:List BR} (h:CrS w wr g b n Q p v L) (hg:wr.grownBy w' (some g)) (hs:∃ j,SrcAt w' g b n j):CrS w w' g b n Q p v L:=
 h.kept (some g) hg (fun k e=>.inl (by injection e with e;exact e.symm)) hs
theorem CrS.below {w wr w':World} {g b n Q:Nat} {p:Pl} {v:Value} {L:List BR} (h:CrS w wr g b n Q p v L) (hb:Below wr.heap.size wr w'):CrS w w' g b n Q p v L:=by
 obtain⟨j,hj⟩:=h.s
 exact h.kept none (grw_below hb none) (fun k e=>by cases e) ⟨j,hj.below hb⟩
theorem CrS.store {w wr:World} {g b n Q R i:Nat} {p:Pl} {v u:Value} {L:List BR} (h:CrS w wr g b n Q p v L) (hR:Q+2≤R) (hv:∀ k,v.ownBlock=some k→k < R) (hL:∀ x∈L,∀ a m c,x.1.rd=.slice (some a) m c→0 < x.2.length→a.block < R):CrS w (wr.setCell ⟨R,i,none⟩ u) g b n Q p v L:=by
 have h1:=h.gq
 have h2:=h.wq
 have hg:wr.grownBy (wr.setCell ⟨R,i,none⟩ u) (some R):=grw_set (grw_refl _ _) (.inl rfl)
 obtain⟨j,hj⟩:=h.s
 refine⟨h.q.set (by omega),h.ok,fun j hj=>hg.cell (h.nm j hj) (by simp;omega),⟨World.ownsRow.kept h.row.row hg ?_,fun x hx=>(h.row.rd x hx).turn (fun a m c ha h0=>hg.block _ ((h.row.rd x hx).blk ha h0) (fun e=>?_)),h.row.ne⟩,h.all,grw_set h.gr (.inr (by omega)),⟨j,hj.other (by omega) (fun h0=>by have:=h.bq h0;omega)⟩,by simpa using h.sz,h1,h.bq,h2⟩
 ·cases ho:v.ownBlock with
  |none=>exact .inl rfl
  |some k=>exact .inr (fun e=>by injection e with e;have:=hv k ho;omega)
 ·injection e with e
  have:=hL x hx a m c ha h0
  omega
structure CrR (w wr:World) (g b n Q R:Nat) (p:Pl) (v:Value) (L:List BR) (r:Rep) (D:Rdg) (c:Int):Prop where
 s:CrS w wr g b n Q p v L
 rp:RptW wr R r
 own:RdOwn wr (R+1) r.rd D
 hR:Q+2≤R
 hv:∀ k,v.ownBlock=some k→k < R
 hL:∀ x∈L,∀ a m c,x.1.rd=.slice (some a) m c→0 < x.2.length→a.block < R
 va:vaB r=true
 nm:r.name∈crNames
 rd:∀ x∈D,okC x.1∧(bnd x.1).1≤x.2∧x.2≤(bnd x.1).2
 lt:∀ x∈D,x.1 < c
 asc:AscR D
 len:D.length≤12
theorem CrR.kept {w wr w':World} {g b n Q R:Nat} {p:Pl} {v:Value} {L:List BR} {r:Rep} {D:Rdg} {c:Int} (h:CrR w wr g b n Q R p v L r D c) (row:Option Nat) (hg:wr.grownBy w' row) (hr:∀ k,row=some k→k=g∨wr.heap.size≤k) (hs:∃ j,SrcAt w' g b n j):CrR w w' g b n Q R p v L r D c:=by
 have h1:=h.s.gq
 have h2:=h.hR
 have h3:=h.rp.lt
 refine⟨h.s.kept row hg hr hs,h.rp.block (hg.block _ h3 (fun e=>?_)),World.ownsRow.kept h.own hg ?_,h.hR,h.hv,h.hL,h.va,h.nm,h.rd,h.lt,h.asc,h.len⟩
 ·rcases hr R e.symm with h6|h6<;>omega
 ·cases ho:r.rd.ownBlock with
  |none=>exact .inl rfl
  |some k=>exact .inr (fun e=>by have h4:=World.ownsRow.lt h.own k ho;rcases hr k e.symm with h6|h6<;>omega)
theorem CrR.grown {w wr w':World} {g b n Q R:Nat} {p:Pl} {v:Value} {L:List BR} {r:Rep} {D:Rdg} {c:Int} (h:CrR w wr g b n Q R p v L r D c) (hg:wr.grownBy w' (some g)) (hs:∃ j,SrcAt w' g b n j):CrR w w' g b n Q R p v L r D c:=
 h.kept (some g) hg (fun k e=>.inl (by injection e with e;exact e.symm)) hs
theorem CrR.below {w wr w':World} {g b n Q R:Nat} {p:Pl} {v:Value} {L:List BR} {r:Rep} {D:Rdg} {c:Int} (h:CrR w wr g b n Q R p v L r D c) (hb:Below wr.heap.size wr w'):CrR w w' g b n Q R p v L r D c:=by
 obtain⟨j,hj⟩:=h.s.s
 exact h.kept none (grw_below hb none) (fun k e=>by cases e) ⟨j,hj.below hb⟩
theorem CrR.start {w wr:World} {g b n Q:Nat} {p:Pl} {v:Value} {L:List BR} {k:Int} {s:ByteArray} {t:Int} (h:CrS w wr g b n Q p v L) (hs:s∈crNames) :
  CrR w (wr.alloc (.cells #[.int .i64 k,.string s,.int .i64 t,.int .i64 p.f,.int .i64 p.a,.int .i64 p.b,.int .i64 p.c,.slice none 0 0] 44)) g b n Q wr.heap.size p v L ⟨k,s,t,p.f,p.a,p.b,p.c,.slice none 0 0⟩ [] 1:=
 ⟨h.below ((zBr _ _).alloc (Nat.le_refl _) _),RptW.new wr ⟨k,s,t,p.f,p.a,p.b,p.c,.slice none 0 0⟩,World.ownsRow_nil _ _ _ _,h.sz,fun k hk=>(World.ownsRow.lt h.row.row k hk).2,fun x hx a m c ha h0=>(h.row.rd x hx).blk ha h0,vaB_pl h.ok rfl rfl rfl rfl,hs,fun x hx=>(by cases hx),fun x hx=>(by cases hx),List.Pairwise.nil,by simp⟩
theorem CrR.place {w wr:World} {g b n Q R:Nat} {p q:Pl} {v:Value} {L:List BR} {r:Rep} {c:Int} (h:CrR w wr g b n Q R p v L r [] c) (hq:q.Ok) :
  CrR w ((((wr.setCell ⟨R,3,none⟩ (.int .i64 q.f)).setCell ⟨R,4,none⟩ (.int .i64 q.a)).setCell ⟨R,5,none⟩ (.int .i64 q.b)).setCell ⟨R,6,none⟩ (.int .i64 q.c)) g b n Q R p v L ⟨r.kind,r.name,r.time,q.f,q.a,q.b,q.c,r.rd⟩ [] c:=by
 have hg:wr.grownBy ((((wr.setCell ⟨R,3,none⟩ (.int .i64 q.f)).setCell ⟨R,4,none⟩ (.int .i64 q.a)).setCell ⟨R,5,none⟩ (.int .i64 q.b)).setCell ⟨R,6,none⟩ (.int .i64 q.c)) (some R):=grw_set (grw_set (grw_set (grw_set (grw_refl _ _) (.inl rfl)) (.inl rfl)) (.inl rfl)) (.inl rfl)
 refine⟨(((h.s.store h.hR h.hv h.hL).store h.hR h.hv h.hL).store h.hR h.hv h.hL).store h.hR h.hv h.hL,(((h.rp.set3 _).set4 _).set5 _).set6 _,World.ownsRow.kept h.own hg ?_,h.hR,h.hv,h.hL,vaB_pl hq rfl rfl rfl rfl,h.nm,h.rd,h.lt,h.asc,h.len⟩
 cases ho:r.rd.ownBlock with
 |none=>exact .inl rfl
 |some k=>exact .inr (fun e=>by injection e with e;have:=World.ownsRow.lt h.own k ho;omega)
theorem CrR.next {w wr:World} {g b n Q R:Nat} {p:Pl} {v:Value} {L:List BR} {r:Rep} {D:Rdg} {c c':Int} (h:CrR w wr g b n Q R p v L r D c) (hc:c≤c'):CrR w wr g b n Q R p v L r D c':=
 ⟨h.s,h.rp,h.own,h.hR,h.hv,h.hL,h.va,h.nm,h.rd,fun x hx=>Int.lt_of_lt_of_le (h.lt x hx) hc,h.asc,h.len⟩
theorem CrR.add {w wr w1 w2:World} {g b n Q R:Nat} {p:Pl} {v v':Value} {L:List BR} {r:Rep} {D:Rdg} {c x:Int} (h:CrR w wr g b n Q R p v L r D c) (hb:Below wr.heap.size wr w1) (hg:w1.grownBy w2 r.rd.ownBlock) (hown:w2.ownsRow (R+1) 55 2 v' (D.length+1) (rdV D ++ [.int .i64 c,.int .i64 x]))
  (hc:okC c) (hx:(bnd c).1≤x∧x≤(bnd c).2) (hl:D.length+1≤12) (hvb:v'.ownBlock≠some R):CrR w (w2.setCell ⟨R,7,none⟩ v') g b n Q R p v L ⟨r.kind,r.name,r.time,r.f,r.a,r.b,r.c,v'⟩ (D ++ [(c,x)]) (c+1):=by
 have h0:=h.below hb
 have hR:=h.hR
 have hgq:=h.s.gq
 have hrow:∀ k,r.rd.ownBlock=some k→R+1≤k:=fun k hk=>(World.ownsRow.lt h.own k hk).1
 have hs2:CrS w w2 g b n Q p v L:=by
  have k1:=h0.s
  obtain⟨j,hj⟩:=k1.s
  refine⟨k1.q.block (hg.block _ k1.q.lt (fun e=>?_)),k1.ok,fun j hj=>hg.cell (k1.nm j hj) (fun e=>?_),⟨World.ownsRow.kept k1.row.row hg ?_,fun y hy=>(k1.row.rd y hy).turn (fun a m c ha h0=>hg.block _ ((k1.row.rd y hy).blk ha h0) (fun e=>?_)),k1.row.ne⟩,k1.all,⟨hg.os.trans k1.gr.os,hg.tape.trans k1.gr.tape,hg.output.trans k1.gr.output,Nat.le_trans k1.gr.size hg.size,fun k hk hne=>(hg.block k (Nat.lt_of_lt_of_le hk k1.gr.size) (fun e=>?_)).trans (k1.gr.block k hk hne)⟩,⟨j,hj.kept (hg.block g hj.lt (fun e=>?_)) (fun h0=>hg.block b (hj.ltb h0) (fun e=>?_))⟩,Nat.le_trans k1.sz hg.size,k1.gq,k1.bq,k1.wq⟩
  ·have:=hrow Q e.symm;omega
  ·have:=hrow (Q+1) e.symm;omega
  ·cases ho:v.ownBlock with
   |none=>exact .inl rfl
   |some k=>exact .inr (fun e=>by have h1:=hrow k e.symm;have h2:=h.hv k ho;omega)
  ·have h1:=hrow _ e.symm
   have h2:=h.hL y hy a m c ha h0
   omega
  ·have h1:=hrow k e.symm
   have h2:=k1.wq
   omega
  ·have:=hrow g e.symm;omega
  ·have h1:=hrow b e.symm
   have h2:=k1.bq h0
   omega
 have hr2:RptW w2 R r:=h0.rp.block (hg.block _ h0.rp.lt (fun e=>by have:=hrow R e.symm;omega))
 have hgS:w2.grownBy (w2.setCell ⟨R,7,none⟩ v') (some R):=grw_set (grw_refl _ _) (.inl rfl)
 refine⟨hs2.store h.hR h.hv h.hL,hr2.set7 v',?_,h.hR,h.hv,h.hL,h.va,h.nm,fun y hy=>?_,fun y hy=>?_,?_,by rw[List.length_append];exact hl⟩
 ·refine World.ownsRow.kept (RdOwn.snoc hown) hgS ?_
  cases ho:v'.ownBlock with
  |none=>exact .inl rfl
  |some k=>exact .inr (fun e=>hvb (by rw[ho,e]))
 ·rcases List.mem_append.1 hy with h1|h1
  ·exact h.rd y h1
  ·rw[List.mem_singleton.1 h1];exact⟨hc,hx⟩
 ·rcases List.mem_append.1 hy with h1|h1
  ·have:=h.lt y h1;omega
  ·rw[List.mem_singleton.1 h1];show c < c+1;omega
 ·exact List.pairwise_append.2 ⟨h.asc,List.pairwise_singleton _ _,fun y hy z hz=>by rw[List.mem_singleton.1 hz];exact h.lt y hy⟩
theorem CrR.join {w wr w1 w2:World} {g b n Q R:Nat} {p:Pl} {v v':Value} {L:List BR} {r:Rep} {D:Rdg} {c:Int} (h:CrR w wr g b n Q R p v L r D c) (hb:Below wr.heap.size wr w1) (hg:w1.grownBy w2 v.ownBlock)
  (hown:w2.ownsRow (Q+2) 44 8 v' (L.length+1) ((L.map Prod.fst).flatMap rpc ++ rpc r)) (hat:v'.ownBlock=v.ownBlock∨v'.ownBlock=some w1.heap.size):CrS w w2 g b n Q p v' (L ++ [(r,D)]):=by
 have h0:=h.below hb
 have k1:=h0.s
 have hgq:=h.s.gq
 have hR:=h.hR
 have hrow:∀ k,v.ownBlock=some k→Q+2≤k:=fun k hk=>(World.ownsRow.lt h.s.row.row k hk).1
 obtain⟨pr,cr,hrd,hcr,hin,hpb⟩:=RdOwn.form h0.own
 have hbk:BOk w1 (r,D):=⟨⟨pr,cr,hrd,hin⟩,by have:=h.len;show D.length≤1000000000;omega⟩
 have hne:∀ a m c,r.rd=.slice (some a) m c→0 < D.length→Q+2≤a.block∧v.ownBlock≠some a.block:=fun a m c ha hd=>by
  obtain⟨q,rfl,h2,h3⟩:=hpb hd
  rw[hrd] at ha
  injection ha with e1 e2 e3
  injection e1 with e1
  subst e1
  refine⟨by show Q+2≤q;omega,fun e=>?_⟩
  have:=h.hv q e
  omega
 obtain⟨j,hj⟩:=k1.s
 refine⟨k1.q.block (hg.block _ k1.q.lt (fun e=>?_)),k1.ok,fun j hj=>hg.cell (k1.nm j hj) (fun e=>?_),CrRow.snoc (h.s.row) hb hown hg hat hbk hne,fun y hy=>?_,⟨hg.os.trans k1.gr.os,hg.tape.trans k1.gr.tape,hg.output.trans k1.gr.output,Nat.le_trans k1.gr.size hg.size,fun k hk hne=>(hg.block k (Nat.lt_of_lt_of_le hk k1.gr.size) (fun e=>?_)).trans (k1.gr.block k hk hne)⟩,⟨j,hj.kept (hg.block g hj.lt (fun e=>?_)) (fun h0=>hg.block b (hj.ltb h0) (fun e=>?_))⟩,Nat.le_trans k1.sz hg.size,k1.gq,k1.bq,k1.wq⟩
 ·have:=hrow Q e.symm;omega
 ·have:=hrow (Q+1) e.symm;omega
 ·rcases List.mem_append.1 hy with h1|h1
  ·exact h.s.all y h1
  ·rw[List.mem_singleton.1 h1]
   exact⟨h.va,valE_ok h.rd h.asc,h.nm⟩
 ·have h1:=hrow k e.symm
  have h2:=k1.wq
  omega
 ·have:=hrow g e.symm;omega
 ·have h1:=hrow b e.symm
  have h2:=k1.bq h0
  omega
theorem CrR.made {w w1:World} {g b n Q o:Nat} {p:Pl} {v:Value} {L:List BR} {k:Int} {s:ByteArray} {t:Int} {r0:Rep} (h:CrS w w1 g b n Q p v L) (hr:RptW w1 o r0) (hR:Q+2≤o) (hv:∀ k,v.ownBlock=some k→k < o) (hL:∀ x∈L,∀ a m c,x.1.rd=.slice (some a) m c→0 < x.2.length→a.block < o) (hs:s∈crNames) :
  CrR w ((((((((w1.setCell ⟨o,0,none⟩ (.int .i64 k)).setCell ⟨o,1,none⟩ (.string s)).setCell ⟨o,2,none⟩ (.int .i64 t)).setCell ⟨o,3,none⟩ (.int .i64 p.f)).setCell ⟨o,4,none⟩ (.int .i64 p.a)).setCell ⟨o,5,none⟩ (.int .i64 p.b)).setCell ⟨o,6,none⟩ (.int .i64 p.c)).setCell ⟨o,7,none⟩ (.slice none 0 0)) g b n Q o p v L ⟨k,s,t,p.f,p.a,p.b,p.c,.slice none 0 0⟩ [] 1:=
 ⟨(((((((h.store hR hv hL).store hR hv hL).store hR hv hL).store hR hv hL).store hR hv hL).store hR hv hL).store hR hv hL).store hR hv hL,RptW.set8 hr k s t p.f p.a p.b p.c (.slice none 0 0),World.ownsRow_nil _ _ _ _,hR,hv,hL,vaB_pl h.ok rfl rfl rfl rfl,hs,fun x hx=>(by cases hx),fun x hx=>(by cases hx),List.Pairwise.nil,by simp⟩
def slC (j:Nat):Nat:=if j=11 then 11 else 26+j
theorem slC_inj (i j:Nat) (hi:i < 12) (hj:j < 12) (h:slC i=slC j):i=j:=by unfold slC at h;split at h<;>split at h<;>omega
theorem slC_lt (j:Nat) (hj:j < 12):slC j < 102:=by unfold slC;split<;>omega
theorem slC_ne {t:Nat} (h1:t < 26) (h2:t≠11) (j:Nat) (hj:j < 12):t≠slC j:=by unfold slC;split<;>omega
def rep00:Rep:=⟨0,{ data:=#[] },0,0,0,0,0,.slice none 0 0⟩
def crF (g Q:Nat) (p:Pl) (near:Int) (v:Value) (L:List BR):Nat→Value→World→Prop
 |0,x,_=>x=.pointer (some ⟨g,0,none⟩)
 |1,x,_=>∃ t,x=.int .i64 t
 |2,x,_=>x=.pointer (some ⟨g,0,none⟩)
 |3,x,_=>x=.slice (some ⟨Q+1,0,none⟩) 10 10
 |4,x,_=>∃ s,s∈crNames∧x=.string s
 |5,x,_=>x=.int .i64 near
 |6,x,_=>x=.pointer (some ⟨g,0,none⟩)
 |7,x,_=>∃ t,0≤t∧t≤50∧x=.int .i64 t
 |8,x,_=>∃ t,x=.int .i64 t
 |9,x,_=>x=.agg #[.int .i64 p.f,.int .i64 p.a,.int .i64 p.b,.int .i64 p.c]
 |10,x,_=>∃ k s t,s∈crNames∧x=.agg #[.int .i64 k,.string s,.int .i64 t,.int .i64 p.f,.int .i64 p.a,.int .i64 p.b,.int .i64 p.c,.slice none 0 0]
 |11,x,w=>∃ o,x=.pointer (some ⟨o,0,none⟩)∧Q+2≤o∧RptW w o rep00∧(∀ k,v.ownBlock=some k→k < o)∧∀ y∈L,∀ a m c,y.1.rd=.slice (some a) m c→0 < y.2.length→a.block < o
 |_,_,_=>True
theorem crF.keep {g Q:Nat} {p:Pl} {near:Int} {v:Value} {L:List BR} {w w':World} (hgq:g < Q) (row:Option Nat) (hg:w.grownBy w' row) (hr:∀ k,row=some k→k=g∨w.heap.size≤k) (i:Nat) (x:Value) (_:i < 12) (h:crF g Q p near v L i x w):crF g Q p near v L i x w':=by
 unfold crF at *
 split at h
 all_goals first
  |exact h
  |(obtain⟨o,h1,h2,h3,h4⟩:=h;exact⟨o,h1,h2,h3.block (hg.block _ h3.lt (fun e=>by have h5:=h3.lt;rcases hr o e.symm with h6|h6<;>omega)),h4⟩)
def crPost (w:World) (g b n Q:Nat) (p:Pl) (v:Value) (L:List BR) (y:Nat→Value) (w':World):Prop:=∃ o r,y 11=.pointer (some ⟨o,0,none⟩)∧CrR w w' g b n Q o p v L r [] 1
def crBase:Nat→Int:=fun j=>[(0:Int),10100,2850,2800,0,50,1460,2780,3010,2680,5570,2520].getD j 0
theorem crBase_bd (c:Nat) (hc:c < 12):0≤crBase c∧crBase c≤10100:=by
 have h:c=0∨c=1∨c=2∨c=3∨c=4∨c=5∨c=6∨c=7∨c=8∨c=9∨c=10∨c=11:=by omega
 rcases h with rfl|rfl|rfl|rfl|rfl|rfl|rfl|rfl|rfl|rfl|rfl|rfl<;>decide
theorem crowd_any (w:World) (g b n i:Nat) (h:SrcAt w g b n i) (N:Nat) (hN:N≤20) (near:Int) (hn0:0≤near) (hn1:near≤100000000) :
  Calls Tryz.prog 10 #[.pointer (some ⟨g,0,none⟩),.int .i64 (N:Int),.int .i64 near] w fun e w'=>∃ v L,e=.returned v∧CrRow w' w.heap.size v L∧(∀ x∈L,CrOk x)∧L.length≤N∧w.grownBy w' (some g)∧∃ j,SrcAt w' g b n j:=by
 have hg:=h.lt
 have hb0:0 < n→b < w.heap.size:=fun h0=>h.ltb h0
 go_enter Tryz.func10,Tryz.ntmps10
 go_wp2_with fail
 refine (dplace_any w g b n i h hb0).mono ?_
 rintro e w1 ⟨p0,rfl,hp0,hg1,i1,h1⟩
 have hpv:Hid (pv p0=.agg #[.int .i64 p0.f,.int .i64 p0.a,.int .i64 p0.b,.int .i64 p0.c]):=zN rfl
 rw[hpv.out]
 have HB0:=zN hb0
 have HP0:=zN hp0
 have HG1:=zN hg1
 have H1:=zN h1
 have hsz1:=hg1.size
 clear h h1 hg1 hp0 hb0
 have HC0':Hid (CrS w ((w1.alloc (.cells #[.int .i64 p0.f,.int .i64 p0.a,.int .i64 p0.b,.int .i64 p0.c] 41)).alloc (.cells #[.string { data:=#[65,76,80,72,65] },.string { data:=#[66,82,65,86,79] },.string { data:=#[48,49,50,51,52] },.string { data:=#[68,69,76,84,65] },.string { data:=#[69,67,72,79,55] },.string { data:=#[55,55,55,55,55] },.string { data:=#[71,79,76,70,49] },.string { data:=#[72,79,84,69,76] },.string { data:=#[73,78,68,73,65] },.string { data:=#[74,85,76,73,65] }] 9)) g b n w1.heap.size p0 (.slice none 0 0) []):=zN ⟨(PlAt.new w1 p0.f p0.a p0.b p0.c).below ((zBr _ _).alloc (by simp) _),HP0.out,(fun j hj=>by
  have hj:j < 10:=hj
  have hc:j=0∨j=1∨j=2∨j=3∨j=4∨j=5∨j=6∨j=7∨j=8∨j=9:=by omega
  rcases hc with rfl|rfl|rfl|rfl|rfl|rfl|rfl|rfl|rfl|rfl<;>(simp only[crNames,List.getElem_cons_zero,List.getElem_cons_succ];exact (by simp[zO,zJ,zQ]))),CrRow.nil _ _,(fun x hx=>by cases hx),grw_alloc (grw_alloc HG1.out _) _,⟨i1,(H1.out.below ((zBr _ _).alloc (Nat.le_refl _) _)).below ((zBr _ _).alloc (Nat.le_refl _) _)⟩,by simp,by omega,(fun h0=>by have:=HB0.out h0;omega),hsz1⟩
 go_wp2_with fail
 generalize ((w1.alloc (.cells #[.int .i64 p0.f,.int .i64 p0.a,.int .i64 p0.b,.int .i64 p0.c] 41)).alloc (.cells #[.string { data:=#[65,76,80,72,65] },.string { data:=#[66,82,65,86,79] },.string { data:=#[48,49,50,51,52] },.string { data:=#[68,69,76,84,65] },.string { data:=#[69,67,72,79,55] },.string { data:=#[55,55,55,55,55] },.string { data:=#[71,79,76,70,49] },.string { data:=#[72,79,84,69,76] },.string { data:=#[73,78,68,73,65] },.string { data:=#[74,85,76,73,65] }] 9))=W0 at HC0' ⊢
 have HC0:=HC0'
 obtain⟨Q,hQ⟩:∃ Q,Q=w1.heap.size:=⟨_,rfl⟩
 rw[←hQ] at HC0 ⊢
 clear hQ H1 HG1 hsz1 HC0'
 clear w1
 obtain⟨j0,hj0⟩:=HC0.out.s
 refine (srcN_any W0 g b n j0 ((N:Int)+1) hj0 (by omega) (by omega)).mono ?_
 rintro e w2 ⟨x0,rfl,hx0,hx1,hg2,hs2⟩
 have HC2:=zN (HC0.out.grown hg2 hs2)
 clear HC0 hj0 hg2 hs2
 clear W0
 obtain⟨c0,hc0⟩:∃ c:Nat,x0=(c:Int):=⟨x0.toNat,by omega⟩
 subst hc0
 have hcm:c0≤N:=by omega
 clear hx0 hx1 hpv
 go_wp2
 go_loopw [7,10] (fun v7 v10 wr=>∃ (L:List BR) (k:Nat),v10=.int .i64 (k:Int)∧L.length+k≤N∧Hid (CrS w wr g b n Q p0 v7 L)) (fun _ v10 _=>(intOf v10).toNat)
 case atStart=>exact⟨[],c0,rfl,by simpa using hcm,HC2⟩
 case round=>
  clear HC2
  obtain⟨L,k,rfl,hlk,HC⟩:=hrel
  obtain⟨pl,cl,rfl,hcl,_,_⟩:=HC.out.row.form
  clear hcl
  by_cases hk:0 < k
  ·have hdk:decide ((k:Int) > 0)=true:=zDt (by omega)
   have HCd:=zN (HC.out.below (zBd (zBr wr.heap.size wr)))
   have hgq:=HCd.out.gq
   clear HC
   go_wp2_with fail
   refine RX.regionI (RX.RI ?base [] slC 12 (crF g Q p0 near (.slice pl L.length cl) L) (fun w'=>CrS w w' g b n Q p0 (.slice pl L.length cl) L) (crPost w g b n Q p0 (.slice pl L.length cl) L)) (by kernel_rfl) (by kernel_rfl) ?h0 ?hs ?hend
   case h0=>
    refine RX.RI.start ?_
    exact HCd.out
   case hs=>
    refine⟨?_,?_,?_,?_,?_,?_,?_,?_,?_,?_,?_,?_,?_,trivial⟩
    ·intro d ac w' hd hdep hI
     obtain⟨hW,hsl,hbs⟩:=hI.live (i:=0) (by omega) hd
     have e0:ac.tmps[0]?.getD undef=.pointer (some ⟨g,0,none⟩):=(hbs 0 (slC_ne (by omega) (by omega))).trans rfl
     go_wp2
     exact RX.RI.put hI slC_inj slC_lt (j:=0) (by omega) hd rfl hW (fun i x hi h=>h)
    ·intro d ac w' hd hdep hI
     obtain⟨hW,hsl,hbs⟩:=hI.live (i:=1) (by omega) hd
     have e0:ac.tmps[26]?.getD undef=.pointer (some ⟨g,0,none⟩):=hsl 0 26 rfl (by omega) (hdep ⟨0,.data⟩ (by simp) rfl)
     obtain⟨j,hj⟩:=hW.s
     have hgl:=hj.lt
     go_wp2_with fail
     refine (srcRange_any w' g b n j 1 3 hj (by omega) (by omega) (by omega)).mono ?_
     rintro e w5 ⟨x,rfl,hx0,hx1,hg5,hs5⟩
     exact RX.RI.put hI slC_inj slC_lt (j:=1) (by omega) hd ⟨x,rfl⟩ (hW.grown hg5 hs5) (crF.keep hgq (some g) hg5 (fun k e=>.inl (by injection e with e;exact e.symm)))
    ·intro d ac w' hd hdep hI
     obtain⟨hW,hsl,hbs⟩:=hI.live (i:=2) (by omega) hd
     have e0:ac.tmps[0]?.getD undef=.pointer (some ⟨g,0,none⟩):=(hbs 0 (slC_ne (by omega) (by omega))).trans rfl
     go_wp2
     exact RX.RI.put hI slC_inj slC_lt (j:=2) (by omega) hd rfl hW (fun i x hi h=>h)
    ·intro d ac w' hd hdep hI
     obtain⟨hW,hsl,hbs⟩:=hI.live (i:=3) (by omega) hd
     have e0:ac.tmps[9]?.getD undef=.slice (some ⟨Q+1,0,none⟩) 10 10:=(hbs 9 (slC_ne (by omega) (by omega))).trans rfl
     go_wp2
     exact RX.RI.put hI slC_inj slC_lt (j:=3) (by omega) hd rfl hW (fun i x hi h=>h)
    ·intro d ac w' hd hdep hI
     obtain⟨hW,hsl,hbs⟩:=hI.live (i:=4) (by omega) hd
     have e0:ac.tmps[28]?.getD undef=.pointer (some ⟨g,0,none⟩):=hsl 2 28 rfl (by omega) (hdep ⟨2,.data⟩ (by simp) rfl)
     have e1:ac.tmps[29]?.getD undef=.slice (some ⟨Q+1,0,none⟩) 10 10:=hsl 3 29 rfl (by omega) (hdep ⟨3,.data⟩ (by simp) rfl)
     obtain⟨j,hj⟩:=hW.s
     have hgl:=hj.lt
     go_wp2_with fail
     refine (text_any w' g b n j (Q+1) crNames 10 10 rfl (by omega) (by omega) hj hW.nm (by omega)).mono ?_
     rintro e w5 ⟨x,rfl,hx0,hg5,hs5⟩
     exact RX.RI.put hI slC_inj slC_lt (j:=4) (by omega) hd ⟨x,hx0,rfl⟩ (hW.grown hg5 hs5) (crF.keep hgq (some g) hg5 (fun k e=>.inl (by injection e with e;exact e.symm)))
    ·intro d ac w' hd hdep hI
     obtain⟨hW,hsl,hbs⟩:=hI.live (i:=5) (by omega) hd
     have e0:ac.tmps[2]?.getD undef=.int .i64 near:=(hbs 2 (slC_ne (by omega) (by omega))).trans rfl
     go_wp2
     exact RX.RI.put hI slC_inj slC_lt (j:=5) (by omega) hd rfl hW (fun i x hi h=>h)
    ·intro d ac w' hd hdep hI
     obtain⟨hW,hsl,hbs⟩:=hI.live (i:=6) (by omega) hd
     have e0:ac.tmps[0]?.getD undef=.pointer (some ⟨g,0,none⟩):=(hbs 0 (slC_ne (by omega) (by omega))).trans rfl
     go_wp2
     exact RX.RI.put hI slC_inj slC_lt (j:=6) (by omega) hd rfl hW (fun i x hi h=>h)
    ·intro d ac w' hd hdep hI
     obtain⟨hW,hsl,hbs⟩:=hI.live (i:=7) (by omega) hd
     have e0:ac.tmps[32]?.getD undef=.pointer (some ⟨g,0,none⟩):=hsl 6 32 rfl (by omega) (hdep ⟨6,.data⟩ (by simp) rfl)
     obtain⟨j,hj⟩:=hW.s
     have hgl:=hj.lt
     go_wp2_with fail
     refine (srcRange_any w' g b n j 0 50 hj (by omega) (by omega) (by omega)).mono ?_
     rintro e w5 ⟨x,rfl,hx0,hx1,hg5,hs5⟩
     exact RX.RI.put hI slC_inj slC_lt (j:=7) (by omega) hd ⟨x,hx0,hx1,rfl⟩ (hW.grown hg5 hs5) (crF.keep hgq (some g) hg5 (fun k e=>.inl (by injection e with e;exact e.symm)))
    ·intro d ac w' hd hdep hI
     obtain⟨hW,hsl,hbs⟩:=hI.live (i:=8) (by omega) hd
     have e0:ac.tmps[31]?.getD undef=.int .i64 near:=hsl 5 31 rfl (by omega) (hdep ⟨5,.data⟩ (by simp) rfl)
     obtain⟨dt,hd0,hd1,e1⟩:∃ t,0≤t∧t≤50∧ac.tmps[33]?.getD undef=.int .i64 t:=hsl 7 33 rfl (by omega) (hdep ⟨7,.data⟩ (by simp) rfl)
     go_wp2
     exact RX.RI.put hI slC_inj slC_lt (j:=8) (by omega) hd ⟨_,rfl⟩ hW (fun i x hi h=>h)
    ·intro d ac w' hd hdep hI
     obtain⟨hW,hsl,hbs⟩:=hI.live (i:=9) (by omega) hd
     have e0:ac.tmps[8]?.getD undef=.pointer (some ⟨Q,0,none⟩):=(hbs 8 (slC_ne (by omega) (by omega))).trans rfl
     obtain⟨z0,z1,z2,z3,_,_,_,_⟩:=hW.q
     go_wp2
     exact RX.RI.put hI slC_inj slC_lt (j:=9) (by omega) hd rfl hW (fun i x hi h=>h)
    ·intro d ac w' hd hdep hI
     obtain⟨hW,hsl,hbs⟩:=hI.live (i:=10) (by omega) hd
     obtain⟨kd,e0⟩:∃ t,ac.tmps[27]?.getD undef=.int .i64 t:=hsl 1 27 rfl (by omega) (hdep ⟨1,.data⟩ (by simp) rfl)
     obtain⟨nm,hnm,e1⟩:∃ s,s∈crNames∧ac.tmps[30]?.getD undef=.string s:=hsl 4 30 rfl (by omega) (hdep ⟨4,.data⟩ (by simp) rfl)
     obtain⟨tm,e2⟩:∃ t,ac.tmps[34]?.getD undef=.int .i64 t:=hsl 8 34 rfl (by omega) (hdep ⟨8,.data⟩ (by simp) rfl)
     have e3:ac.tmps[35]?.getD undef=.agg #[.int .i64 p0.f,.int .i64 p0.a,.int .i64 p0.b,.int .i64 p0.c]:=hsl 9 35 rfl (by omega) (hdep ⟨9,.data⟩ (by simp) rfl)
     have HNM:=zN hnm
     clear hnm
     go_wp2
     exact RX.RI.put hI slC_inj slC_lt (j:=10) (by omega) hd ⟨_,_,_,HNM.out,rfl⟩ hW (fun i x hi h=>h)
    ·intro d ac w' hd hdep hI
     obtain⟨hW,hsl,hbs⟩:=hI.live (i:=11) (by omega) hd
     go_wp2
     exact RX.RI.put hI slC_inj slC_lt (j:=11) (by omega) hd ⟨w'.heap.size,rfl,hW.sz,RptW.new w' rep00,fun k hk=>(World.ownsRow.lt hW.row.row k hk).2,fun x hx a m c ha h0=>(hW.row.rd x hx).blk ha h0⟩ (hW.below ((zBr _ _).alloc (Nat.le_refl _) _)) (crF.keep hgq none (World.grownBy_alloc _ _ _) (fun k e=>by cases e))
    ·intro d ac w' hd hdep hI
     obtain⟨hW,hsl,hbs⟩:=hI.live (i:=12) (by omega) hd
     obtain⟨kd,nm,tm,hnm,e0⟩:∃ k s t,s∈crNames∧ac.tmps[36]?.getD undef=.agg #[.int .i64 k,.string s,.int .i64 t,.int .i64 p0.f,.int .i64 p0.a,.int .i64 p0.b,.int .i64 p0.c,.slice none 0 0]:=hsl 10 36 rfl (by omega) (hdep ⟨10,.data⟩ (by simp) rfl)
     obtain⟨o,e1,ho,hrp,hv,hL⟩:∃ o,ac.tmps[11]?.getD undef=.pointer (some ⟨o,0,none⟩)∧Q+2≤o∧RptW w' o rep00∧(∀ k,(Value.slice pl L.length cl).ownBlock=some k→k < o)∧∀ y∈L,∀ a m c,y.1.rd=.slice (some a) m c→0 < y.2.length→a.block < o:=hsl 11 11 rfl (by omega) (hdep ⟨11,.data⟩ (by simp) rfl)
     have HM:=zN (CrR.made (k:=kd) (t:=tm) hW hrp ho hv hL hnm)
     have hrp':=hrp
     obtain⟨c0,c1,c2,c3,c4,c5,c6,c7,z⟩:=hrp
     have y0:=z 0
     have y1:=z 1
     have y2:=z 2
     have y3:=z 3
     have y4:=z 4
     have y5:=z 5
     have y6:=z 6
     have y7:=z 7
     have E1:=zN e1
     clear z hv hL hnm hrp'
     unfold rep00 at c0 c1 c2 c3 c4 c5 c6 c7
     go_wp2
     exact RX.RI.last hI hd (fun j hj=>hdep ⟨j,.phase⟩ (by simp;omega) rfl) ⟨o,_,E1.out,HM.out⟩
   case hend=>
    intro d ac w6 hall hI
    obtain⟨y,⟨R0,r,hy,hR6⟩,rfl⟩:=hI.fin (hall 12 (by decide))
    simp only[List.range,List.range.loop,List.foldl_cons,List.foldl_nil,slC,List.set_cons_zero,List.set_cons_succ,reduceIte,Nat.reduceAdd,Nat.reduceEqDiff]
    rw[hy]
    have HR6:Hid (∃ r,CrR w w6 g b n Q R0 p0 (.slice pl L.length cl) L r [] 1):=zN ⟨r,hR6⟩
    clear hI hall hy hR6 HCd
    obtain⟨ra,hR6⟩:=HR6.out
    obtain⟨j6,hj6⟩:=hR6.s.s
    have HR6':=zN hR6
    have hgl6:=hj6.lt
    clear HR6
    generalize y 0=y0 at *
    generalize y 1=y1 at *
    generalize y 2=y2 at *
    generalize y 3=y3 at *
    generalize y 4=y4 at *
    generalize y 5=y5 at *
    generalize y 6=y6 at *
    generalize y 7=y7 at *
    generalize y 8=y8 at *
    generalize y 9=y9 at *
    generalize y 10=y10 at *
    clear y hR6
    go_wp2_with fail
    refine (srcN_any w6 g b n j6 4 hj6 (by omega) (by omega)).mono ?_
    rintro e w7 ⟨x4,rfl,hx0,hx1,hg7,hs7⟩
    have HR7:=zN (HR6'.out.grown hg7 hs7)
    clear hg7 hs7 hj6 HR6'
    go_upto_block 2 with fail
    go_cut [12] from 39 to 69 (fun v12 wx=>Hid (∃ r',CrR w wx g b n Q R0 p0 (.slice pl L.length cl) L r' [] 1))
    case first=>
     by_cases e0:x4=0
     ·subst e0
      obtain⟨j,hj⟩:=HR7.out.s.s
      go_wp2_with fail
      refine (dplace_any w7 g b n j hj (fun h0=>hj.ltb h0)).mono ?_
      rintro e w8 ⟨q,rfl,hq,hg8,hs8⟩
      have hqv:Hid (pv q=.agg #[.int .i64 q.f,.int .i64 q.a,.int .i64 q.b,.int .i64 q.c]):=zN rfl
      rw[hqv.out]
      have hr8:=HR7.out.grown hg8 hs8
      obtain⟨c0,c1,c2,c3,c4,c5,c6,c7,z⟩:=hr8.rp
      have z3:=z 3
      have z4:=z 4
      have z5:=z 5
      have z6:=z 6
      have HR9:Hid (∃ r',CrR w ((((w8.setCell ⟨R0,3,none⟩ (.int .i64 q.f)).setCell ⟨R0,4,none⟩ (.int .i64 q.a)).setCell ⟨R0,5,none⟩ (.int .i64 q.b)).setCell ⟨R0,6,none⟩ (.int .i64 q.c)) g b n Q R0 p0 (.slice pl L.length cl) L r' [] 1):=zN ⟨_,hr8.place hq⟩
      clear hg8 hs8 hj z hr8 c0 c1 c2 c7 HR7 hq
      go_wp2_with fail
      go_meet
      case rel=>exact HR9
     by_cases e1:x4=1
     ·subst e1
      obtain⟨j,hj⟩:=HR7.out.s.s
      obtain⟨z0,z1,z2,z3,_,_,_,_⟩:=HR7.out.s.q
      have hs:=HR7.out.s.ok.s
      have hf:=HR7.out.s.ok.f
      obtain⟨m6,hm6⟩:∃ m6:Nat,m6=min 150 p0.a:=⟨_,rfl⟩
      have hmin:min (150:Int) (p0.a:Int)=(m6:Int):=by rw[hm6];omega
      have hma:m6≤p0.a:=by rw[hm6];exact Nat.min_le_right _ _
      have hm150:m6≤150:=by rw[hm6];exact Nat.min_le_left _ _
      clear hm6
      go_wp2_with fail
      refine (srcRange_any w7 g b n j 0 (m6:Int) hj (by omega) (by omega) (by omega)).mono ?_
      rintro e w8 ⟨dd,rfl,hd0,hd1,hg8,hs8⟩
      obtain⟨d',rfl⟩:∃ d':Nat,dd=(d':Int):=⟨dd.toNat,by omega⟩
      have HR8:=zN (HR7.out.grown hg8 hs8)
      have hda:d'≤p0.a:=by omega
      clear z0 z1 z2 z3 hg8 hs8 hj HR7 hmin
      obtain⟨z0,z1,z2,z3,_,_,_,_⟩:=HR8.out.s.q
      obtain⟨q,hq,hqv⟩:∃ q:Pl,q.Ok∧pv q=.agg #[.int .i64 (p0.f:Int),.int .i64 ((p0.a:Int)-(d':Int)),.int .i64 (p0.b:Int),.int .i64 ((p0.c:Int)+(d':Int))]:=
       ⟨⟨p0.f,(p0.a-d'),p0.b,(p0.c+d')⟩,⟨hf,by show (p0.a-d')+p0.b+(p0.c+d')=840;omega⟩,by
        show (.agg #[.int .i64 (p0.f:Int),.int .i64 (((p0.a-d'):Nat):Int),.int .i64 (p0.b:Int),.int .i64 ((p0.c+d':Nat):Int)]:Value)=_
        rw[show (((p0.a-d'):Nat):Int)=((p0.a:Int)-(d':Int)) by omega,show ((p0.c+d':Nat):Int)=(p0.c:Int)+(d':Int) by omega]⟩
      have HQ:=zN (And.intro hq hqv)
      have hb1:(d':Int)≤840:=by omega
      have hb2:(p0.a:Int)≤840:=by omega
      have hb3:(p0.b:Int)≤840:=by omega
      have hb4:(p0.c:Int)≤840:=by omega
      clear hq hqv
      go_wp2_with fail
      rw[←HQ.out.2]
      refine (rnormal_any q HQ.out.1 w8).mono ?_
      rintro e w9 ⟨rfl,hb9⟩
      have hr9:=HR8.out.below hb9
      have hn:Hid (pv (normal q)=.agg #[.int .i64 (normal q).f,.int .i64 (normal q).a,.int .i64 (normal q).b,.int .i64 (normal q).c]):=zN rfl
      have HN:=zN (normal_ok HQ.out.1)
      generalize normal q=q' at *
      rw[hn.out]
      obtain⟨c0,c1,c2,c3,c4,c5,c6,c7,z⟩:=hr9.rp
      have y3':=z 3
      have y4':=z 4
      have y5':=z 5
      have y6':=z 6
      have HR9:Hid (∃ r',CrR w ((((w9.setCell ⟨R0,3,none⟩ (.int .i64 q'.f)).setCell ⟨R0,4,none⟩ (.int .i64 q'.a)).setCell ⟨R0,5,none⟩ (.int .i64 q'.b)).setCell ⟨R0,6,none⟩ (.int .i64 q'.c)) g b n Q R0 p0 (.slice pl L.length cl) L r' [] 1):=zN ⟨_,hr9.place HN.out⟩
      clear hb9 z hr9 c0 c1 c2 c7 z0 z1 z2 z3 HR8 hs hf hma hm150 hda hb1 hb2 hb3 hb4
      go_wp2_with fail
      go_meet
      case rel=>exact HR9
     have HR9:Hid (∃ r',CrR w w7 g b n Q R0 p0 (.slice pl L.length cl) L r' [] 1):=zN ⟨_,HR7.out⟩
     have he0:(x4 == 0)=false:=by rw[beq_eq_false_iff_ne];exact e0
     have he1:(x4 == 1)=false:=by rw[beq_eq_false_iff_ne];exact e1
     clear e0 e1
     go_wp2
     go_meet
     case rel=>exact HR9
    case rest=>
     have HRC:=hcut
     clear hcut HR7
     generalize wc=w8 at *
     go_wp2
     go_loopw [13] (fun v13 wx=>∃ (c:Nat) (r:Rep) (D:Rdg),1≤c∧c≤12∧D.length < c∧v13=.int .i64 (c:Int)∧Hid (CrR w wx g b n Q R0 p0 (.slice pl L.length cl) L r D (c:Int))) (fun v13 _=>12-(intOf v13).toNat)
     case atStart=>
      obtain⟨r',hr'⟩:=HRC.out
      exact⟨1,r',[],by omega,by omega,by simp,rfl,zN hr'⟩
     case round=>
      clear HRC
      obtain⟨c,r,D,hc1,hc12,hDl,rfl,HR⟩:=hrel
      by_cases hc:c < 12
      ·have hdc:decide ((c:Int)≤11)=true:=zDt (by omega)
       have hc0:(0:Int)≤(c:Int):=by omega
       have hcI:(c:Int) < 12:=by omega
       obtain⟨j,hj⟩:=HR.out.s.s
       go_wp2_with fail
       refine (srcN_any wr g b n j 3 hj (by omega) (by omega)).mono ?_
       rintro e w9 ⟨x3,rfl,hx30,hx31,hg9,hs9⟩
       have HR9:=zN (HR.out.grown hg9 hs9)
       clear hg9 hs9 hj HR
       by_cases h3:x3 > 0
       ·have hd3:decide (x3 > 0)=true:=zDt h3
        have HRN:=zN (HR9.out.next (c':=(c:Int)+1) (by omega))
        clear HR9
        go_wp2
        go_roundw
        case rel=>exact⟨c+1,r,D,by omega,by omega,by omega,by go_num,by rw[show ((c+1:Nat):Int)=(c:Int)+1 by omega];exact HRN⟩
        case measure=>simp[intOf]<;>omega
       ·have hd3:decide (x3 > 0)=false:=zDf h3
        clear h3 hx30 hx31
        have hix:=fun w'=>idx12 crBase c hc w'
        have hcb:=crBase_bd c hc
        unfold crBase at hix
        obtain⟨cv,hcv⟩:∃ cv,cv=crBase c:=⟨_,rfl⟩
        rw[←hcv] at hcb
        have HCV:=zN hcv
        have HIX:Hid (∀ w',(Instr.index 27 (.agg #[.int .i64 0,.int .i64 10100,.int .i64 2850,.int .i64 2800,.int .i64 0,.int .i64 50,.int .i64 1460,.int .i64 2780,.int .i64 3010,.int .i64 2680,.int .i64 5570,.int .i64 2520]) (.int .i64 (c:Int))).run Tryz.prog w'=.ok (.int .i64 cv) w'):=zN (by rw[hcv];exact hix)
        have hix:=HIX.out
        clear hcv
        have HRd:=zN (HR9.out.below (zBd (zBr w9.heap.size w9)))
        obtain⟨j,hj⟩:=HRd.out.s.s
        have hgl:=hj.lt
        clear HR9
        go_wp2_with fail
        refine RX.region RX.fL (fun _=>True) (by kernel_rfl) (by kernel_rfl) (trivial) (fun OPS HO QR hQR=>?_)
        repeat (refine zeX (fun R hR=>?_);(first|refine zaX (by first|rfl|(rw[HO.out];rfl)) (by simp only[zA,zB,zC,zD];rfl) ?_|refine zbX (by first|rfl|(rw[HO.out];rfl)) rfl (by first|exact .inl rfl|exact .inr rfl) (by simp only[zE,zF,zG,zH];rfl) (by simp only[zA,zB,zC,zD];rfl) ?_|refine zcX (by first|rfl|(rw[HO.out];rfl)) rfl rfl (by simp only[zE,zF,zG,zH];rfl) (by simp only[zA,zB,zC,zD];rfl) ?_|(refine zdX (by first|rfl|(rw[HO.out];rfl)) rfl rfl rfl ?_;apply zEx;apply zEx;refine⟨fun w' hS K hK=>?_,?_,?_⟩;(focus (go_wp2;exact hK _ _ (by simp only[zl,zG,zH];first|exact zf (by omega)|exact zg (by omega)|exact zh (by omega)|exact zi (by omega)|exact zj (by omega)|exact zk (by omega)|exact RX.bneB _|rfl) rfl));(focus (simp only[zA,zB,zC,zD];rfl))));refine hR _ _ ?_;clear hR R)
        refine zeX (fun R hR=>?_)
        refine zgX (by first|rfl|(rw[HO.out];rfl)) rfl (fun K hK=>?_)
        go_wp2_with fail
        refine (srcRange_any _ g b n j (-8) 8 hj (by omega) (by omega) (by omega)).mono ?_
        rintro e w10 ⟨t1,rfl,ht10,ht11,hg10,hs10⟩
        have HR10:=zN (HRd.out.grown hg10 hs10)
        obtain⟨j10,hj10⟩:=hs10
        clear hg10 HRd hj
        refine hK _ _ ⟨trivial,hR _ _ ?_⟩;clear hK K hR R
        repeat (refine zeX (fun R hR=>?_);(first|refine zaX (by first|rfl|(rw[HO.out];rfl)) (by simp only[zA,zB,zC,zD];rfl) ?_|refine zbX (by first|rfl|(rw[HO.out];rfl)) rfl (by first|exact .inl rfl|exact .inr rfl) (by simp only[zE,zF,zG,zH];rfl) (by simp only[zA,zB,zC,zD];rfl) ?_|refine zcX (by first|rfl|(rw[HO.out];rfl)) rfl rfl (by simp only[zE,zF,zG,zH];rfl) (by simp only[zA,zB,zC,zD];rfl) ?_|(refine zdX (by first|rfl|(rw[HO.out];rfl)) rfl rfl rfl ?_;apply zEx;apply zEx;refine⟨fun w' hS K hK=>?_,?_,?_⟩;(focus (go_wp2;exact hK _ _ (by simp only[zl,zG,zH];first|exact zf (by omega)|exact zg (by omega)|exact zh (by omega)|exact zi (by omega)|exact zj (by omega)|exact zk (by omega)|exact RX.bneB _|rfl) rfl));(focus (simp only[zA,zB,zC,zD];rfl))));refine hR _ _ ?_;clear hR R)
        refine zeX (fun R hR=>?_)
        refine zgX (by first|rfl|(rw[HO.out];rfl)) rfl (fun K hK=>?_)
        go_wp2_with fail
        refine (srcRange_any _ g b n j10 (-60) 60 hj10 (by omega) (by omega) (by omega)).mono ?_
        rintro e w11 ⟨t2,rfl,ht20,ht21,hg11,hs11⟩
        have HR11:=zN (HR10.out.grown hg11 hs11)
        obtain⟨j11,hj11⟩:=hs11
        have hgl11:=hj11.lt
        clear hg11 HR10 hj10
        refine hK _ _ ⟨trivial,hR _ _ ?_⟩;clear hK K hR R
        repeat (refine zeX (fun R hR=>?_);(first|refine zaX (by first|rfl|(rw[HO.out];rfl)) (by simp only[zA,zB,zC,zD];rfl) ?_|refine zbX (by first|rfl|(rw[HO.out];rfl)) rfl (by first|exact .inl rfl|exact .inr rfl) (by simp only[zE,zF,zG,zH];rfl) (by simp only[zA,zB,zC,zD];rfl) ?_|refine zcX (by first|rfl|(rw[HO.out];rfl)) rfl rfl (by simp only[zE,zF,zG,zH];rfl) (by simp only[zA,zB,zC,zD];rfl) ?_|(refine zdX (by first|rfl|(rw[HO.out];rfl)) rfl rfl rfl ?_;apply zEx;apply zEx;refine⟨fun w' hS K hK=>?_,?_,?_⟩;(focus (go_wp2;exact hK _ _ (by simp only[zl,zG,zH];first|exact zf (by omega)|exact zg (by omega)|exact zh (by omega)|exact zi (by omega)|exact zj (by omega)|exact zk (by omega)|exact RX.bneB _|rfl) rfl));(focus (simp only[zA,zB,zC,zD];rfl))));refine hR _ _ ?_;clear hR R)
        refine zeX (fun R hR=>?_)
        refine zgX (by first|rfl|(rw[HO.out];rfl)) rfl (fun K hK=>?_)
        go_wp2
        refine⟨trivial,hR _ _ ?_⟩;clear hR R
        repeat (refine zeX (fun R hR=>?_);(first|refine zaX (by first|rfl|(rw[HO.out];rfl)) (by simp only[zA,zB,zC,zD];rfl) ?_|refine zbX (by first|rfl|(rw[HO.out];rfl)) rfl (by first|exact .inl rfl|exact .inr rfl) (by simp only[zE,zF,zG,zH];rfl) (by simp only[zA,zB,zC,zD];rfl) ?_|refine zcX (by first|rfl|(rw[HO.out];rfl)) rfl rfl (by simp only[zE,zF,zG,zH];rfl) (by simp only[zA,zB,zC,zD];rfl) ?_|(refine zdX (by first|rfl|(rw[HO.out];rfl)) rfl rfl rfl ?_;apply zEx;apply zEx;refine⟨fun w' hS K hK=>?_,?_,?_⟩;(focus (go_wp2;exact hK _ _ (by simp only[zl,zG,zH];first|exact zf (by omega)|exact zg (by omega)|exact zh (by omega)|exact zi (by omega)|exact zj (by omega)|exact zk (by omega)|exact RX.bneB _|rfl) rfl));(focus (simp only[zA,zB,zC,zD];rfl))));refine hR _ _ ?_;clear hR R)
        refine zeX (fun R hR=>?_)
        refine zgX (by first|rfl|(rw[HO.out];rfl)) rfl (fun K hK=>?_)
        go_wp2_with fail
        refine (pick_any _ g b n j11 w11.heap.size [0,1,3,t1,t2,100,103] 7 7 rfl (by omega) (by omega) (hj11.below ((zBr _ _).alloc (Nat.le_refl _) _)) (fun j hj=>by
         match j,hj with
         |0,_=>exact (by simp[zO,zJ,zQ])
         |1,_=>exact (by simp[zO,zJ,zQ])
         |2,_=>exact (by simp[zO,zJ,zQ])
         |3,_=>exact (by simp[zO,zJ,zQ])
         |4,_=>exact (by simp[zO,zJ,zQ])
         |5,_=>exact (by simp[zO,zJ,zQ])
         |6,_=>exact (by simp[zO,zJ,zQ])
         |j+7,hj=>simp at hj<;>omega) (by omega)).mono ?_
        rintro e w12 ⟨pv1,rfl,hpm,hg12,hs12⟩
        have HR12:=zN ((HR11.out.below ((zBr _ _).alloc (Nat.le_refl _) _)).grown hg12 hs12)
        have hpb:-60≤pv1∧pv1≤103:=by
         simp only[List.mem_cons,List.not_mem_nil,or_false] at hpm
         omega
        clear hg12 hs12 HR11 hj11 hpm ht10 ht11 ht20 ht21
        refine hK _ _ ⟨trivial,hR _ _ ?_⟩;clear hK K hR R
        repeat (refine zeX (fun R hR=>?_);(first|refine zaX (by first|rfl|(rw[HO.out];rfl)) (by simp only[zA,zB,zC,zD];rfl) ?_|refine zbX (by first|rfl|(rw[HO.out];rfl)) rfl (by first|exact .inl rfl|exact .inr rfl) (by simp only[zE,zF,zG,zH];rfl) (by simp only[zA,zB,zC,zD];rfl) ?_|refine zcX (by first|rfl|(rw[HO.out];rfl)) rfl rfl (by simp only[zE,zF,zG,zH];rfl) (by simp only[zA,zB,zC,zD];rfl) ?_|(refine zdX (by first|rfl|(rw[HO.out];rfl)) rfl rfl rfl ?_;apply zEx;apply zEx;refine⟨fun w' hS K hK=>?_,?_,?_⟩;(focus (go_wp2;exact hK _ _ (by simp only[zl,zG,zH];first|exact zf (by omega)|exact zg (by omega)|exact zh (by omega)|exact zi (by omega)|exact zj (by omega)|exact zk (by omega)|exact RX.bneB _|rfl) rfl));(focus (simp only[zA,zB,zC,zD];rfl))));refine hR _ _ ?_;clear hR R)
        refine RX.wpL_nil (hQR _ _ (trivial) ?_);clear hQR QR HO OPS
        clear hix
        obtain⟨vv,hvv⟩:∃ vv,vv=cv+pv1:=⟨_,rfl⟩
        rw[←hvv]
        clear hvv hpb hcb HCV HIX
        obtain⟨pd,cd,hrd,hcd,_,_⟩:=RdOwn.form HR12.out.own
        have hrc:=HR12.out.rp.c7
        rw[hrd] at hrc
        obtain⟨dl,hdl⟩:∃ dl,dl=D.length:=⟨_,rfl⟩
        have hdl12:dl≤11:=by omega
        have hdlc:dl < c:=by omega
        rw[←hdl] at hrc hrd
        have hS12:w12.drew.cell? ⟨R0,7,none⟩=some (.slice pd dl cd):=hrc
        have HCL:=zN (fun w'=>clamp1 c (by omega) vv w')
        have HRD:=zN hrd
        have HDL:=zN hdl
        have hRl:=HR12.out.rp.lt
        clear hcd hrd hrc hdl hDl
        go_wp2_with fail
        refine RY.region RX.fN (fun w'=>w'.cell? ⟨R0,7,none⟩=some (.slice pd dl cd)) (by kernel_rfl) (by kernel_rfl) (hS12) (fun OPS HO QR hQR=>?_)
        repeat (refine zeY (fun R hR=>?_);(first|refine zaY (by first|rfl|(rw[HO.out];rfl)) (by simp only[zA,zB,zC,zD];rfl) ?_|refine zbY (by first|rfl|(rw[HO.out];rfl)) rfl (by first|exact .inl rfl|exact .inr rfl) (by simp only[zE,zF,zG,zH];rfl) (by simp only[zA,zB,zC,zD];rfl) ?_|refine zcY (by first|rfl|(rw[HO.out];rfl)) rfl rfl (by simp only[zE,zF,zG,zH];rfl) (by simp only[zA,zB,zC,zD];rfl) ?_|(refine zdY (by first|rfl|(rw[HO.out];rfl)) rfl rfl rfl ?_;apply zEx;apply zEx;refine⟨fun w' hS K hK=>?_,?_,?_⟩;(focus (skip;go_wp2;exact hK _ _ (by simp only[zl,zG,zH];first|exact zf (by omega)|exact zg (by omega)|exact zh (by omega)|exact zi (by omega)|exact zj (by omega)|exact zk (by omega)|exact RX.bneB _|rfl) rfl));(focus (simp only[zA,zB,zC,zD];rfl))));refine hR _ _ ?_;clear hR R)
        refine zeY (fun R hR=>?_)
        refine zgY (by first|rfl|(rw[HO.out];rfl)) rfl (fun K hK=>?_)
        go_wp2_with fail
        refine (HCL.out _).mono ?_
        rintro e w13 ⟨xv,rfl,hxv0,hxv1,hb13⟩
        have hb13':Below w12.heap.size w12 w13:=(zBd (zBr _ _)).trans hb13
        have HR13:=zN (HR12.out.below hb13')
        have hS13:=zP hb13 hS12
        have hRl13:=HR13.out.rp.lt
        clear hb13 hb13' HR12 hS12 HCL hRl
        refine hK _ _ ⟨.inr (hS13),hR _ _ ?_⟩;clear hK K hR R
        repeat (refine zeY (fun R hR=>?_);(first|refine zaY (by first|rfl|(rw[HO.out];rfl)) (by simp only[zA,zB,zC,zD];rfl) ?_|refine zbY (by first|rfl|(rw[HO.out];rfl)) rfl (by first|exact .inl rfl|exact .inr rfl) (by simp only[zE,zF,zG,zH];rfl) (by simp only[zA,zB,zC,zD];rfl) ?_|refine zcY (by first|rfl|(rw[HO.out];rfl)) rfl rfl (by simp only[zE,zF,zG,zH];rfl) (by simp only[zA,zB,zC,zD];rfl) ?_|(refine zdY (by first|rfl|(rw[HO.out];rfl)) rfl rfl rfl ?_;apply zEx;apply zEx;refine⟨fun w' hS K hK=>?_,?_,?_⟩;(focus (skip;go_wp2;exact hK _ _ (by simp only[zl,zG,zH];first|exact zf (by omega)|exact zg (by omega)|exact zh (by omega)|exact zi (by omega)|exact zj (by omega)|exact zk (by omega)|exact RX.bneB _|rfl) rfl));(focus (simp only[zA,zB,zC,zD];rfl))));refine hR _ _ ?_;clear hR R)
        refine zeY (fun R hR=>?_)
        refine zgY (by first|rfl|(rw[HO.out];rfl)) rfl (fun K hK=>?_)
        go_wp2
        refine⟨.inr ((by (try have hLt:=zM _ _ hS13);(try simp only at hLt);(repeat first|rw[zO]|rw[zK _ _ _ _ (by first|(simp<;>omega)|omega)]|rw[zJ,if_neg (by first|(simp<;>omega)|omega)]);first|exact hS13|(rw[zJ,if_pos (by first|(simp;done)|omega)];exact hS13))),hR _ _ ?_⟩;clear hR R
        repeat (refine zeY (fun R hR=>?_);(first|refine zaY (by first|rfl|(rw[HO.out];rfl)) (by simp only[zA,zB,zC,zD];rfl) ?_|refine zbY (by first|rfl|(rw[HO.out];rfl)) rfl (by first|exact .inl rfl|exact .inr rfl) (by simp only[zE,zF,zG,zH];rfl) (by simp only[zA,zB,zC,zD];rfl) ?_|refine zcY (by first|rfl|(rw[HO.out];rfl)) rfl rfl (by simp only[zE,zF,zG,zH];rfl) (by simp only[zA,zB,zC,zD];rfl) ?_|(refine zdY (by first|rfl|(rw[HO.out];rfl)) rfl rfl rfl ?_;apply zEx;apply zEx;refine⟨fun w' hS K hK=>?_,?_,?_⟩;(focus (skip;go_wp2;exact hK _ _ (by simp only[zl,zG,zH];first|exact zf (by omega)|exact zg (by omega)|exact zh (by omega)|exact zi (by omega)|exact zj (by omega)|exact zk (by omega)|exact RX.bneB _|rfl) rfl));(focus (simp only[zA,zB,zC,zD];rfl))));refine hR _ _ ?_;clear hR R)
        refine zeY (fun R hR=>?_)
        refine zgY (by first|rfl|(rw[HO.out];rfl)) rfl (fun K hK=>?_)
        have hown13:w13.ownsRow (R0+1) 55 2 (.slice pd dl cd) dl (rdV D):=by
         have h:=HR13.out.own
         rw[HRD.out,RdOwn,←HDL.out] at h
         exact h
        refine RX.wp_app elRd _ _ rfl (R0+1) _ _ _ (World.ownsRow.alloc hown13 _) (by simp only[zE,zF,zG,zH]) w13.heap.size _ 1 (by simp only[zE,zF,zG,zH]) (heap_alloc_new _ _) rfl (by simp[Value.oneCell']) (by omega) (by omega) (by simp;omega) (fun v5 w14 hown14 hb14 hg14 hat14=>?_)
        obtain⟨p5,c5,rfl,_⟩:=own_slice hown14
        have hRl13:=HR13.out.rp.lt
        have hRs:R0 < (w13.alloc (.cells #[.int .i64 (c:Int),.int .i64 xv] 55)).heap.size:=by simp;omega
        have hblk:∀ k,(Value.slice pd dl cd).ownBlock=some k→R0+1≤k:=fun k hk=>(World.ownsRow.lt hown13 k hk).1
        have hvb:(Value.slice p5 (dl+1) c5).ownBlock≠some R0:=fun e=>by
         rcases hat14 with h|h
         ·rw[h] at e;have:=hblk R0 e;omega
         ·rw[h] at e;injection e with e;simp at e;omega
        have hr14:RptW w14 R0 r:=(HR13.out.rp.below ((zBr _ _).alloc (Nat.le_refl _) _)).block (hg14.block R0 hRs (fun e=>by have:=hblk R0 e.symm;omega))
        have hS14:w14.cell? ⟨R0,7,none⟩=some (.slice pd dl cd):=by rw[hr14.c7,HRD.out]
        have hz14:=hr14.z 7
        have HRN:Hid (CrR w (w14.setCell ⟨R0,7,none⟩ (.slice p5 (dl+1) c5)) g b n Q R0 p0 (.slice pl L.length cl) L ⟨r.kind,r.name,r.time,r.f,r.a,r.b,r.c,.slice p5 (dl+1) c5⟩ (D ++ [((c:Int),xv)]) ((c:Int)+1)):=zN (HR13.out.add ((zBr _ _).alloc (Nat.le_refl _) _) (by rw[HRD.out];exact hg14) (by rw[←HDL.out];exact hown14) (by unfold okC;omega) ⟨hxv0,hxv1⟩ (by have:=HDL.out;omega) hvb)
        have hDn:(D ++ [((c:Int),xv)]).length < c+1:=by rw[List.length_append];simp;have:=HDL.out;omega
        clear hown13 hown14 hb14 hg14 hat14 hblk hvb hr14 hRs hRl13 HR13 hS13 hxv0 hxv1
        refine hK _ _ ⟨.inr (hS14),?_⟩;clear hK K;refine RY.at_ (by simp only[RX.put_some,RX.put_none,List.set_cons_zero,List.set_cons_succ];rfl) (hR _ _ ?_);clear hR R
        repeat (refine zeY (fun R hR=>?_);(first|refine zaY (by first|rfl|(rw[HO.out];rfl)) (by simp only[zA,zB,zC,zD];rfl) ?_|refine zbY (by first|rfl|(rw[HO.out];rfl)) rfl (by first|exact .inl rfl|exact .inr rfl) (by simp only[zE,zF,zG,zH];rfl) (by simp only[zA,zB,zC,zD];rfl) ?_|refine zcY (by first|rfl|(rw[HO.out];rfl)) rfl rfl (by simp only[zE,zF,zG,zH];rfl) (by simp only[zA,zB,zC,zD];rfl) ?_|(refine zdY (by first|rfl|(rw[HO.out];rfl)) rfl rfl rfl ?_;apply zEx;apply zEx;refine⟨fun w' hS K hK=>?_,?_,?_⟩;(focus (skip;go_wp2;exact hK _ _ (by simp only[zl,zG,zH];first|exact zf (by omega)|exact zg (by omega)|exact zh (by omega)|exact zi (by omega)|exact zj (by omega)|exact zk (by omega)|exact RX.bneB _|rfl) rfl));(focus (simp only[zA,zB,zC,zD];rfl))));refine hR _ _ ?_;clear hR R)
        refine zeY (fun R hR=>?_)
        refine zgY (by first|rfl|(rw[HO.out];rfl)) rfl (fun K hK=>?_)
        go_wp2
        first|refine⟨(by first|exact .inl rfl|exact .inl trivial|trivial),hR _ _ (RY.wpL_nil (hQR _ _ ?_))⟩|refine hR _ _ (RY.wpL_nil (hQR _ _ ?_))|refine hQR _ _ ?_
        (try clear hR);(try clear R);clear hQR QR HO OPS
        clear hS14 hz14
        go_wp2
        go_roundw
        case rel=>exact⟨c+1,_,_,by omega,by omega,hDn,by go_num,by rw[show ((c+1:Nat):Int)=(c:Int)+1 by omega];exact HRN⟩
        case measure=>simp[intOf]<;>omega
      ·have hdc:decide ((c:Int)≤11)=false:=zDf (by omega)
       obtain rfl:c=12:=by omega
       have HRP:=HR.out.rp
       obtain⟨q0,q1,q2,q3,q4,q5,q6,q7,_⟩:=HRP
       have hown:wr.ownsRow (Q+2) 44 8 (.slice pl L.length cl) L.length ((L.map Prod.fst).flatMap rpc):=by
        have h:=HR.out.s.row.row
        unfold RepRow at h
        rw[List.length_map] at h
        exact h
       have hQs:=HR.out.s.sz
       have hlk20:L.length≤20:=by omega
       obtain⟨pd,cd,hrd,hcd,_,_⟩:=RdOwn.form HR.out.own
       rw[hrd] at q7
       have HRD:=zN hrd
       obtain⟨k',rfl⟩:∃ k',k=k'+1:=⟨k-1,by omega⟩
       clear hrd hcd hDl
       go_wp2_with (refine RX.wpl_app (by rfl) elRep _ _ (by rfl) (Q+2) _ _ _ (World.ownsRow.alloc hown _) (by rfl) wr.heap.size _ 1 (by rfl) (heap_alloc_new _ _) (by rfl) (by simp[Value.oneCell']) (by omega) (by omega) (by simp;omega) ?_;intro v' wd hown2 hbd hgd hatd)
       have HCN:Hid (CrS w wd g b n Q p0 v' (L ++ [(r,D)])):=zN (HR.out.join ((zBr _ _).alloc (Nat.le_refl _) _) hgd (by
        have e:rpc r=[.int .i64 r.kind,.string r.name,.int .i64 r.time,.int .i64 r.f,.int .i64 r.a,.int .i64 r.b,.int .i64 r.c,.slice pd D.length cd]:=by unfold rpc;rw[HRD.out]
        rw[e]
        exact hown2) hatd)
       clear hown hown2 hbd hgd hatd HR q0 q1 q2 q3 q4 q5 q6 q7
       go_wp2
       go_roundw
       case rel=>exact⟨L ++ [(r,D)],k',by go_num,by rw[List.length_append];simp;omega,HCN⟩
       case measure=>simp[intOf]<;>omega
  ·obtain rfl:k=0:=by omega
   have hdk:decide (((0:Nat):Int) > 0)=false:=zDf (by omega)
   have HRS:Hid (CrRow wr w.heap.size (.slice pl L.length cl) L):=zN (HC.out.row.mono (by have:=HC.out.wq;omega))
   have hlN:L.length≤N:=by omega
   clear hlk
   go_wp2
   go_ret
   exact⟨_,L,rfl,HRS.out,HC.out.all,hlN,HC.out.gr,HC.out.s⟩
def fourN (i:Nat):ByteArray:=crNames.getD i { data:=#[] }
structure FourOk (i:Nat) (z:Int) (x:BR):Prop where
 nm:x.1.name=fourN i
 f:x.1.f=0
 a:x.1.a=840
 b:x.1.b=0
 c:x.1.c=0
 rd:x.2=[(1,z)]
theorem heap3 (w:World) (a b o:Obj):(((w.alloc a).alloc b).alloc o).heap[w.heap.size+1+1]?=some o:=by
 have h:=heap_alloc_new ((w.alloc a).alloc b) o
 have e:((w.alloc a).alloc b).heap.size=w.heap.size+1+1:=by simp
 rw[e] at h
 exact h
def fourX (nm:ByteArray) (z:Int) (q:Nat):BR:=(⟨1,nm,0,0,840,0,0,.slice (some ⟨q,0,none⟩) 1 1⟩,[(1,z)])
theorem four_step {w0 wr wd:World} {pl:Option Addr} {cl:Nat} {L:List BR} {zs:List Int} {nm:ByteArray} {z:Int} {ca cx:Array Value} {ta tx:TypeId} {v':Value} (h:CrRow wr w0.heap.size (.slice pl L.length cl) L) (hf:∀ i (h:i < L.length),FourOk i (zs.getD i 0) L[i]) (hb:Below w0.heap.size w0 wr)
  (hown:wd.ownsRow w0.heap.size 44 8 v' (L.length+1) ((L.map Prod.fst).flatMap rpc ++ rpc (fourX nm z (wr.heap.size+1)).1)) (hbd:Below w0.heap.size (((wr.alloc (.cells ca ta)).alloc (.cells #[.int .i64 1,.int .i64 z] 55)).alloc (.cells cx tx)) wd)
  (hgd:(((wr.alloc (.cells ca ta)).alloc (.cells #[.int .i64 1,.int .i64 z] 55)).alloc (.cells cx tx)).grownBy wd (Value.slice pl L.length cl).ownBlock)
  (hat:v'.ownBlock=(Value.slice pl L.length cl).ownBlock∨v'.ownBlock=some (((wr.alloc (.cells ca ta)).alloc (.cells #[.int .i64 1,.int .i64 z] 55)).alloc (.cells cx tx)).heap.size) (hnm:nm=fourN L.length) (hz:zs.getD L.length 0=z) :
  CrRow wd w0.heap.size v' (L ++ [fourX nm z (wr.heap.size+1)])∧(∀ i (h:i < (L ++ [fourX nm z (wr.heap.size+1)]).length),FourOk i (zs.getD i 0) (L ++ [fourX nm z (wr.heap.size+1)])[i])∧Below w0.heap.size w0 wd:=by
 have hs:=hb.size
 have hb3:Below wr.heap.size wr (((wr.alloc (.cells ca ta)).alloc (.cells #[.int .i64 1,.int .i64 z] 55)).alloc (.cells cx tx)):=(by repeat (first|(with_reducible first|assumption|exact zBr _ _|refine zBs ?_ (by first|omega|(simp<;>omega)) _|refine zBa ?_ (by first|omega|(simp<;>omega)) _|apply zBd)|assumption))
 refine⟨CrRow.snoc h hb3 hown hgd hat ⟨⟨_,1,rfl,wr.heap.size+1,0,fun _=>rfl,fun k hk=>?_⟩,by show 1≤1000000000;decide⟩ (fun a n c ha _=>?_),fun i hi=>?_,(hb.trans (hb3.mono hs)).trans hbd⟩
 ·have hk0:k=0:=by
   have:k < 1:=hk
   omega
  subst hk0
  refine⟨?_,?_⟩
  ·show _=some (Value.int .i64 1)
   simp[zJ]
  ·show _=some (Value.int .i64 z)
   simp[zJ]
 ·have e:(some ⟨wr.heap.size+1,0,none⟩:Option Addr)=some a:=by
   have:(fourX nm z (wr.heap.size+1)).1.rd=.slice (some ⟨wr.heap.size+1,0,none⟩) 1 1:=rfl
   rw[this] at ha
   injection ha
  injection e with e
  subst e
  refine⟨by show w0.heap.size≤wr.heap.size+1;omega,fun e=>?_⟩
  have:=(World.ownsRow.lt h.row _ e).2
  dsimp only at this
  omega
 ·by_cases hi2:i < L.length
  ·rw[List.getElem_append_left hi2];exact hf i hi2
  ·have hi3:i=L.length:=by rw[List.length_append] at hi;simp at hi;omega
   subst hi3
   rw[List.getElem_append_right (by omega)]
   simp only[Nat.sub_self,List.getElem_cons_zero]
   exact⟨hnm,rfl,rfl,rfl,rfl,by rw[hz];rfl⟩
theorem four_any (w:World) (B m mc:Nat) (zs:List Int) (hm:zs.length=m) (hm4:m≤4) (hz:∀ j (h:j < zs.length),w.cell? ⟨B,j,none⟩=some (.int .i64 zs[j])) (hB:B < w.heap.size) :
  Calls Tryz.prog 30 #[.slice (some ⟨B,0,none⟩) m mc] w fun e w'=>∃ v L,e=.returned v∧CrRow w' w.heap.size v L∧L.length=m∧(∀ i (h:i < L.length),FourOk i (zs.getD i 0) L[i])∧Below w.heap.size w w':=by
 have HM:=zN hm
 have HZ:=zN hz
 clear hm hz
 go_enter Tryz.func30,Tryz.ntmps30
 go_wp2
 go_loopw [8,3] (fun v8 v3 wr=>∃ (k:Nat) (L:List BR),k≤m∧v8=.int .i64 (k:Int)∧L.length=k∧Hid (CrRow wr w.heap.size v3 L∧(∀ i (h:i < L.length),FourOk i (zs.getD i 0) L[i])∧Below w.heap.size w wr)) (fun v8 _ _=>m-(intOf v8).toNat)
 case atStart=>exact⟨0,[],by omega,rfl,rfl,zN ⟨CrRow.nil _ _,fun i h=>absurd h (by simp),zBr _ _⟩⟩
 case round=>
  obtain⟨k,L,hkm,rfl,hLk,HH⟩:=hrel
  obtain⟨pl,cl,rfl,hcl,_,_⟩:=HH.out.1.form
  clear hcl
  have HLK:=zN hLk
  by_cases hk:k < m
  ·have hdk:decide ((k:Int) < (m:Int))=true:=zDt (by omega)
   have hk0:(0:Int)≤(k:Int):=by omega
   have hk1:(k:Int) < (m:Int):=by omega
   have hkz:k < zs.length:=by rw[HM.out];exact hk
   have hc:=zP HH.out.2.2 (HZ.out k hkz)
   obtain⟨z,hzz⟩:∃ z,z=zs[k]:=⟨_,rfl⟩
   rw[←hzz] at hc
   have HZK:Hid (zs.getD k 0=z):=zN (by rw[hzz,List.getD_eq_getElem?_getD,List.getElem?_eq_getElem hkz];rfl)
   have hown:wr.ownsRow w.heap.size 44 8 (.slice pl L.length cl) L.length ((L.map Prod.fst).flatMap rpc):=by
    have h:=HH.out.1.row
    unfold RepRow at h
    rw[List.length_map] at h
    exact h
   have hws:=HH.out.2.2.size
   have hbr:=Nat.lt_of_lt_of_le hB hws
   have hL4:L.length≤4:=by omega
   have hk4:k < 4:=by omega
   have hk4I:(k:Int) < 4:=by omega
   have hkk:k=0∨k=1∨k=2∨k=3:=by omega
   clear hzz hLk
   rcases hkk with rfl|rfl|rfl|rfl
   all_goals (
    go_wp2_with (refine RX.wpl_app (by rfl) elRep _ _ (by rfl) w.heap.size _ _ _ (World.ownsRow.alloc (World.ownsRow.alloc (World.ownsRow.alloc hown _) _) _) (by rfl) (wr.heap.size+1+1) _ 1 (by rfl) (heap3 _ _ _ _) (by rfl) (by simp[Value.oneCell']) (by omega) (by omega) (by simp;omega) ?_;intro v' wd hown2 hbd hgd hatd)
    have HF:=four_step (zs:=zs) HH.out.1 HH.out.2.1 HH.out.2.2 hown2 hbd hgd hatd (by rw[HLK.out];rfl) (by rw[HLK.out];exact HZK.out)
    refine⟨⟨L.length+1,_,by have:=HLK.out;omega,by rw[HLK.out];rfl,by rw[List.length_append];rfl,zN HF⟩,?_⟩
    simp[intOf]<;>omega)
  ·have hdk:decide ((k:Int) < (m:Int))=false:=zDf (by omega)
   obtain rfl:k=m:=by omega
   clear hLk
   go_wp2
   go_ret
   exact⟨_,L,rfl,HH.out.1,HLK.out,HH.out.2.1,HH.out.2.2⟩
end Go.Proofs.YtednaajanciabaaGreatDoor
