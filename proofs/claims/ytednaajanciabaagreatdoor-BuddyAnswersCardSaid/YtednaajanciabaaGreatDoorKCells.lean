import Derived.Test.YtednaajanciabaaGreatDoorProg
import Derived.Test.YtednaajanciabaaGreatDoorLaid
import Derived.Test.YtednaajanciabaaGreatDoorKRegion
import Derived.WalkKit
import Derived.Maps.AppendAt
import Derived.Test.YtednaajanciabaaGreatDoorWard
set_option maxRecDepth 100000
set_option maxHeartbeats 8000000
set_option linter.unusedSimpArgs false
set_option linter.unusedVariables false
namespace Go.Proofs.YtednaajanciabaaGreatDoor
open Go.RowKit Go.Sort Go.Shelf
def IntsAt (w:World) (b o:Nat) (zs:List Int):Prop:=∀ j (h:j < zs.length),w.cell? ⟨b,o+j,none⟩=some (.int .i64 zs[j])∧w.frozen? ⟨b,o+j,none⟩=false
theorem IntsAt.holds {w:World} {b o:Nat} {zs:List Int} (h:IntsAt w b o zs):Holds (Value.int .i64) w b o zs.toArray:=by
 intro j hj
 have hj':j < zs.length:=by simpa using hj
 rw[getElem!_pos zs.toArray j hj]
 simpa using h j hj'
theorem ints_of_holds {w:World} {b o:Nat} {zs:List Int} (h:Holds (Value.int .i64) w b o zs.toArray):IntsAt w b o zs:=by
 intro j hj
 have hj':j < zs.toArray.size:=by simpa using hj
 have:=h j hj'
 rw[getElem!_pos zs.toArray j hj'] at this
 simpa using this
theorem IntsAt.block {w w':World} {b o:Nat} {zs:List Int} (h:IntsAt w b o zs) (hb:w'.heap[b]?=w.heap[b]?):IntsAt w' b o zs:=fun j hj=>
 ⟨(World.cell?_of_block hb).trans (h j hj).1,(zFb hb).trans (h j hj).2⟩
def sorted (zs:List Int):List Int:=zs.mergeSort fun x y=>decide (x≤y)
theorem sorted_perm (zs:List Int):(sorted zs).Perm zs:=List.mergeSort_perm _ _
theorem sorted_pair (zs:List Int):(sorted zs).Pairwise (·≤·):=by
 have:=List.pairwise_mergeSort (le:=fun x y:Int=>decide (x≤y)) (fun a b c=>by simp;omega) (fun a b=>by simp;omega) zs
 exact this.imp (fun h=>by simpa using h)
theorem sorted_len (zs:List Int):(sorted zs).length=zs.length:=(sorted_perm zs).length_eq
theorem sortInts_any (b o cap:Nat) (p:Option Addr) (zs:List Int) (w:World) (hp:0 < zs.length→p=some ⟨b,o,none⟩) (h:IntsAt w b o zs) (hsz:zs.length < 4611686018427387904) :
  Calls Tryz.prog 90 #[.slice p zs.length cap] w fun e w'=>e=.returned (.tuple #[])∧w.grownBy w' (some b)∧IntsAt w' b o (sorted zs):=by
 by_cases h0:0 < zs.length
 ·obtain rfl:=hp h0
  have hblk:b < w.heap.size:=zM w _ (h 0 h0).1
  refine (Tryz.slices_Sort_int b o cap zs w h.holds hblk hsz).mono ?_
  rintro e w' ⟨rfl,n,os,rfl⟩
  refine⟨rfl,?_,?_⟩
  ·refine⟨rfl,rfl,rfl,?_,fun k hk hne=>?_⟩
   ·simp[grow,putRow,mapBlock,Sort.ahead]
   ·have hne':b≠k:=fun e=>hne (by rw[e])
    show (w.heap.modify b _ ++ os)[k]?=w.heap[k]?
    rw[Array.getElem?_append_left (by simpa using hk),Array.getElem?_modify,if_neg hne']
  ·refine ints_of_holds (holds_grow _ _ _ _ _ _ (by simp[Sort.ahead];exact hblk) ?_)
   exact holds_putRow _ _ _ _ zs.toArray _ (holds_ahead _ _ n _ _ _ h.holds) (by simp)
 ·obtain rfl:zs=[]:=List.eq_nil_of_length_eq_zero (by omega)
  refine (Tryz.slices_Sort_int_none p cap w).mono ?_
  rintro e w' ⟨rfl,rfl⟩
  exact⟨rfl,World.grownBy.refl _ _,fun j hj=>by simp[sorted] at hj⟩
open Go.RowKit Go.Grid Go.Maps
def ceCells (c:List Int):List Value:=c.map (Value.int .i64)
def ceVals (C:List (List Int)):List Value:=C.flatMap ceCells
theorem elCe:RX.ElemOf Tryz.prog 111 136 (.agg #[.int .i64 0,.int .i64 0,.int .i64 0]) 3 24:=⟨Tryz.underlying111,by kernel_rfl,rfl,by decide⟩
structure CellInv (w:World) (g n base:Nat) (L:List Pl) (C:List (List Int)):Prop where
 net:NetAt w g n base L
 c4:∃ v,w.cell? ⟨g,4,none⟩=some v∧w.ownsRow base 136 3 v C.length (ceVals C)
 c5:w.cell? ⟨g,5,none⟩=some (.slice none 0 0)
 c6:w.cell? ⟨g,6,none⟩=some (.slice none 0 0)
theorem CellInv.kept {w w':World} {g n base:Nat} {L:List Pl} {C:List (List Int)} {row:Option Nat} (h:CellInv w g n base L C) (hg:w.grownBy w' row) (hr:∀ k,row=some k→w.heap.size≤k):CellInv w' g n base L C:=by
 have hlt:g < w.heap.size:=zM w _ h.net.cn
 have hne:some g≠row:=fun e=>by have:=hr g e.symm;omega
 obtain⟨v,h1,h2⟩:=h.c4
 refine⟨h.net.kept hg hr,⟨v,hg.cell h1 hne,h2.kept hg ?_⟩,hg.cell h.c5 hne,hg.cell h.c6 hne⟩
 cases ho:v.ownBlock with
 |none=>exact .inl rfl
 |some k=>
  have:=(h2.lt k ho).2
  exact .inr fun e=>by have:=hr k e.symm;omega
theorem CellInv.below {w w':World} {g n base:Nat} {L:List Pl} {C:List (List Int)} (h:CellInv w g n base L C) (hb:Below w.heap.size w w'):CellInv w' g n base L C:=
 h.kept (row:=none) ⟨hb.os,hb.tape,hb.output,hb.size,fun k hk _=>hb.block k hk⟩ (fun k e=>by cases e)
def atI (L:List Pl) (p:Pl):Int:=(((ix L (normal p)).getD 0:Nat):Int)
def tri (L:List Pl) (p q r:Pl):List Int:=sorted [atI L p,atI L q,atI L r]
theorem tri_len (L:List Pl) (p q r:Pl):(tri L p q r).length=3:=sorted_len _
theorem own_apart {w:World} {b1 b2:Nat} {e1 e2:TypeId} {s1 s2 n1 n2:Nat} {v1 v2:Value} {x1 x2:List Value} (h1:w.ownsRow b1 e1 s1 v1 n1 x1) (h2:w.ownsRow b2 e2 s2 v2 n2 x2) (hne:e1≠e2):v1.ownBlock=none∨v1.ownBlock≠v2.ownBlock:=by
 rcases h1.2 with ⟨rfl,_⟩|⟨g1,c1,cur1,rfl,_,hg1,_⟩
 ·exact .inl rfl
 ·refine .inr fun e=>?_
  rcases h2.2 with ⟨rfl,_⟩|⟨g2,c2,cur2,rfl,_,hg2,_⟩
  ·simp[Value.ownBlock] at e
  ·simp[Value.ownBlock] at e
   subst e
   rw[hg1] at hg2
   simp at hg2
   exact hne hg2.2
theorem blk_set {w:World} {b j:Nat} {v:Value} {cs:Array Value} {t:TypeId} {fr:Nat × Nat} (h:w.heap[b]?=some (.cells cs t fr)):(w.setCell ⟨b,j,none⟩ v).heap[b]?=some (.cells (cs.setIfInBounds j v) t fr):=by
 have hlt:=lt_of_block h
 have h':w.heap[b]=.cells cs t fr:=by simpa[Array.getElem?_eq_getElem hlt] using h
 show (w.heap.modify b _)[b]?=_
 rw[Array.getElem?_eq_getElem (by simpa using hlt),Array.getElem_modify_self,h']
 rfl
theorem blk_cell {w:World} {b j:Nat} {v:Value} {cs:Array Value} {t:TypeId} {fr:Nat × Nat} (h:w.heap[b]?=some (.cells cs t fr)) (hv:cs[j]?=some v):w.cell? ⟨b,j,none⟩=some v:=by simp[World.cell?,h,hv]
theorem blk_free {w:World} {b j:Nat} {cs:Array Value} {t:TypeId} (h:w.heap[b]?=some (.cells cs t (0,0))):w.frozen? ⟨b,j,none⟩=false:=by simp[World.frozen?,h]
theorem cell_any (g n base:Nat) (L:List Pl) (C:List (List Int)) (p q r:Pl) (w:World) (hT:HasTab w) (hI:CellInv w g n base L C) (hp:p.Ok) (hq:q.Ok) (hr:r.Ok) (hC:C.length≤100000) :
  Calls Tryz.prog 113 #[.pointer (some ⟨g,0,none⟩),pv3 p q r] w fun e w'=>e=.returned (.tuple #[])∧CellInv w' g n base L (C ++ [tri L p q r])∧Below (g-1) w w'∧
   ∀ k,k < w.heap.size→k≠g→(∀ v,w.cell? ⟨g,4,none⟩=some v→v.ownBlock≠some k)→w'.heap[k]?=w.heap[k]?:=by
 have HP:=zN (And.intro hp (And.intro hq hr))
 clear hp hq hr
 have hpv:Hid (pv3 p q r=pv3 p q r):=zN rfl
 obtain⟨P,hP⟩:∃ P,P=pv p:=⟨_,rfl⟩
 unfold pv3
 have i0:∀ w,(Instr.index 167 (.agg #[.int .i64 p.f,.int .i64 p.a,.int .i64 p.b,.int .i64 p.c,.int .i64 q.f,.int .i64 q.a,.int .i64 q.b,.int .i64 q.c,.int .i64 r.f,.int .i64 r.a,.int .i64 r.b,.int .i64 r.c]) (.int .i64 0)).run Tryz.prog w=.ok (.agg #[.int .i64 p.f,.int .i64 p.a,.int .i64 p.b,.int .i64 p.c]) w:=fun _=>by kernel_rfl
 have i1:∀ w,(Instr.index 167 (.agg #[.int .i64 p.f,.int .i64 p.a,.int .i64 p.b,.int .i64 p.c,.int .i64 q.f,.int .i64 q.a,.int .i64 q.b,.int .i64 q.c,.int .i64 r.f,.int .i64 r.a,.int .i64 r.b,.int .i64 r.c]) (.int .i64 1)).run Tryz.prog w=.ok (.agg #[.int .i64 q.f,.int .i64 q.a,.int .i64 q.b,.int .i64 q.c]) w:=fun _=>by kernel_rfl
 have i2:∀ w,(Instr.index 167 (.agg #[.int .i64 p.f,.int .i64 p.a,.int .i64 p.b,.int .i64 p.c,.int .i64 q.f,.int .i64 q.a,.int .i64 q.b,.int .i64 q.c,.int .i64 r.f,.int .i64 r.a,.int .i64 r.b,.int .i64 r.c]) (.int .i64 2)).run Tryz.prog w=.ok (.agg #[.int .i64 r.f,.int .i64 r.a,.int .i64 r.b,.int .i64 r.c]) w:=fun _=>by kernel_rfl
 clear hP hpv
 clear P
 go_enter Tryz.func113,Tryz.ntmps113
 go_wp2
 have hgl:g < w.heap.size:=zM w _ hI.net.cn
 refine wp_loop_rounds 4 ?_
 rw[rounds_succ]
 go_wp2_with fail
 refine (at_any g n base L p _ ?_ ?_ HP.out.1).mono ?_
 ·exact hT.below (by repeat (first|(with_reducible first|assumption|exact zBr _ _|refine zBs ?_ (by first|omega|(simp<;>omega)) _|refine zBa ?_ (by first|omega|(simp<;>omega)) _|apply zBd)|assumption))
 ·exact (hI.below (by repeat (first|(with_reducible first|assumption|exact zBr _ _|refine zBs ?_ (by first|omega|(simp<;>omega)) _|refine zBa ?_ (by first|omega|(simp<;>omega)) _|apply zBd)|assumption))).net
 rintro e w1 ⟨rfl,hb1⟩
 have B1:Below w.heap.size w w1:=Below.trans (by repeat (first|(with_reducible first|assumption|exact zBr _ _|refine zBs ?_ (by first|omega|(simp<;>omega)) _|refine zBa ?_ (by first|omega|(simp<;>omega)) _|apply zBd)|assumption)) (hb1.mono (by first|(simp;done)|(simp;omega)|omega))
 have K1:w1.heap[w.heap.size+1]?=some (.cells #[.int .i64 0,.int .i64 0,.int .i64 0] 132 (0,0)):=(hb1.block _ (by first|(simp;done)|(simp;omega)|omega)).trans ((heap_alloc_old _ _ (by simp)).trans (by simpa using heap_alloc_new (w.alloc (.cells #[.int .i64 p.f,.int .i64 p.a,.int .i64 p.b,.int .i64 p.c,.int .i64 q.f,.int .i64 q.a,.int .i64 q.b,.int .i64 q.c,.int .i64 r.f,.int .i64 r.a,.int .i64 r.b,.int .i64 r.c] 167)) (.cells #[.int .i64 0,.int .i64 0,.int .i64 0] 132)))
 have S1:w.heap.size+2≤w1.heap.size:=by have:=lt_of_block K1;omega
 clear hb1
 have u1:=blk_cell (j:=0) K1 rfl
 have v1:=blk_free (j:=0) K1
 go_wp2
 clear u1 v1
 have K1s:(w1.setCell ⟨w.heap.size+1,0,none⟩ (.int .i64 (atI L p))).heap[w.heap.size+1]?=some (.cells #[.int .i64 (atI L p),.int .i64 0,.int .i64 0] 132 (0,0)):=blk_set K1
 clear K1
 rw[rounds_succ]
 go_wp2_with fail
 refine (at_any g n base L q _ ?_ ?_ HP.out.2.1).mono ?_
 ·exact hT.below (by repeat (first|(with_reducible first|assumption|exact zBr _ _|refine zBs ?_ (by first|omega|(simp<;>omega)) _|refine zBa ?_ (by first|omega|(simp<;>omega)) _|apply zBd)|assumption))
 ·exact (hI.below (by repeat (first|(with_reducible first|assumption|exact zBr _ _|refine zBs ?_ (by first|omega|(simp<;>omega)) _|refine zBa ?_ (by first|omega|(simp<;>omega)) _|apply zBd)|assumption))).net
 rintro e w2 ⟨rfl,hb2⟩
 have B2:Below w.heap.size w w2:=Below.trans (by repeat (first|(with_reducible first|assumption|exact zBr _ _|refine zBs ?_ (by first|omega|(simp<;>omega)) _|refine zBa ?_ (by first|omega|(simp<;>omega)) _|apply zBd)|assumption)) (hb2.mono (by first|(simp;done)|(simp;omega)|omega))
 have K2:w2.heap[w.heap.size+1]?=some (.cells #[.int .i64 (atI L p),.int .i64 0,.int .i64 0] 132 (0,0)):=(hb2.block _ (by first|(simp;done)|(simp;omega)|omega)).trans ((heap_alloc_old _ _ (lt_of_block K1s)).trans K1s)
 have S2:w.heap.size+2≤w2.heap.size:=by have:=lt_of_block K2;omega
 clear hb2 B1 K1s S1
 have u2:=blk_cell (j:=1) K2 rfl
 have v2:=blk_free (j:=1) K2
 go_wp2
 clear u2 v2
 have K2s:(w2.setCell ⟨w.heap.size+1,1,none⟩ (.int .i64 (atI L q))).heap[w.heap.size+1]?=some (.cells #[.int .i64 (atI L p),.int .i64 (atI L q),.int .i64 0] 132 (0,0)):=blk_set K2
 clear K2
 rw[rounds_succ]
 go_wp2_with fail
 refine (at_any g n base L r _ ?_ ?_ HP.out.2.2).mono ?_
 ·exact hT.below (by repeat (first|(with_reducible first|assumption|exact zBr _ _|refine zBs ?_ (by first|omega|(simp<;>omega)) _|refine zBa ?_ (by first|omega|(simp<;>omega)) _|apply zBd)|assumption))
 ·exact (hI.below (by repeat (first|(with_reducible first|assumption|exact zBr _ _|refine zBs ?_ (by first|omega|(simp<;>omega)) _|refine zBa ?_ (by first|omega|(simp<;>omega)) _|apply zBd)|assumption))).net
 rintro e w3 ⟨rfl,hb3⟩
 have B3:Below w.heap.size w w3:=Below.trans (by repeat (first|(with_reducible first|assumption|exact zBr _ _|refine zBs ?_ (by first|omega|(simp<;>omega)) _|refine zBa ?_ (by first|omega|(simp<;>omega)) _|apply zBd)|assumption)) (hb3.mono (by first|(simp;done)|(simp;omega)|omega))
 have K3:w3.heap[w.heap.size+1]?=some (.cells #[.int .i64 (atI L p),.int .i64 (atI L q),.int .i64 0] 132 (0,0)):=(hb3.block _ (by first|(simp;done)|(simp;omega)|omega)).trans ((heap_alloc_old _ _ (lt_of_block K2s)).trans K2s)
 have S3:w.heap.size+2≤w3.heap.size:=by have:=lt_of_block K3;omega
 clear hb3 B2 K2s S2
 have u3:=blk_cell (j:=2) K3 rfl
 have v3:=blk_free (j:=2) K3
 go_wp2
 clear u3 v3
 have K3s:(w3.setCell ⟨w.heap.size+1,2,none⟩ (.int .i64 (atI L r))).heap[w.heap.size+1]?=some (.cells #[.int .i64 (atI L p),.int .i64 (atI L q),.int .i64 (atI L r)] 132 (0,0)):=blk_set K3
 clear K3
 rw[rounds_succ]
 go_wp2_with fail
 have BX:Below w.heap.size w (w3.setCell ⟨w.heap.size+1,2,none⟩ (.int .i64 (atI L r))):=(by repeat (first|(with_reducible first|assumption|exact zBr _ _|refine zBs ?_ (by first|omega|(simp<;>omega)) _|refine zBa ?_ (by first|omega|(simp<;>omega)) _|apply zBd)|assumption))
 have SX:w.heap.size+2≤(w3.setCell ⟨w.heap.size+1,2,none⟩ (.int .i64 (atI L r))).heap.size:=by have:=lt_of_block K3s;omega
 have HT:Hid (tri L p q r=sorted [atI L p,atI L q,atI L r]):=zN rfl
 refine (sortInts_any (w.heap.size+1) 0 3 (some ⟨w.heap.size+1,0,none⟩) [atI L p,atI L q,atI L r] (w3.setCell ⟨w.heap.size+1,2,none⟩ (.int .i64 (atI L r))) (fun _=>rfl) ?_ (by simp)).mono ?_
 ·intro j hj
  rw[Nat.zero_add]
  match j,hj with
  |0,_=>exact⟨blk_cell K3s rfl,blk_free K3s⟩
  |1,_=>exact⟨blk_cell K3s rfl,blk_free K3s⟩
  |2,_=>exact⟨blk_cell K3s rfl,blk_free K3s⟩
  |j+3,hj=>simp at hj;omega
 rintro e w4 ⟨rfl,hg4,hs4⟩
 have B4:Below w.heap.size w w4:=BX.grown hg4 (by omega) (fun k hk=>by injection hk with hk;omega)
 have S4:w.heap.size+2≤w4.heap.size:=Nat.le_trans SX hg4.size
 clear hg4 BX SX K3s B3 S3 i0 i1 i2 hT HP
 have hl3:(sorted [atI L p,atI L q,atI L r]).length=3:=sorted_len _
 obtain⟨T,hTe⟩:∃ T,T=sorted [atI L p,atI L q,atI L r]:=⟨_,rfl⟩
 rw[←hTe] at hs4 hl3
 have HTE:Hid (tri L p q r=T):=zN (by rw[hTe];rfl)
 clear hTe HT
 obtain⟨t0,t1,t2,rfl⟩:∃ t0 t1 t2,T=[t0,t1,t2]:=by
  match T,hl3 with
  |[t0,t1,t2],_=>exact⟨t0,t1,t2,rfl⟩
 clear hl3
 have k0:=(hs4 0 (by simp)).1
 have k1:=(hs4 1 (by simp)).1
 have k2:=(hs4 2 (by simp)).1
 simp only[Nat.zero_add,Nat.add_zero,List.getElem_cons_zero,List.getElem_cons_succ] at k0 k1 k2
 clear hs4
 have hI4:=hI.below B4
 obtain⟨v,e4,hown⟩:=hI4.c4
 obtain⟨vp,vc,rfl,hvc⟩:=own_slice hown
 have hvlow:∀ k,(Value.slice vp C.length vc).ownBlock=some k→k < w.heap.size:=by
  obtain⟨v0,d4,hown0⟩:=hI.c4
  have:=(zP B4 d4).symm.trans e4
  injection this with this
  subst this
  exact fun k hk=>(hown0.lt k hk).2
 have hgb:g < base:=hI.net.hb.1
 have hbs:base≤w.heap.size:=hI.net.hb.2
 go_wp2
 refine RY.region RX.fN (fun w'=>w'.cell? ⟨g,4,none⟩=some (.slice vp C.length vc)∧w'.cell? ⟨w.heap.size+1,0,none⟩=some (.int .i64 t0)∧w'.cell? ⟨w.heap.size+1,1,none⟩=some (.int .i64 t1)∧w'.cell? ⟨w.heap.size+1,2,none⟩=some (.int .i64 t2)) (by kernel_rfl) (by kernel_rfl) (⟨e4,k0,k1,k2⟩) (fun OPS HO QR hQR=>?_)
 repeat (refine zeY (fun R hR=>?_);(first|refine zaY (by first|rfl|(rw[HO.out];rfl)) (by simp only[zA,zB,zC,zD];rfl) ?_|refine zbY (by first|rfl|(rw[HO.out];rfl)) rfl (by first|exact .inl rfl|exact .inr rfl) (by simp only[zE,zF,zG,zH];rfl) (by simp only[zA,zB,zC,zD];rfl) ?_|refine zcY (by first|rfl|(rw[HO.out];rfl)) rfl rfl (by simp only[zE,zF,zG,zH];rfl) (by simp only[zA,zB,zC,zD];rfl) ?_|(refine zdY (by first|rfl|(rw[HO.out];rfl)) rfl rfl rfl ?_;apply zEx;apply zEx;refine⟨fun w' hS K hK=>?_,?_,?_⟩;(focus (obtain⟨hS1,hS2,hS3,hS4⟩:=hS;go_wp2;exact hK _ _ (by simp only[zl,zG,zH];first|exact zf (by omega)|exact zg (by omega)|exact zh (by omega)|exact zi (by omega)|exact zj (by omega)|exact zk (by omega)|exact RX.bneB _|rfl) rfl));(focus (simp only[zA,zB,zC,zD];rfl))));refine hR _ _ ?_;clear hR R)
 refine zeY (fun R hR=>?_)
 refine zgY (by first|rfl|(rw[HO.out];rfl)) rfl (fun K hK=>?_)
 go_wp2
 refine⟨.inr (⟨(by (try have hLt:=zM _ _ e4);(try simp only at hLt);(repeat first|rw[zO]|rw[zK _ _ _ _ (by first|(simp<;>omega)|omega)]|rw[zJ,if_neg (by first|(simp<;>omega)|omega)]);first|exact e4|(rw[zJ,if_pos (by first|(simp;done)|omega)];exact e4)),(by (try have hLt:=zM _ _ k0);(try simp only at hLt);(repeat first|rw[zO]|rw[zK _ _ _ _ (by first|(simp<;>omega)|omega)]|rw[zJ,if_neg (by first|(simp<;>omega)|omega)]);first|exact k0|(rw[zJ,if_pos (by first|(simp;done)|omega)];exact k0)),(by (try have hLt:=zM _ _ k1);(try simp only at hLt);(repeat first|rw[zO]|rw[zK _ _ _ _ (by first|(simp<;>omega)|omega)]|rw[zJ,if_neg (by first|(simp<;>omega)|omega)]);first|exact k1|(rw[zJ,if_pos (by first|(simp;done)|omega)];exact k1)),(by (try have hLt:=zM _ _ k2);(try simp only at hLt);(repeat first|rw[zO]|rw[zK _ _ _ _ (by first|(simp<;>omega)|omega)]|rw[zJ,if_neg (by first|(simp<;>omega)|omega)]);first|exact k2|(rw[zJ,if_pos (by first|(simp;done)|omega)];exact k2))⟩),hR _ _ ?_⟩;clear hR R
 repeat (refine zeY (fun R hR=>?_);(first|refine zaY (by first|rfl|(rw[HO.out];rfl)) (by simp only[zA,zB,zC,zD];rfl) ?_|refine zbY (by first|rfl|(rw[HO.out];rfl)) rfl (by first|exact .inl rfl|exact .inr rfl) (by simp only[zE,zF,zG,zH];rfl) (by simp only[zA,zB,zC,zD];rfl) ?_|refine zcY (by first|rfl|(rw[HO.out];rfl)) rfl rfl (by simp only[zE,zF,zG,zH];rfl) (by simp only[zA,zB,zC,zD];rfl) ?_|(refine zdY (by first|rfl|(rw[HO.out];rfl)) rfl rfl rfl ?_;apply zEx;apply zEx;refine⟨fun w' hS K hK=>?_,?_,?_⟩;(focus (obtain⟨hS1,hS2,hS3,hS4⟩:=hS;go_wp2;exact hK _ _ (by simp only[zl,zG,zH];first|exact zf (by omega)|exact zg (by omega)|exact zh (by omega)|exact zi (by omega)|exact zj (by omega)|exact zk (by omega)|exact RX.bneB _|rfl) rfl));(focus (simp only[zA,zB,zC,zD];rfl))));refine hR _ _ ?_;clear hR R)
 refine zeY (fun R hR=>?_)
 refine zgY (by first|rfl|(rw[HO.out];rfl)) rfl (fun K hK=>?_)
 refine RX.wp_app elCe _ _ rfl base _ _ _ ((World.ownsRow.drew hown).alloc _) (by simp only[zE,zF,zG,zH]) w4.heap.size _ 1 (by simp only[zE,zF,zG,zH]) (heap_alloc_new _ _) rfl (by simp[Value.oneCell']) (by omega) (by omega) (by simp;omega) (fun v5 w5 hown5 hb5 hg5 hat5=>?_)
 have hg45:w4.grownBy w5 (Value.slice vp C.length vc).ownBlock:=by
  have h0:w4.grownBy (w4.drew.alloc (.cells #[.int .i64 t0,.int .i64 t1,.int .i64 t2] 136)) (Value.slice vp C.length vc).ownBlock:=by
   have:=World.grownBy_alloc w4.drew (.cells #[.int .i64 t0,.int .i64 t1,.int .i64 t2] 136) (Value.slice vp C.length vc).ownBlock
   exact⟨this.os,this.tape,this.output,this.size,this.block⟩
  exact h0.trans hg5
 have hnb:∀ b,w.heap.size≤b→some b≠(Value.slice vp C.length vc).ownBlock:=fun b hb e=>by
  have:=hvlow b e.symm;omega
 have hb45:Below base w4 w5:=by
  refine⟨hg45.os,hg45.tape,hg45.output,hg45.size,fun k hk=>hg45.block k (by omega) (fun e=>?_)⟩
  have:=(hown.lt k e.symm).1;omega
 have e5:w5.cell? ⟨g,4,none⟩=some (.slice vp C.length vc):=(hb45.cell (show g < base from hgb)).trans e4
 have f5:w5.frozen? ⟨g,4,none⟩=false:=(hb45.frozen (show g < base from hgb)).trans (hI4.net.fr 4)
 obtain⟨p5,c5,hv5,_⟩:=own_slice hown5
 subst hv5
 refine hK _ _ ⟨.inr (⟨e5,hg45.cell k0 (hnb _ (Nat.le_succ _)),hg45.cell k1 (hnb _ (Nat.le_succ _)),hg45.cell k2 (hnb _ (Nat.le_succ _))⟩),?_⟩;clear hK K;refine RY.at_ (by simp only[RX.put_some,RX.put_none,List.set_cons_zero,List.set_cons_succ];rfl) (hR _ _ ?_);clear hR R
 repeat (refine zeY (fun R hR=>?_);(first|refine zaY (by first|rfl|(rw[HO.out];rfl)) (by simp only[zA,zB,zC,zD];rfl) ?_|refine zbY (by first|rfl|(rw[HO.out];rfl)) rfl (by first|exact .inl rfl|exact .inr rfl) (by simp only[zE,zF,zG,zH];rfl) (by simp only[zA,zB,zC,zD];rfl) ?_|refine zcY (by first|rfl|(rw[HO.out];rfl)) rfl rfl (by simp only[zE,zF,zG,zH];rfl) (by simp only[zA,zB,zC,zD];rfl) ?_|(refine zdY (by first|rfl|(rw[HO.out];rfl)) rfl rfl rfl ?_;apply zEx;apply zEx;refine⟨fun w' hS K hK=>?_,?_,?_⟩;(focus (obtain⟨hS1,hS2,hS3,hS4⟩:=hS;go_wp2;exact hK _ _ (by simp only[zl,zG,zH];first|exact zf (by omega)|exact zg (by omega)|exact zh (by omega)|exact zi (by omega)|exact zj (by omega)|exact zk (by omega)|exact RX.bneB _|rfl) rfl));(focus (simp only[zA,zB,zC,zD];rfl))));refine hR _ _ ?_;clear hR R)
 refine zeY (fun R hR=>?_)
 refine zgY (by first|rfl|(rw[HO.out];rfl)) rfl (fun K hK=>?_)
 go_wp2
 first|refine⟨(by first|exact .inl rfl|exact .inl trivial|trivial),hR _ _ (RY.wpL_nil (hQR _ _ ?_))⟩|refine hR _ _ (RY.wpL_nil (hQR _ _ ?_))|refine hQR _ _ ?_
 (try clear hR);(try clear R);clear hQR QR HO OPS
 go_wp2
 go_end0
 refine⟨rfl,?_,?_,?_⟩
 ·rw[HTE.out]
  have tr:∀ j u,j≠4→w4.cell? ⟨g,j,none⟩=some u→(w5.setCell ⟨g,4,none⟩ (.slice p5 (C.length+1) c5)).cell? ⟨g,j,none⟩=some u:=fun j u hj h=>by
   rw[zK _ _ _ _ (by first|(simp;done)|(simp;omega)|omega)]
   exact (hb45.cell (show g < base from hgb)).trans h
  obtain⟨nv,B,n1,n2,n3,n4,n5⟩:=hI4.net.nd
  have hsz:(w5.setCell ⟨g,4,none⟩ (.slice p5 (C.length+1) c5)).heap.size=w5.heap.size:=by simp[World.setCell]
  have hs45:=hb45.size
  refine⟨⟨tr 0 _ (by omega) hI4.net.cn,tr 1 _ (by omega) hI4.net.ch,fun j=>?_,⟨hgb,by omega⟩,nv,B,tr 2 _ (by omega) n1,tr 3 _ (by omega) n2,?_,?_,n5⟩,⟨.slice p5 (C.length+1) c5,?_,?_⟩,tr 5 _ (by omega) hI4.c5,tr 6 _ (by omega) hI4.c6⟩
  ·rw[World.frozen?_setCell]
   exact (hb45.frozen (show g < base from hgb)).trans (hI4.net.fr j)
  ·refine ownsRow_setCell_other (n3.kept hg45 (own_apart n3 hown (by decide))) (fun e=>?_) _
   have:=(n3.lt _ e).1;simp only at this;omega
  ·refine IdxMap.block n4 ?_
   rw[Below.heap_setCell _ _ _ B (by first|(simp;done)|(simp;omega)|omega)]
   exact hb45.block B (by omega)
  ·exact zL _ _ _ (by rw[e5];rfl)
  ·rw[List.length_append,show ceVals (C ++ [[t0,t1,t2]])=ceVals C ++ [.int .i64 t0,.int .i64 t1,.int .i64 t2] by simp[ceVals,ceCells]]
   refine ownsRow_setCell_other hown5 (fun e=>?_) _
   have:=(hown5.lt _ e).1;simp only at this;omega
 ·refine zBs ?_ (by first|(simp;done)|(simp;omega)|omega) _
  exact (B4.mono (by omega)).trans (hb45.mono (by omega))
 ·intro k hk hkg hkv
  have h0:=hI.c4
  obtain⟨v0,d4,hown0⟩:=h0
  have hv0:=(zP B4 d4).symm.trans e4
  injection hv0 with hv0
  have:=hkv v0 d4
  rw[hv0] at this
  rw[Below.heap_setCell _ _ _ k (by first|(simp;done)|(simp;omega)|omega)]
  exact (hg45.block k (by omega) (Ne.symm this)).trans (B4.block k hk)
def cellsAt (L:List Pl) (h:Nat) (p:Pl):List (List Int):=
 tri L ⟨p.f,p.a+h,p.b,p.c⟩ ⟨p.f,p.a,p.b+h,p.c⟩ ⟨p.f,p.a,p.b,p.c+h⟩ ::
  (if h≤p.c then [tri L ⟨p.f,p.a,p.b+h,p.c⟩ ⟨p.f,p.a+h,p.b,p.c⟩ ⟨p.f,p.a+h,p.b+h,p.c-h⟩] else [])
theorem Below_undrew {B:Nat} {w w':World} (h:Below B w.drew w'):Below B w w':=⟨h.os,h.tape,h.output,h.size,h.block⟩
theorem cells_any (g n base:Nat) (L:List Pl) (C:List (List Int)) (p:Pl) (w:World) (hT:HasTab w) (h0:1+1 < g) (hI:CellInv w g n base L C) (hf:p.f < 20) (hs:p.a+p.b+p.c+hh n=840) (hC:C.length≤90000) (hh0:1≤hh n) :
  Calls Tryz.prog 84 #[.pointer (some ⟨g,0,none⟩),pv p] w fun e w'=>e=.returned (.tuple #[])∧CellInv w' g n base L (C ++ cellsAt L (hh n) p)∧Below (g-1) w w':=by
 have hpv:Hid (pv p=.agg #[.int .i64 p.f,.int .i64 p.a,.int .i64 p.b,.int .i64 p.c]):=zN rfl
 rw[hpv.out]
 have hgl:g < w.heap.size:=zM w _ hI.net.cn
 have hch:=hI.net.ch
 obtain⟨h,hhe⟩:∃ h,h=hh n:=⟨_,rfl⟩
 rw[←hhe] at hs hch hh0 ⊢
 have HH:=zN hhe
 clear hhe
 have hvlow:∀ v,w.cell? ⟨g,4,none⟩=some v→∀ k,v.ownBlock=some k→k < w.heap.size:=fun v hv k hk=>by
  obtain⟨v0,d4,hown0⟩:=hI.c4
  have:=d4.symm.trans hv
  injection this with this
  subst this
  exact (hown0.lt k hk).2
 go_enter Tryz.func84,Tryz.ntmps84
 go_wp2_with fail
 refine (upward_any g h p _ ?_ (by omega) (by omega)).mono ?_
 ·exact (by (try have hLt:=zM _ _ hch);(try simp only at hLt);(repeat first|rw[zO]|rw[zK _ _ _ _ (by first|(simp<;>omega)|omega)]|rw[zJ,if_neg (by first|(simp<;>omega)|omega)]);first|exact hch|(rw[zJ,if_pos (by first|(simp;done)|omega)];exact hch))
 rintro e w1 ⟨rfl,hb1⟩
 have p0:w1.cell? ⟨w.heap.size,0,none⟩=some (.int .i64 p.f):=zP hb1 (by simp[zO,zJ,zQ])
 have p1:w1.cell? ⟨w.heap.size,1,none⟩=some (.int .i64 p.a):=zP hb1 (by simp[zO,zJ,zQ])
 have p2:w1.cell? ⟨w.heap.size,2,none⟩=some (.int .i64 p.b):=zP hb1 (by simp[zO,zJ,zQ])
 have p3:w1.cell? ⟨w.heap.size,3,none⟩=some (.int .i64 p.c):=zP hb1 (by simp[zO,zJ,zQ])
 have B1:Below w.heap.size w w1:=Below.trans (by repeat (first|(with_reducible first|assumption|exact zBr _ _|refine zBs ?_ (by first|omega|(simp<;>omega)) _|refine zBa ?_ (by first|omega|(simp<;>omega)) _|apply zBd)|assumption)) (hb1.mono (by simp))
 clear hb1
 go_wp2_with fail
 refine (cell_any g n base L C ⟨p.f,p.a+h,p.b,p.c⟩ ⟨p.f,p.a,p.b+h,p.c⟩ ⟨p.f,p.a,p.b,p.c+h⟩ w1 (hT.below B1) (hI.below B1) ⟨hf,?_⟩ ⟨hf,?_⟩ ⟨hf,?_⟩ (by omega)).mono ?_
 ·show p.a+h+p.b+p.c=840;omega
 ·show p.a+(p.b+h)+p.c=840;omega
 ·show p.a+p.b+(p.c+h)=840;omega
 rintro e w2 ⟨rfl,hI2,hB2,hfr⟩
 have hbox:w2.heap[w.heap.size]?=w1.heap[w.heap.size]?:=hfr _ (zM _ _ p0) (by omega) (fun v hv e=>by
  obtain⟨v0,d4,hown0⟩:=hI.c4
  have h9:=(zP B1 d4).symm.trans hv
  injection h9 with h9
  subst h9
  have:=hvlow v0 d4 _ e
  omega)
 have q0:=(World.cell?_of_block hbox).trans p0
 have q1:=(World.cell?_of_block hbox).trans p1
 have q2:=(World.cell?_of_block hbox).trans p2
 have q3:=(World.cell?_of_block hbox).trans p3
 have hBw:Below (g-1) w w2:=(B1.mono (by omega)).trans hB2
 clear hfr hbox p0 p1 p2 p3 hB2 hvlow hI hch B1
 have hch:=hI2.net.ch
 rw[←HH.out] at hch
 have hT2:HasTab w2:=hT.kept (hBw.block 1 (by omega))
 by_cases hc:h≤p.c
 ·have hcc:((p.c:Int)+-(h:Int))=((p.c-h:Nat):Int):=by omega
  go_wp2
  refine RX.region RX.fN (fun w'=>w'=_) (by kernel_rfl) (by kernel_rfl) rfl (fun OPS HO QR hQR=>?_)
  repeat (refine zeX (fun R hR=>?_);(first|refine zaX (by first|rfl|(rw[HO.out];rfl)) (by simp only[zA,zB,zC,zD];rfl) ?_|refine zbX (by first|rfl|(rw[HO.out];rfl)) rfl (by first|exact .inl rfl|exact .inr rfl) (by simp only[zE,zF,zG,zH];rfl) (by simp only[zA,zB,zC,zD];rfl) ?_|refine zcX (by first|rfl|(rw[HO.out];rfl)) rfl rfl (by simp only[zE,zF,zG,zH];rfl) (by simp only[zA,zB,zC,zD];rfl) ?_|(refine zdX (by first|rfl|(rw[HO.out];rfl)) rfl rfl rfl ?_;apply zEx;apply zEx;refine⟨fun w' hS K hK=>?_,?_,?_⟩;(focus (subst hS;go_wp2;exact hK _ _ (by simp only[zl,zG,zH];first|exact zf (by omega)|exact zg (by omega)|exact zh (by omega)|exact zi (by omega)|exact zj (by omega)|exact zk (by omega)|exact RX.bneB _|rfl) rfl));(focus (simp only[zA,zB,zC,zD];rfl))));refine hR _ _ ?_;clear hR R)
  refine RX.wpL_nil (hQR _ _ rfl ?_);clear hQR QR HO OPS
  go_wp2
  refine RY.region RX.fN (fun w'=>w'.cell? ⟨g,1,none⟩=some (.int .i64 h)∧w'.cell? ⟨w.heap.size,0,none⟩=some (.int .i64 p.f)∧w'.cell? ⟨w.heap.size,1,none⟩=some (.int .i64 p.a)∧w'.cell? ⟨w.heap.size,2,none⟩=some (.int .i64 p.b)∧w'.cell? ⟨w.heap.size,3,none⟩=some (.int .i64 p.c)) (by kernel_rfl) (by kernel_rfl) (⟨hch,q0,q1,q2,q3⟩) (fun OPS HO QR hQR=>?_)
  repeat (refine zeY (fun R hR=>?_);(first|refine zaY (by first|rfl|(rw[HO.out];rfl)) (by simp only[zA,zB,zC,zD];rfl) ?_|refine zbY (by first|rfl|(rw[HO.out];rfl)) rfl (by first|exact .inl rfl|exact .inr rfl) (by simp only[zE,zF,zG,zH];rfl) (by simp only[zA,zB,zC,zD];rfl) ?_|refine zcY (by first|rfl|(rw[HO.out];rfl)) rfl rfl (by simp only[zE,zF,zG,zH];rfl) (by simp only[zA,zB,zC,zD];rfl) ?_|(refine zdY (by first|rfl|(rw[HO.out];rfl)) rfl rfl rfl ?_;apply zEx;apply zEx;refine⟨fun w' hS K hK=>?_,?_,?_⟩;(focus (obtain⟨hS1,hS2,hS3,hS4,hS5⟩:=hS;go_wp2;exact hK _ _ (by simp only[zl,zG,zH];first|exact zf (by omega)|exact zg (by omega)|exact zh (by omega)|exact zi (by omega)|exact zj (by omega)|exact zk (by omega)|exact RX.bneB _|rfl) rfl));(focus (simp only[zA,zB,zC,zD];rfl))));refine hR _ _ ?_;clear hR R)
  refine zeY (fun R hR=>?_)
  refine zgY (by first|rfl|(rw[HO.out];rfl)) rfl (fun K hK=>?_)
  go_wp2_with fail
  refine (moved_any p 0 0 (-(h:Int)) p.a p.b (p.c-h) _ (by omega) (by omega) (by omega) (by omega) (by omega)).mono ?_
  rintro e w3 ⟨rfl,hb3⟩
  have hb3':Below w2.heap.size w2 w3:=Below_undrew (Below_undrew hb3)
  clear hb3
  have hg2:g < w2.heap.size:=zM _ _ hch
  have h3c:w3.cell? ⟨g,1,none⟩=some (.int .i64 h):=zP hb3' hch
  have q30:=zP hb3' q0
  have q31:=zP hb3' q1
  have q32:=zP hb3' q2
  have q33:=zP hb3' q3
  refine hK _ _ ⟨.inr (⟨h3c,q30,q31,q32,q33⟩),hR _ _ ?_⟩;clear hK K hR R
  repeat (refine zeY (fun R hR=>?_);(first|refine zaY (by first|rfl|(rw[HO.out];rfl)) (by simp only[zA,zB,zC,zD];rfl) ?_|refine zbY (by first|rfl|(rw[HO.out];rfl)) rfl (by first|exact .inl rfl|exact .inr rfl) (by simp only[zE,zF,zG,zH];rfl) (by simp only[zA,zB,zC,zD];rfl) ?_|refine zcY (by first|rfl|(rw[HO.out];rfl)) rfl rfl (by simp only[zE,zF,zG,zH];rfl) (by simp only[zA,zB,zC,zD];rfl) ?_|(refine zdY (by first|rfl|(rw[HO.out];rfl)) rfl rfl rfl ?_;apply zEx;apply zEx;refine⟨fun w' hS K hK=>?_,?_,?_⟩;(focus (obtain⟨hS1,hS2,hS3,hS4,hS5⟩:=hS;go_wp2;exact hK _ _ (by simp only[zl,zG,zH];first|exact zf (by omega)|exact zg (by omega)|exact zh (by omega)|exact zi (by omega)|exact zj (by omega)|exact zk (by omega)|exact RX.bneB _|rfl) rfl));(focus (simp only[zA,zB,zC,zD];rfl))));refine hR _ _ ?_;clear hR R)
  refine zeY (fun R hR=>?_)
  refine zgY (by first|rfl|(rw[HO.out];rfl)) rfl (fun K hK=>?_)
  go_wp2_with fail
  refine (downward_any g h ⟨p.f,p.a,p.b,p.c-h⟩ w3 h3c (by omega) (by simp only;omega)).mono ?_
  rintro e w4 ⟨he,hb4⟩
  dsimp only at he
  rw[show p.c-h+h=p.c by omega] at he
  subst he
  have hb4':Below w2.heap.size w2 w4:=hb3'.trans (hb4.mono hb3'.size)
  clear hb4 hb3' h3c q30 q31 q32 q33
  have h4c:w4.cell? ⟨g,1,none⟩=some (.int .i64 h):=zP hb4' hch
  have q40:=zP hb4' q0
  have q41:=zP hb4' q1
  have q42:=zP hb4' q2
  have q43:=zP hb4' q3
  have hI4:=hI2.below hb4'
  have hT4:HasTab w4:=hT2.below hb4'
  refine hK _ _ ⟨.inr (⟨h4c,q40,q41,q42,q43⟩),hR _ _ ?_⟩;clear hK K hR R
  repeat (refine zeY (fun R hR=>?_);(first|refine zaY (by first|rfl|(rw[HO.out];rfl)) (by simp only[zA,zB,zC,zD];rfl) ?_|refine zbY (by first|rfl|(rw[HO.out];rfl)) rfl (by first|exact .inl rfl|exact .inr rfl) (by simp only[zE,zF,zG,zH];rfl) (by simp only[zA,zB,zC,zD];rfl) ?_|refine zcY (by first|rfl|(rw[HO.out];rfl)) rfl rfl (by simp only[zE,zF,zG,zH];rfl) (by simp only[zA,zB,zC,zD];rfl) ?_|(refine zdY (by first|rfl|(rw[HO.out];rfl)) rfl rfl rfl ?_;apply zEx;apply zEx;refine⟨fun w' hS K hK=>?_,?_,?_⟩;(focus (obtain⟨hS1,hS2,hS3,hS4,hS5⟩:=hS;go_wp2;exact hK _ _ (by simp only[zl,zG,zH];first|exact zf (by omega)|exact zg (by omega)|exact zh (by omega)|exact zi (by omega)|exact zj (by omega)|exact zk (by omega)|exact RX.bneB _|rfl) rfl));(focus (simp only[zA,zB,zC,zD];rfl))));refine hR _ _ ?_;clear hR R)
  refine zeY (fun R hR=>?_)
  refine zgY (by first|rfl|(rw[HO.out];rfl)) rfl (fun K hK=>?_)
  go_wp2_with fail
  refine (cell_any g n base L (C ++ [tri L ⟨p.f,p.a+h,p.b,p.c⟩ ⟨p.f,p.a,p.b+h,p.c⟩ ⟨p.f,p.a,p.b,p.c+h⟩]) ⟨p.f,p.a,p.b+h,p.c⟩ ⟨p.f,p.a+h,p.b,p.c⟩ ⟨p.f,p.a+h,p.b+h,p.c-h⟩ w4 hT4 hI4 ⟨hf,?_⟩ ⟨hf,?_⟩ ⟨hf,?_⟩ (by simp;omega)).mono ?_
  ·show p.a+(p.b+h)+(p.c)=840;omega
  ·show p.a+h+p.b+(p.c)=840;omega
  ·show p.a+h+(p.b+h)+(p.c-h)=840;omega
  rintro e w5 ⟨rfl,hI5,hB5,_⟩
  have hBf:Below (g-1) w w5:=(hBw.trans (hb4'.mono (by omega))).trans hB5
  have HF:Hid (CellInv w5 g n base L (C ++ cellsAt L h p)):=zN (by
   rw[cellsAt,if_pos hc]
   rw[List.append_assoc] at hI5
   exact hI5)
  clear hI5 hI4 hB5 hb4' hI2
  refine hK _ _ ⟨(by first|exact .inl rfl|exact .inl trivial|trivial),hR _ _ ?_⟩;clear hK K hR R
  refine RY.wpL_nil (hQR _ _ ?_);clear hQR QR HO OPS
  go_wp2
  go_end0
  exact⟨rfl,HF.out,hBf⟩
 ·have HF:Hid (CellInv w2 g n base L (C ++ cellsAt L h p)):=zN (by
   rw[cellsAt,if_neg hc]
   exact hI2)
  clear hI2
  go_wp2
  refine RX.region RX.fN (fun w'=>w'=_) (by kernel_rfl) (by kernel_rfl) rfl (fun OPS HO QR hQR=>?_)
  repeat (refine zeX (fun R hR=>?_);(first|refine zaX (by first|rfl|(rw[HO.out];rfl)) (by simp only[zA,zB,zC,zD];rfl) ?_|refine zbX (by first|rfl|(rw[HO.out];rfl)) rfl (by first|exact .inl rfl|exact .inr rfl) (by simp only[zE,zF,zG,zH];rfl) (by simp only[zA,zB,zC,zD];rfl) ?_|refine zcX (by first|rfl|(rw[HO.out];rfl)) rfl rfl (by simp only[zE,zF,zG,zH];rfl) (by simp only[zA,zB,zC,zD];rfl) ?_|(refine zdX (by first|rfl|(rw[HO.out];rfl)) rfl rfl rfl ?_;apply zEx;apply zEx;refine⟨fun w' hS K hK=>?_,?_,?_⟩;(focus (subst hS;go_wp2;exact hK _ _ (by simp only[zl,zG,zH];first|exact zf (by omega)|exact zg (by omega)|exact zh (by omega)|exact zi (by omega)|exact zj (by omega)|exact zk (by omega)|exact RX.bneB _|rfl) rfl));(focus (simp only[zA,zB,zC,zD];rfl))));refine hR _ _ ?_;clear hR R)
  refine RX.wpL_nil (hQR _ _ rfl ?_);clear hQR QR HO OPS
  go_wp2
  go_end0
  exact⟨rfl,HF.out.below (zBr _ _).drew,hBw.drew⟩
end Go.Proofs.YtednaajanciabaaGreatDoor
