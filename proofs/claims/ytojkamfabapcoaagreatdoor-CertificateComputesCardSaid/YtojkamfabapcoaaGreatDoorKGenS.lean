import Derived.Test.YtojkamfabapcoaaGreatDoorKCodes
import Derived.Test.YtojkamfabapcoaaGreatDoorKPlace
import Derived.Test.YtojkamfabapcoaaGreatDoorKRefB
import Derived.Test.YtojkamfabapcoaaGreatDoorKTerms
import Derived.Test.YtojkamfabapcoaaGreatDoorKCopy
import Derived.Test.YtojkamfabapcoaaGreatDoorKCSys
set_option maxRecDepth 100000
set_option maxHeartbeats 8000000
set_option linter.unusedSimpArgs false
set_option linter.unusedVariables false
namespace Go.Proofs.YtojkamfabapcoaaGreatDoor
open Go.RowKit Go.Grid
def clipI (x lo hi:Int):Int:=max lo (min x hi)
theorem clip_any (x lo hi:Int) (w:World):Calls Tryz.prog 62 #[.int .i64 x,.int .i64 lo,.int .i64 hi] w fun e w'=>e=.returned (.int .i64 (clipI x lo hi))∧w=w':=by
 go_enter Tryz.func62,Tryz.ntmps62
 go_wp2
 go_ret
 exact⟨rfl,rfl⟩
def VsAt (w:World) (R:Nat) (vs:List Value):Prop:=∀ k (h:k < vs.length),w.cell? ⟨R,k,none⟩=some vs[k]∧w.frozen? ⟨R,k,none⟩=false
theorem VsAt.grown {w w':World} {R:Nat} {vs:List Value} {row:Option Nat} (h:VsAt w R vs) (hg:w.grownBy w' row) (hne:some R≠row):VsAt w' R vs:=fun k hk=>by
 obtain⟨h1,h2⟩:=h k hk
 have hb:=hg.block R (zM _ _ h1) hne
 exact⟨(World.cell?_of_block hb).trans h1,(zFb hb).trans h2⟩
theorem CodesAt.set1 {w:World} {g b:Nat} {L:List Int} {i R:Nat} (h:CodesAt w g b L i) (h1:g≠R) (h2:0 < L.length→b≠R) (k:Nat) (v:Value):CodesAt (w.setCell ⟨R,k,none⟩ v) g b L i:=h.grown' (grownBy_setCell w R k v) h1 h2
theorem cplace_any (w:World) (g b:Nat) (L:List Int) (i:Nat) (h:CodesAt w g b L i) :
  Calls Tryz.prog 100 #[.pointer (some ⟨g,0,none⟩)] w fun e w'=>∃ p:Pl,e=.returned (pv p)∧p.Ok∧w.grownBy w' (some g)∧∃ j,CodesAt w' g b L j:=by
 have hg:=h.lt
 have hgn:g≠w.heap.size:=by omega
 have hbn:0 < L.length→b≠w.heap.size:=fun h0=>by have:=h.ltb h0;omega
 go_enter Tryz.func100,Tryz.ntmps100
 go_wp2_with fail
 refine (next_any _ g b L i 121 (h.below (by repeat (first|(with_reducible first|assumption|exact zBr _ _|refine zBs ?_ (by first|omega|simp<;>omega) _|refine zBa ?_ (by first|omega|simp<;>omega) _|apply zBd)|assumption))) (by omega)).mono ?_
 rintro e w1 ⟨r1,rfl,hr1,hg1,i1,h1⟩
 have e0:Hid (w.grownBy w1 (some g)):=zN ((grw_below (show Below w.heap.size w _ from (by repeat (first|(with_reducible first|assumption|exact zBr _ _|refine zBs ?_ (by first|omega|simp<;>omega) _|refine zBa ?_ (by first|omega|simp<;>omega) _|apply zBd)|assumption))) _).trans hg1)
 have hs1:w.heap.size < w1.heap.size:=by have:=hg1.size;simp at this;omega
 have hrb:r1 < 121:=by omega
 have hq:(840-7*(r1:Int)).tdiv 7=120-r1:=by rw[Int.tdiv_eq_ediv_of_nonneg (by omega)];omega
 have v1:VsAt w1 w.heap.size [.int .i64 0,.int .i64 0,.int .i64 0,.int .i64 0]:=by
  refine VsAt.grown (row:=some g) (w:=w.alloc (.cells #[.int .i64 0,.int .i64 0,.int .i64 0,.int .i64 0] 122)) (fun k hk=>?_) hg1 (by simp;omega)
  match k,hk with
  |0,_=>exact⟨(by simp[zO,zJ,zQ]),by simp⟩
  |1,_=>exact⟨(by simp[zO,zJ,zQ]),by simp⟩
  |2,_=>exact⟨(by simp[zO,zJ,zQ]),by simp⟩
  |3,_=>exact⟨(by simp[zO,zJ,zQ]),by simp⟩
  |k+4,hk=>simp at hk;omega
 have hgR:some w.heap.size≠some g:=by simp;omega
 clear hg1
 go_wp2_with fail
 refine (next_any _ g b L i1 _ h1 (by omega)).mono ?_
 rintro e w2 ⟨r2,rfl,hr2,hg2,i2,h2⟩
 have hr2b:(r2:Int)≤120-r1:=by omega
 replace v1:=v1.grown hg2 hgR
 replace e0:=zN (e0.out.trans hg2)
 clear hg2 hr1 hr2 hq
 go_wp2_with fail
 refine (next_any _ g b L i2 20 h2 (by omega)).mono ?_
 rintro e w3 ⟨r3,rfl,hr3,hg3,i3,h3⟩
 replace v1:=v1.grown hg3 hgR
 replace e0:=zN (e0.out.trans hg3)
 have hr3b:r3 < 20:=by omega
 obtain⟨c0,f0⟩:=v1 0 (by simp)
 obtain⟨c1,f1⟩:=v1 1 (by simp)
 obtain⟨c2,f2⟩:=v1 2 (by simp)
 obtain⟨c3,f3⟩:=v1 3 (by simp)
 simp only[List.getElem_cons_zero,List.getElem_cons_succ] at c0 c1 c2 c3
 have HC:=zN h3
 have HP:Hid (pv ⟨r3,7*r1,7*r2,840-7*r1-7*r2⟩=.agg #[.int .i64 r3,.int .i64 (7*r1),.int .i64 (7*r2),.int .i64 (840-7*r1-7*r2)]):=zN (by unfold pv;simp;omega)
 clear hg3 hr3 v1 h1 h2 h3 h
 go_wp2
 refine bodyPost_ret (v:=.agg #[.int .i64 r3,.int .i64 (7*r1),.int .i64 (7*r2),.int .i64 (840-7*r1-7*r2)]) ?_ rfl ⟨⟨r3,7*r1,7*r2,840-7*r1-7*r2⟩,by rw[HP.out],⟨hr3b,by show 7*r1+7*r2+(840-7*r1-7*r2)=840;omega⟩,?_,i3,?_⟩
 ·simp[results,Tryz.results100,go_sem,c0,c1,c2,c3]
 ·exact grw_set (grw_set (grw_set (grw_set e0.out (.inr (Nat.le_refl _))) (.inr (Nat.le_refl _))) (.inr (Nat.le_refl _))) (.inr (Nat.le_refl _))
 ·exact (((HC.out.set1 hgn hbn _ _).set1 hgn hbn _ _).set1 hgn hbn _ _).set1 hgn hbn _ _
def RowG (n:Int) (r:Rw):Prop:=AscA r.sh∧(∀ c∈r.sh,ShOk n c)∧sumI r.sh=840∧(1≤r.weight∧r.weight≤100)∧(0≤r.value∧r.value≤19000)∧(0≤r.report∧r.report < 20)
def ShOwn (w:World) (base:Nat) (q:Option Addr) (S:List (Int × Int)):Prop:=∃ b,(0 < S.length→q=some ⟨b,0,none⟩∧base≤b∧b < w.heap.size)∧∀ k (h:k < S.length),w.cell? ⟨b,k*2,none⟩=some (.int .i64 S[k].1)∧w.cell? ⟨b,k*2+1,none⟩=some (.int .i64 S[k].2)
theorem ShOwn.shin {w:World} {base:Nat} {q:Option Addr} {S:List (Int × Int)} (h:ShOwn w base q S):ShIn w q S:=by
 obtain⟨b,h1,h2⟩:=h
 exact⟨b,0,fun h0=>(h1 h0).1,fun k hk=>by rw[Nat.zero_add];exact h2 k hk⟩
theorem ShOwn.grown {w w':World} {base:Nat} {q:Option Addr} {S:List (Int × Int)} {row:Option Nat} (h:ShOwn w base q S) (hg:w.grownBy w' row) (hr:∀ k,row=some k→k < base):ShOwn w' base q S:=by
 obtain⟨b,h1,h2⟩:=h
 refine⟨b,fun h0=>⟨(h1 h0).1,(h1 h0).2.1,Nat.lt_of_lt_of_le (h1 h0).2.2 hg.size⟩,fun k hk=>?_⟩
 have hb:=(h1 (by omega)).2.1
 have hne:some b≠row:=fun e=>by have:=hr b e.symm;omega
 exact⟨hg.cell (h2 k hk).1 hne,hg.cell (h2 k hk).2 hne⟩
theorem ShOwn.mono {w:World} {base base':Nat} {q:Option Addr} {S:List (Int × Int)} (h:ShOwn w base q S) (hb:base'≤base):ShOwn w base' q S:=by
 obtain⟨b,h1,h2⟩:=h
 exact⟨b,fun h0=>⟨(h1 h0).1,Nat.le_trans hb (h1 h0).2.1,(h1 h0).2.2⟩,h2⟩
theorem ShOwn.set1 {w:World} {base R:Nat} {q:Option Addr} {S:List (Int × Int)} (h:ShOwn w base q S) (h1:R < base) (k:Nat) (v:Value):ShOwn (w.setCell ⟨R,k,none⟩ v) base q S:=h.grown (grownBy_setCell w R k v) (fun k hk=>by injection hk with hk;omega)
def shI (T:List (Nat × Nat)):List (Int × Int):=T.map (fun c=>((c.1:Int),(c.2:Int)))
theorem shI_len (T:List (Nat × Nat)):(shI T).length=T.length:=by simp[shI]
theorem shI_sum (T:List (Nat × Nat)):sumI (shI T)=(wsum T:Int):=by
 induction T with
 |nil=>simp[shI,sumI,wsum]
 |cons c T ih=>
  simp only[shI,sumI,wsum,List.map_cons,List.sum_cons] at ih ⊢
  omega
theorem wsumR_eq:∀ S:List (Nat × Nat),wsum S=(S.map (fun c=>c.2)).sum
 |[]=>rfl
 |c :: S=>by rw[show wsum (c :: S)=c.2+wsum S from rfl,wsumR_eq S];simp
theorem wsumR_perm {S T:List (Nat × Nat)} (h:S.Perm T):wsum S=wsum T:=by rw[wsumR_eq,wsumR_eq];exact (h.map _).sum_nat
theorem loc_row {n:Nat} {p:Pl} {T:List (Nat × Nat)} (h1:1≤n) (h8:n≤8) (hp:p.Ok) (h:IsLoc n p T):AscA (shI T)∧(∀ c∈shI T,ShOk (10*n*n+2) c)∧sumI (shI T)=840:=by
 have hn:=hh_mul h1 h8
 refine⟨fun i hi=>?_,fun c hc=>?_,?_⟩
 ·rw[shI_len] at hi
  have:=List.pairwise_iff_getElem.1 h.2 i (i+1) (by omega) hi (by omega)
  simp only[shI,List.getElem_map];omega
 ·obtain⟨d,hd,rfl⟩:=List.mem_map.1 hc
  have h2:=loc_nodes h1 hn hp d (h.1.mem_iff.1 hd)
  have h3:((nodesL n).length:Int)=10*n*n+2:=by rw[nodes_len h1 h8];push_cast;rfl
  refine⟨⟨by show (0:Int)≤(d.1:Int);omega,by show (d.1:Int) < _;rw[←h3];omega⟩,by show (1:Int)≤(d.2:Int);omega,by show (d.2:Int)≤840;omega⟩
 ·rw[shI_sum]
  have:=loc_sum h1 hn hp
  rw[show wsum T=wsum (locRaw n p) from wsumR_perm h.1,this];rfl
theorem crowg_any (w:World) (g b:Nat) (L:List Int) (i:Nat) (n:Nat) (value:Int) (h:CodesAt w g b L i) (h1:1≤n) (h8:n≤8) (hv:0≤value∧value≤20000) :
  Calls Tryz.prog 61 #[.pointer (some ⟨g,0,none⟩),.int .i64 n,.int .i64 value] w fun e w'=>∃ r q cap,e=.returned (rwv r q cap)∧RowG (10*n*n+2) r∧r.sh.length≤cap∧ShOwn w' w.heap.size q r.sh∧w.grownBy w' (some g)∧∃ j,CodesAt w' g b L j:=by
 have hg:=h.lt
 have hgn:g≠w.heap.size:=by omega
 have hbn:0 < L.length→b≠w.heap.size:=fun h0=>by have:=h.ltb h0;omega
 have hgR:some w.heap.size≠some g:=by simp;omega
 go_enter Tryz.func61,Tryz.ntmps61
 go_wp2_with fail
 refine (cplace_any _ g b L i (h.below (by repeat (first|(with_reducible first|assumption|exact zBr _ _|refine zBs ?_ (by first|omega|simp<;>omega) _|refine zBa ?_ (by first|omega|simp<;>omega) _|apply zBd)|assumption)))).mono ?_
 rintro e w1 ⟨p,rfl,hp,hg1,i1,c1⟩
 have e0:Hid (w.grownBy w1 (some g)):=zN ((grw_below (show Below w.heap.size w _ from (by repeat (first|(with_reducible first|assumption|exact zBr _ _|refine zBs ?_ (by first|omega|simp<;>omega) _|refine zBa ?_ (by first|omega|simp<;>omega) _|apply zBd)|assumption))) _).trans hg1)
 have hs1:w.heap.size < w1.heap.size:=by have:=hg1.size;simp at this;omega
 have v1:VsAt w1 w.heap.size [.slice none 0 0,.int .i64 0,.int .i64 0,.int .i64 0]:=by
  refine VsAt.grown (row:=some g) (w:=w.alloc (.cells #[.slice none 0 0,.int .i64 0,.int .i64 0,.int .i64 0] 45)) (fun k hk=>?_) hg1 (by simp;omega)
  match k,hk with
  |0,_=>exact⟨(by simp[zO,zJ,zQ]),by simp⟩
  |1,_=>exact⟨(by simp[zO,zJ,zQ]),by simp⟩
  |2,_=>exact⟨(by simp[zO,zJ,zQ]),by simp⟩
  |3,_=>exact⟨(by simp[zO,zJ,zQ]),by simp⟩
  |k+4,hk=>simp at hk;omega
 clear hg1
 have hpv:Hid (pv p=.agg #[.int .i64 p.f,.int .i64 p.a,.int .i64 p.b,.int .i64 p.c]):=zN rfl
 go_wp2_with fail
 refine (rlocate_any n h1 h8 p hp _).mono ?_
 rintro e w2 ⟨v,T,rfl,hT,hL,hb2⟩
 have hloc:=zN (loc_row h1 h8 hp hL)
 have hg2:=grw_below hb2 (some g)
 replace v1:=v1.grown hg2 hgR
 replace e0:=zN (e0.out.trans hg2)
 have c2:=c1.below hb2
 obtain⟨q,cap,bS,rfl,hcap,hpS,hS,_⟩:=hT.form
 have hsh:ShOwn w2 (w.heap.size+1) q (shI T):=⟨bS,fun h0=>by rw[shI_len] at h0;obtain⟨a1,a2,a3⟩:=hpS h0;exact⟨a1,by omega,a3⟩,fun k hk=>by
  rw[shI_len] at hk
  have:=hS k hk
  simp only[shI,List.getElem_map];exact this⟩
 have hTl:=shI_len T
 have hs2:w.heap.size < w2.heap.size:=Nat.lt_of_lt_of_le hs1 hb2.size
 obtain⟨sh,hshe⟩:∃ sh,sh=shI T:=⟨_,rfl⟩
 rw[←hshe] at hsh hTl hloc
 rw[←hTl] at hcap ⊢
 clear hshe hTl hb2 hg2 hT hL hpS hS c1 h hp hs1
 go_wp2_with fail
 refine (signed_any _ g b L i1 90 c2 (by omega)).mono ?_
 rintro e w3 ⟨x,rfl,hx1,hx2,hg3,i3,c3⟩
 replace v1:=v1.grown hg3 hgR
 replace e0:=zN (e0.out.trans hg3)
 replace hsh:=hsh.grown hg3 (fun k hk=>by injection hk with hk;omega)
 clear hg3 c2 hs2
 go_wp2_with fail
 refine (clip_any _ _ _ _).mono ?_
 rintro e w3' ⟨rfl,rfl⟩
 have hcl:0≤clipI (value+x) 0 19000∧clipI (value+x) 0 19000≤19000:=by unfold clipI;omega
 obtain⟨vv,hvv⟩:∃ vv,vv=clipI (value+x) 0 19000:=⟨_,rfl⟩
 rw[←hvv] at hcl ⊢
 clear hvv hx1 hx2
 go_wp2_with fail
 refine (next_any _ g b L i3 100 c3 (by omega)).mono ?_
 rintro e w4 ⟨r4,rfl,hr4,hg4,i4,c4⟩
 replace v1:=v1.grown hg4 hgR
 replace e0:=zN (e0.out.trans hg4)
 replace hsh:=hsh.grown hg4 (fun k hk=>by injection hk with hk;omega)
 have hr4b:r4 < 100:=by omega
 clear hg4 c3 hr4
 go_wp2_with fail
 refine (next_any _ g b L i4 20 c4 (by omega)).mono ?_
 rintro e w5 ⟨r5,rfl,hr5,hg5,i5,c5⟩
 replace v1:=v1.grown hg5 hgR
 replace e0:=zN (e0.out.trans hg5)
 replace hsh:=hsh.grown hg5 (fun k hk=>by injection hk with hk;omega)
 have hr5b:r5 < 20:=by omega
 clear hg5 c4 hr5
 obtain⟨d0,f0⟩:=v1 0 (by simp)
 obtain⟨d1,f1⟩:=v1 1 (by simp)
 obtain⟨d2,f2⟩:=v1 2 (by simp)
 obtain⟨d3,f3⟩:=v1 3 (by simp)
 simp only[List.getElem_cons_zero,List.getElem_cons_succ] at d0 d1 d2 d3
 have HC:=zN c5
 have HSH:=zN hsh
 clear v1 c5 hsh
 go_wp2
 refine bodyPost_ret (v:=.agg #[.slice q sh.length cap,.int .i64 vv,.int .i64 (1+r4),.int .i64 r5]) ?_ rfl ⟨⟨sh,vv,1+r4,r5⟩,q,cap,rfl,⟨hloc.out.1,hloc.out.2.1,hloc.out.2.2,⟨by show (1:Int)≤1+r4;omega,by show (1:Int)+r4≤100;omega⟩,⟨by show 0≤vv;omega,by show vv≤19000;omega⟩,⟨by show (0:Int)≤r5;omega,by show (r5:Int) < 20;omega⟩⟩,hcap,?_,?_,i5,?_⟩
 ·simp[results,Tryz.results61,go_sem,d0,d1,d2,d3]
 ·exact ((((HSH.out.set1 (Nat.lt_succ_self _) _ _).set1 (Nat.lt_succ_self _) _ _).set1 (Nat.lt_succ_self _) _ _).set1 (Nat.lt_succ_self _) _ _).mono (Nat.le_succ _)
 ·exact grw_set (grw_set (grw_set (grw_set e0.out (.inr (Nat.le_refl _))) (.inr (Nat.le_refl _))) (.inr (Nat.le_refl _))) (.inr (Nat.le_refl _))
 ·exact (((HC.out.set1 hgn hbn _ _).set1 hgn hbn _ _).set1 hgn hbn _ _).set1 hgn hbn _ _
abbrev RwX:=Rw × Option Addr × Nat
def encR (x:RwX):List Value:=[.slice x.2.1 x.1.sh.length x.2.2,.int .i64 x.1.value,.int .i64 x.1.weight,.int .i64 x.1.report]
theorem elRow:RX.ElemOf Tryz.prog 24 45 (.agg #[.slice none 0 0,.int .i64 0,.int .i64 0,.int .i64 0]) 4 48:=⟨Tryz.underlying24,by kernel_rfl,rfl,by decide⟩
def RoV (w:World) (base:Nat) (v:Value) (X:List RwX):Prop:=w.ownsRow base 45 4 v X.length (X.flatMap encR)
theorem RoV.nil (w:World) (base:Nat):RoV w base (.slice none 0 0) []:=World.ownsRow_nil _ _ _ _
theorem RoV.snoc {w:World} {base:Nat} {v:Value} {X:List RwX} {x:RwX} (h:w.ownsRow base 45 4 v (X.length+1) (X.flatMap encR ++ encR x)):RoV w base v (X ++ [x]):=by
 unfold RoV;rw[List.flatMap_append,List.length_append];simpa using h
theorem RoV.kept {w w':World} {base:Nat} {v:Value} {X:List RwX} {row:Option Nat} (h:RoV w base v X) (hg:w.grownBy w' row) (hr:∀ k,row=some k→k < base):RoV w' base v X:=
 World.ownsRow.kept h hg (by
  cases e:v.ownBlock with
  |none=>exact .inl rfl
  |some k=>refine .inr fun hh=>?_;have h1:=(World.ownsRow.lt h k e).1;have h2:=hr k hh.symm;omega)
theorem RoV.mono {w:World} {base base':Nat} {v:Value} {X:List RwX} (h:RoV w base v X) (hb:base'≤base):RoV w base' v X:=own_mono h hb
theorem encR_get:∀ (C:List RwX) (m:Nat) (h:m < C.length) (j:Nat),j < 4→(C.flatMap encR)[m*4+j]?=(encR C[m])[j]?
 |p :: L,0,h,j,hj=>by
  simp only[List.flatMap_cons,Nat.zero_mul,Nat.zero_add]
  rw[List.getElem?_append_left (by simp[encR];omega)];rfl
 |p :: L,m+1,h,j,hj=>by
  have ih:=encR_get L m (by simpa using h) j hj
  simp only[List.flatMap_cons]
  rw[List.getElem?_append_right (by simp[encR];omega),show (m+1)*4+j-(encR p).length=m*4+j by simp[encR];omega,ih];rfl
def RosAt (w:World) (b:Nat) (C:List RwX):Prop:=∀ k (h:k < C.length) (j:Nat),j < 4→w.cell? ⟨b,k*4+j,none⟩=(encR C[k])[j]?
theorem RoV.form {w:World} {base:Nat} {v:Value} {C:List RwX} (h:RoV w base v C):∃ p cap b,v=.slice p C.length cap∧C.length≤cap∧(0 < C.length→p=some ⟨b,0,none⟩∧base≤b∧b < w.heap.size)∧RosAt w b C:=by
 rcases Nat.eq_zero_or_pos C.length with h0|h0
 ·obtain⟨p,cap,rfl,hc⟩:=own_slice h
  exact⟨p,cap,0,rfl,hc,fun hh=>by omega,fun j hj=>by omega⟩
 ·obtain⟨g,cap,cur,rfl,hc,hb,hg⟩:=own_some h h0
  refine⟨_,cap,g,rfl,hc,fun _=>⟨rfl,hb,(World.ownsRow.lt h g rfl).2⟩,fun k hk j hj=>?_⟩
  rw[World.ownsRow.cellAt h (k*4+j) (by omega),←encR_get C k hk j hj]
def GenR (n:Int) (w:World) (base:Nat) (x:RwX):Prop:=RowG n x.1∧x.1.sh.length≤x.2.2∧ShOwn w base x.2.1 x.1.sh
theorem GenR.grown {n:Int} {w w':World} {base:Nat} {x:RwX} {row:Option Nat} (h:GenR n w base x) (hg:w.grownBy w' row) (hr:∀ k,row=some k→k < base):GenR n w' base x:=⟨h.1,h.2.1,h.2.2.grown hg hr⟩
theorem ShOwn.grown2 {w w':World} {base:Nat} {q:Option Addr} {S:List (Int × Int)} {row:Option Nat} (h:ShOwn w base q S) (hg:w.grownBy w' row) (hr:∀ k,row=some k→k < base∨∃ q n c,w.cell? ⟨k,0,none⟩=some (.slice q n c)):ShOwn w' base q S:=by
 obtain⟨b,h1,h2⟩:=h
 refine⟨b,fun h0=>⟨(h1 h0).1,(h1 h0).2.1,Nat.lt_of_lt_of_le (h1 h0).2.2 hg.size⟩,fun k hk=>?_⟩
 have hb:=(h1 (by omega)).2.1
 have hne:some b≠row:=fun e=>by
  rcases hr b e.symm with h3|⟨q,n,c,h3⟩
  ·omega
  ·have h4:=(h2 0 (by omega)).1
   rw[Nat.zero_mul] at h4
   rw[h3] at h4;cases h4
 exact⟨hg.cell (h2 k hk).1 hne,hg.cell (h2 k hk).2 hne⟩
theorem GenR.grown2 {n:Int} {w w':World} {base:Nat} {x:RwX} {row:Option Nat} (h:GenR n w base x) (hg:w.grownBy w' row) (hr:∀ k,row=some k→k < base∨∃ q n c,w.cell? ⟨k,0,none⟩=some (.slice q n c)):GenR n w' base x:=⟨h.1,h.2.1,h.2.2.grown2 hg hr⟩
theorem GenR.mono {n:Int} {w:World} {base base':Nat} {x:RwX} (h:GenR n w base x) (hb:base'≤base):GenR n w base' x:=⟨h.1,h.2.1,h.2.2.mono hb⟩
theorem own_head {w:World} {base:Nat} {v:Value} {X:List RwX} (h:w.ownsRow base 45 4 v X.length (X.flatMap encR)) (h0:0 < X.length) {k:Nat} (hk:v.ownBlock=some k):∃ q n c,w.cell? ⟨k,0,none⟩=some (.slice q n c):=by
 obtain⟨g,cap,cur,rfl,_⟩:=own_some h h0
 have e:k=g:=by simpa[Value.ownBlock] using hk.symm
 subst e
 have h1:=World.ownsRow.cellAt h 0 (by omega)
 have h2:=encR_get X 0 h0 0 (by omega)
 rw[Nat.zero_mul,Nat.zero_add] at h2
 rw[h1,h2]
 exact⟨_,_,_,rfl⟩
def clipTo (v:Int) (zs:List Int) (k:Nat):List Int:=(zs.take k).map (fun y=>clipI (v*256+y) 0 4194304) ++ zs.drop k
theorem clipTo_len (v:Int) (zs:List Int) (k:Nat):(clipTo v zs k).length=zs.length:=by simp[clipTo];omega
theorem clipTo_get {v:Int} {zs:List Int} {k:Nat} (hk:k < zs.length):(clipTo v zs k)[k]'(by rw[clipTo_len];exact hk)=zs[k]:=by
 unfold clipTo
 rw[List.getElem_append_right (by simp;omega)]
 have e:((zs.take k).map (fun y=>clipI (v*256+y) 0 4194304)).length=k:=by simp;omega
 simp only[e,Nat.sub_self,List.getElem_drop,Nat.add_zero]
theorem clipTo_succ {v:Int} {zs:List Int} {k:Nat} (hk:k < zs.length):clipTo v zs (k+1)=(clipTo v zs k).set k (clipI (v*256+zs[k]) 0 4194304):=by
 unfold clipTo
 have e:((zs.take k).map (fun y=>clipI (v*256+y) 0 4194304)).length=k:=by simp;omega
 rw[List.set_append_right _ _ (by omega),e,Nat.sub_self,List.take_succ_eq_append_getElem hk,List.map_append,List.append_assoc]
 congr 1
 rw[show zs.drop k=zs[k] :: zs.drop (k+1) from (List.drop_eq_getElem_cons hk),List.set_cons_zero]
 rfl
theorem clipTo_bd {v:Int} {zs:List Int}:∀ y∈clipTo v zs zs.length,0≤y∧y≤4194304:=by
 intro y hy
 unfold clipTo at hy
 rw[List.drop_length,List.append_nil] at hy
 obtain⟨x,_,rfl⟩:=List.mem_map.1 hy
 unfold clipI;omega
theorem crows_any (w:World) (g b:Nat) (L:List Int) (i:Nat) (n:Nat) (most:Nat) (h:CodesAt w g b L i) (h1:1≤n) (h8:n≤8) (hm:most≤100) :
  Calls Tryz.prog 15 #[.pointer (some ⟨g,0,none⟩),.int .i64 n,.int .i64 most] w fun e w'=>∃ v X bb cap zs,e=.returned (.tuple #[v,.slice (some ⟨bb,0,none⟩) zs.length cap])∧X.length≤most∧RoV w' w.heap.size v X∧(∀ x∈X,GenR (10*n*n+2) w' w.heap.size x)∧(zs.length:Int)=10*n*n+2∧zs.length≤cap∧w.heap.size≤bb∧IntsAt w' bb 0 zs∧(∀ y∈zs,0≤y∧y≤4194304)∧w.grownBy w' (some g)∧∃ j,CodesAt w' g b L j:=by
 have hg:=h.lt
 have hb0:0 < L.length→b < w.heap.size:=fun h0=>h.ltb h0
 go_enter Tryz.func15,Tryz.ntmps15
 go_wp2_with fail
 have hB:Below w.heap.size w (w.alloc (.cells #[.int .i64 10000,.int .i64 9800,.int .i64 0,.int .i64 16000] 3)):=(by repeat (first|(with_reducible first|assumption|exact zBr _ _|refine zBs ?_ (by first|omega|simp<;>omega) _|refine zBa ?_ (by first|omega|simp<;>omega) _|apply zBd)|assumption))
 have c:∀ k,k < 4→∃ m:Nat,(w.alloc (.cells #[.int .i64 10000,.int .i64 9800,.int .i64 0,.int .i64 16000] 3)).cell? ⟨w.heap.size,k,none⟩=some (.int .i64 m)∧m≤16000:=by
  intro k hk
  match k,hk with
  |0,_=>exact⟨10000,(by simp[zO,zJ,zQ]),by omega⟩
  |1,_=>exact⟨9800,(by simp[zO,zJ,zQ]),by omega⟩
  |2,_=>exact⟨0,(by simp[zO,zJ,zQ]),by omega⟩
  |3,_=>exact⟨16000,(by simp[zO,zJ,zQ]),by omega⟩
  |k+4,hk=>omega
 have hC:=h.below hB
 have hs0:(w.alloc (.cells #[.int .i64 10000,.int .i64 9800,.int .i64 0,.int .i64 16000] 3)).heap.size=w.heap.size+1:=by simp
 generalize (w.alloc (.cells #[.int .i64 10000,.int .i64 9800,.int .i64 0,.int .i64 16000] 3))=W0 at *
 refine (next_any _ g b L i 4 hC (by omega)).mono ?_
 rintro e w1 ⟨r,rfl,hr,hg1,j,hc1⟩
 have hr4:r < 4:=by omega
 obtain⟨m,hm0,hm1⟩:=c r hr4
 have hc:=hg1.cell hm0 (by simp;omega)
 have hG:w.grownBy w1 (some g):=(grw_below hB _).trans hg1
 have hs1:w.heap.size < w1.heap.size:=by have:=hg1.size;omega
 clear c hm0 hg1 hB hC hs0 h
 clear W0
 go_wp2_with fail
 refine (next_any _ g b L j _ hc1 (by omega)).mono ?_
 rintro e w2 ⟨k0,rfl,hk0,hg2,j2,hc2⟩
 have hk0m:k0≤most:=by omega
 have hG2:=hG.trans hg2
 have hs2:w.heap.size < w2.heap.size:=by have:=hg2.size;omega
 clear hG hg2 hc1 hc hk0 hs1
 go_wp2
 go_loopw [9,10] (fun v i wr=>∃ (k:Nat) (X:List RwX),k≤k0∧i=.int .i64 k∧X.length+k=k0∧RoV wr (w.heap.size+1) v X∧Hid (∀ x∈X,GenR (10*n*n+2) wr (w.heap.size+1) x)∧w.grownBy wr (some g)∧(∃ j,CodesAt wr g b L j)∧w.heap.size < wr.heap.size) (fun v i _=>(intOf i).toNat)
 case atStart=>exact⟨k0,[],by omega,rfl,by simp,RoV.nil _ _,zN (fun x hx=>by cases hx),hG2,⟨j2,hc2⟩,hs2⟩
 case round=>
  clear hG2 hc2 hs2
  obtain⟨k,X,hk,rfl,hXl,hrow,HX,hgr,⟨j,hC⟩,hsz⟩:=hrel
  by_cases hlt:0 < k
  ·obtain⟨p9,c9,rfl,hc9⟩:=own_slice hrow
   go_wp2_with fail
   refine (crowg_any _ g b L j n m hC h1 h8 (by omega)).mono ?_
   rintro e w3 ⟨r,q,cap,rfl,hRG,hcap,hSO,hg3,j3,hC3⟩
   have hrw:Hid (rwv r q cap=.agg #[.slice q r.sh.length cap,.int .i64 r.value,.int .i64 r.weight,.int .i64 r.report]):=zN rfl
   rw[hrw.out]
   have hrow1:=hrow.kept hg3 (fun k hk=>by injection hk with hk;omega)
   have hgr1:=hgr.trans hg3
   have hs3:w.heap.size+1≤w3.heap.size:=by have:=hg3.size;omega
   have hwr:w.heap.size+1≤wr.heap.size:=by omega
   have HNEW:Hid (GenR (10*n*n+2) w3 wr.heap.size (r,q,cap)):=zN ⟨hRG,hcap,hSO⟩
   have HOLD:Hid (∀ x∈X,GenR (10*n*n+2) w3 (w.heap.size+1) x):=zN (fun x hx=>(HX.out x hx).grown hg3 (fun k hk=>by injection hk with hk;omega))
   have HUP:Hid (∀ k,(Value.slice p9 X.length c9).ownBlock=some k→k < wr.heap.size):=zN (fun k hk=>(World.ownsRow.lt hrow k hk).2)
   have hown:=World.ownsRow.alloc hrow1 (.cells #[.slice q r.sh.length cap,.int .i64 r.value,.int .i64 r.weight,.int .i64 r.report] 45)
   have HC1:=zN hC3
   have HG1:=zN hgr1
   have hbA:0 < L.length→b < w.heap.size:=hb0
   clear hC hgr hrow hg3 hC3 hgr1 hrow1 HX hRG hcap hSO hrw
   go_wp2_with (refine RX.wpl_app2 (by rfl) elRow _ _ (by rfl) (w.heap.size+1) _ _ _ hown (by rfl) w3.heap.size _ 1 (by rfl) (heap_alloc_new _ _) (by rfl) (by simp[Value.oneCell']) (by omega) (by omega) (by simp;omega) ?_;intro v' w4 hown2 hb2 hg2 hat2)
   have hlow:∀ q,(Value.slice p9 X.length c9).ownBlock=some q→w.heap.size+1≤q:=fun q hq=>(World.ownsRow.lt hown q hq).1
   have HC2:Hid (CodesAt w4 g b L j3):=zN ((HC1.out.below ((zBr _ _).alloc (Nat.le_refl _) _)).own hg2 (fun q hq=>⟨by have:=hlow q hq;omega,fun h0=>by have:=hlow q hq;have:=hbA h0;omega⟩))
   have HG2:Hid (w.grownBy w4 (some g)):=zN (grw_own (grw_alloc HG1.out _) hg2 (fun q hq=>by have:=hlow q hq;omega))
   have HR2:Hid (RoV w4 (w.heap.size+1) v' (X ++ [(r,q,cap)])):=zN (RoV.snoc hown2)
   have HX2:Hid (∀ x∈X ++ [(r,q,cap)],GenR (10*n*n+2) w4 (w.heap.size+1) x):=zN (fun x hx=>by
    have hal:=World.grownBy_alloc w3 (.cells #[.slice q r.sh.length cap,.int .i64 r.value,.int .i64 r.weight,.int .i64 r.report] 45) none
    rcases List.mem_append.1 hx with hx|hx
    ·exact ((HOLD.out x hx).grown hal (fun k hk=>by cases hk)).grown2 hg2 (fun k hk=>.inr (own_head hown (List.length_pos_of_mem hx) hk))
    ·simp only[List.mem_cons,List.not_mem_nil,or_false] at hx;subst hx
     exact ((HNEW.out.grown hal (fun k hk=>by cases hk)).grown2 hg2 (fun k hk=>.inl (HUP.out k hk))).mono hwr)
   have hs4:w.heap.size < w4.heap.size:=by have:=hg2.size;simp at this;omega
   go_roundw
   case rel=>exact⟨k-1,X ++ [(r,q,cap)],by omega,by congr 1;omega,by simp;omega,HR2.out,HX2,HG2.out,⟨j3,HC2.out⟩,hs4⟩
   case measure=>simp[intOf];omega
  ·have hk0:k=0:=by omega
   subst hk0
   have b1:0≤10*(n:Int)*n:=Int.mul_nonneg (by omega) (by omega)
   have b2:=Int.mul_le_mul (show 10*(n:Int)≤80 by omega) (show (n:Int)≤8 by omega) (by omega) (by omega)
   have b3:=Int.mul_le_mul (show 10≤10*(n:Int) by omega) (show 1≤(n:Int) by omega) (by omega) (by omega)
   obtain⟨NN,hNN⟩:∃ NN:Nat,10*(n:Int)*n+2=NN:=⟨(10*(n:Int)*n+2).toNat,by omega⟩
   have hN1:12≤NN:=by omega
   have hN2:NN≤1000:=by omega
   have HNN:=zN hNN
   rw[hNN] at HX ⊢
   have HXm:Hid (X.length≤most):=zN (by omega)
   clear b1 b2 b3 hNN hXl
   go_wp2_with fail
   refine (r22nodes_any n _ (by omega) (by omega)).mono ?_
   rintro e w3 ⟨rfl,rfl⟩
   rw[HNN.out]
   go_wp2_with fail
   refine (cvec_any _ g b L j NN 5000 hC (fun h0=>by have:=hb0 h0;omega) hN2 (by omega)).mono ?_
   rintro e w3 ⟨vb,zs,rfl,hzl,hzw,hzr,hg3,j3,hC3⟩
   obtain⟨pz,cz,bz,rfl,hzc,hzp,hzi⟩:=hzr.form
   obtain⟨rfl,hbz1,hbz2⟩:=hzp (by omega)
   have HRX:=zN hrow
   have HX0:=zN HX.out
   have hzb:Within 5000 zs:=hzw
   have HZB:=zN hzb
   have HG0:=zN hgr
   have hgw:g < wr.heap.size:=by omega
   have hbz:0 < L.length→b≠bz:=fun h0=>by have:=hb0 h0;omega
   have hgz:g≠bz:=by omega
   obtain⟨p9,c9,rfl,hc9⟩:=own_slice hrow
   have HZL:=zN hzl
   have hzl9:zs.length≤1000:=by omega
   clear hC hrow HX hgr hzr hzw hzb hzl
   go_wp2
   go_loopw [39] (fun i wx=>∃ k:Nat,k≤zs.length∧i=.int .i64 k∧Hid (IntsAt wx bz 0 (clipTo m zs k))∧wr.grownBy wx (some g)∧CodesAt wx g b L j3) (fun i _=>zs.length-(intOf i).toNat)
   case atStart=>exact⟨0,by omega,rfl,zN (by simpa[clipTo] using hzi),hg3,hC3⟩
   case round=>
    clear hzi hg3 hC3
    obtain⟨k,hk,rfl,HI,hgx,hCx⟩:=hrel
    by_cases hltk:k < zs.length
    ·have hdk:decide ((k:Int) < (zs.length:Int))=true:=zDt (by omega)
     obtain⟨k1,k2⟩:=HI.out k (by rw[clipTo_len];exact hltk)
     rw[Nat.zero_add] at k1 k2
     rw[clipTo_get hltk] at k1
     have HSU:=zN (clipTo_succ (v:=m) hltk)
     have hyb:=HZB.out zs[k] (List.getElem_mem _)
     obtain⟨y,hy⟩:∃ y,y=zs[k]:=⟨_,rfl⟩
     rw[←hy] at k1 HSU hyb
     have hkz0:(0:Int)≤(k:Int):=by omega
     have hkzI:(k:Int) < (zs.length:Int):=by omega
     clear hy
     go_wp2_with fail
     refine (clip_any _ _ _ _).mono ?_
     rintro e wz ⟨rfl,rfl⟩
     obtain⟨q,hq⟩:∃ q,q=clipI ((m:Int)*256+y) 0 4194304:=⟨_,rfl⟩
     rw[←hq] at HSU ⊢
     clear hq
     go_wp2
     go_roundw
     case rel=>exact⟨k+1,by omega,by go_num,zN (by rw[HSU.out];have:=HI.out.set k q;rwa[Nat.zero_add] at this),grw_set hgx (.inr (by omega)),hCx.set1 hgz hbz _ _⟩
     case measure=>simp[intOf];omega
    ·have hdk:decide ((k:Int) < (zs.length:Int))=false:=zDf (by omega)
     obtain rfl:k=zs.length:=by omega
     go_wp2
     go_ret2
     refine⟨_,X,bz,cz,clipTo m zs zs.length,by rw[clipTo_len]<;>rfl,HXm.out,(HRX.out.kept hgx (fun k hk=>by injection hk with hk;omega)).mono (Nat.le_succ _),fun x hx=>by rw[HNN.out];exact ((HX0.out x hx).grown hgx (fun k hk=>by injection hk with hk;omega)).mono (Nat.le_succ _),by rw[clipTo_len,HZL.out,HNN.out],by rw[clipTo_len];exact hzc,by omega,HI.out,clipTo_bd,HG0.out.trans hgx,j3,hCx⟩
def SysOwn (w:World) (base:Nat) (v:Value) (S:Sy):Prop:=∃ p1 c1 p2 c2 X b1 b2,v=.agg #[.int .i64 S.f,.int .i64 S.s,.int .i64 S.a,.slice p1 S.rows.length c1,.slice p2 S.targets.length c2]∧S.rows=X.map (·.1)∧S.rows.length≤c1∧S.targets.length≤c2∧
 (0 < S.rows.length→p1=some ⟨b1,0,none⟩∧base≤b1∧b1 < w.heap.size)∧RosAt w b1 X∧(∀ x∈X,x.1.sh.length≤x.2.2∧ShOwn w base x.2.1 x.1.sh)∧
 (0 < S.targets.length→p2=some ⟨b2,0,none⟩∧base≤b2∧b2 < w.heap.size)∧IntsAt w b2 0 S.targets
theorem RosAt.cellsOf {w w':World} {b:Nat} {X:List RwX} (h:RosAt w b X) (hk:∀ o v,w.cell? ⟨b,o,none⟩=some v→w'.cell? ⟨b,o,none⟩=some v):RosAt w' b X:=fun k hk' j hj=>by
 have h1:=h k hk' j hj
 have h2:∃ v,(encR X[k])[j]?=some v:=⟨(encR X[k])[j]'(by simp[encR];omega),List.getElem?_eq_getElem _⟩
 obtain⟨v,h2⟩:=h2
 rw[h2] at h1 ⊢
 exact hk _ _ h1
theorem SysOwn.grown {w w':World} {base:Nat} {v:Value} {S:Sy} {row:Option Nat} (h:SysOwn w base v S) (hg:w.grownBy w' row) (hr:∀ k,row=some k→k < base):SysOwn w' base v S:=by
 obtain⟨p1,c1,p2,c2,X,b1,b2,h1,h2,h3,h4,h5,h6,h7,h8,h9⟩:=h
 have hs:=hg.size
 refine⟨p1,c1,p2,c2,X,b1,b2,h1,h2,h3,h4,fun h0=>⟨(h5 h0).1,(h5 h0).2.1,by have:=(h5 h0).2.2;omega⟩,?_,fun x hx=>⟨(h7 x hx).1,(h7 x hx).2.grown hg hr⟩,fun h0=>⟨(h8 h0).1,(h8 h0).2.1,by have:=(h8 h0).2.2;omega⟩,?_⟩
 ·intro k hk
  have hb:=(h5 (by rw[h2,List.length_map];omega)).2.1
  exact RosAt.cellsOf h6 (fun o v e=>hg.cell e (fun e2=>by have:=hr b1 e2.symm;omega)) k hk
 ·intro j hj
  obtain⟨_,hb,hb2⟩:=h8 (by omega)
  exact IntsAt.block h9 (hg.block b2 hb2 (fun e2=>by have:=hr b2 e2.symm;omega)) j hj
theorem SysOwn.sysin {w:World} {base:Nat} {v:Value} {S:Sy} (h:SysOwn w base v S):SysIn w v S:=by
 obtain⟨p1,c1,p2,c2,X,b1,b2,h1,h2,h3,h4,h5,h6,h7,h8,h9⟩:=h
 refine⟨p1,c1,p2,c2,h1,h3,h4,?_,b2,0,fun h0=>(h8 h0).1,fun j hj=>(h9 j hj).1⟩
 rw[h2]
 refine⟨b1,0,fun h0=>(h5 (by rw[h2];exact h0)).1,fun k hk=>?_⟩
 have hk':k < X.length:=by simpa using hk
 obtain⟨q1,q2⟩:=h7 X[k] (List.getElem_mem _)
 rw[List.getElem_map]
 have c0:=h6 k hk' 0 (by omega)
 have c1:=h6 k hk' 1 (by omega)
 have c2:=h6 k hk' 2 (by omega)
 have c3:=h6 k hk' 3 (by omega)
 refine⟨X[k].2.1,X[k].2.2,?_,q1,q2.shin,?_,?_,?_⟩
 ·rw[Nat.zero_add];simpa[encR] using c0
 ·rw[Nat.zero_add];simpa[encR] using c1
 ·rw[Nat.zero_add];simpa[encR] using c2
 ·rw[Nat.zero_add];simpa[encR] using c3
theorem ShOwn.below {w w':World} {base:Nat} {q:Option Addr} {S:List (Int × Int)} (h:ShOwn w base q S) (hb:Below w.heap.size w w'):ShOwn w' base q S:=by
 obtain⟨b,h1,h2⟩:=h
 exact⟨b,fun h0=>⟨(h1 h0).1,(h1 h0).2.1,Nat.lt_of_lt_of_le (h1 h0).2.2 hb.size⟩,fun k hk=>⟨zP hb (h2 k hk).1,zP hb (h2 k hk).2⟩⟩
theorem SysOwn.mono {w:World} {base base':Nat} {v:Value} {S:Sy} (h:SysOwn w base v S) (hb:base'≤base):SysOwn w base' v S:=by
 obtain⟨p1,c1,p2,c2,X,b1,b2,h1,h2,h3,h4,h5,h6,h7,h8,h9⟩:=h
 exact⟨p1,c1,p2,c2,X,b1,b2,h1,h2,h3,h4,fun h0=>⟨(h5 h0).1,Nat.le_trans hb (h5 h0).2.1,(h5 h0).2.2⟩,h6,fun x hx=>⟨(h7 x hx).1,(h7 x hx).2.mono hb⟩,fun h0=>⟨(h8 h0).1,Nat.le_trans hb (h8 h0).2.1,(h8 h0).2.2⟩,h9⟩
theorem prOk_of {f s a:Int} (h:PrC f s a):PrOk f s a:=by
 obtain⟨⟨h1,h2⟩,h3,h4⟩:=h
 have h5:∀ x∈smooths,0≤x∧x≤1000000:=by decide
 have h6:∀ x∈anchors,1≤x∧x≤1000000:=by decide
 have:=h5 s h3;have:=h6 a h4
 exact⟨h1,by omega,by omega,by omega,by omega,by omega⟩
def tgt (zs:List Int) (r:Rw):Int:=215040*r.value-valL r.sh zs
theorem valL_nonneg {x:List Int} (hx:∀ y∈x,0≤y):∀ {S:List (Int × Int)},(∀ c∈S,0≤c.2)→0≤valL S x
 |[],_=>by simp[valL]
 |c :: S,h=>by
  have i:=valL_nonneg hx (S:=S) (fun c hc=>h c (by simp[hc]))
  have e2:valL (c :: S) x=valT x c+valL S x:=by simp[valL]
  have j:0≤valT x c:=by
   unfold valT
   split
   ·rename_i h0
    have hlt:c.1.toNat < x.length:=by omega
    rw[i64_get hlt]
    exact Int.mul_nonneg (h c (by simp)) (hx _ (List.getElem_mem _))
   ·omega
  omega
theorem RowG.shw {n:Int} {r:Rw} (h:RowG n r):ShW r.sh:=⟨fun c hc=>by have h1:=(h.2.1 c hc).2;omega,by have h1:=h.2.2.1;omega⟩
theorem RowG.len {n:Int} {r:Rw} (h:RowG n r) (hn:n≤1000):r.sh.length≤1000:=by
 have:=asc_len h.1 h.2.1;omega
theorem RowG.target {n:Int} {r:Rw} (h:RowG n r) {zs:List Int} (hz:∀ y∈zs,0≤y∧y≤4194304):RowOk n r (tgt zs r):=by
 have h1:=valL_nonneg (fun y hy=>(hz y hy).1) h.shw.1
 have h2:=h.shw.val_all (x:=zs) (B:=4194304) (fun y hy=>by have:=hz y hy;omega) (by omega)
 have h3:=h.2.2.2.2.1
 refine⟨h.2.1,h.2.2.1,h.2.2.2.1,?_,?_⟩<;>unfold tgt<;>omega
theorem csys_val (w:World) (g b:Nat) (L:List Int) (i:Nat) (most:Nat) (h:CodesAt w g b L i) (hm:most≤100) :
  Calls Tryz.prog 10 #[.pointer (some ⟨g,0,none⟩),.int .i64 most] w fun e w'=>∃ v S,e=.returned v∧SysOwn w' w.heap.size v S∧SyOk S∧PrC S.f S.s S.a∧S.rows.length≤most∧(∀ r∈S.rows,0≤r.value∧r.value≤19000)∧w.grownBy w' (some g)∧∃ j,CodesAt w' g b L j:=by
 have hg:=h.lt
 have hb0:0 < L.length→b < w.heap.size:=fun h0=>h.ltb h0
 have hgR:some w.heap.size≠some g:=by simp;omega
 go_enter Tryz.func10,Tryz.ntmps10
 go_wp2_with fail
 refine (cprec_any _ g b L i (h.below (by repeat (first|(with_reducible first|assumption|exact zBr _ _|refine zBs ?_ (by first|omega|simp<;>omega) _|refine zBa ?_ (by first|omega|simp<;>omega) _|apply zBd)|assumption)))).mono ?_
 rintro e w1 ⟨f,s,a,rfl,hP,hg1,i1,c1⟩
 have e0:Hid (w.grownBy w1 (some g)):=zN ((grw_below (show Below w.heap.size w _ from (by repeat (first|(with_reducible first|assumption|exact zBr _ _|refine zBs ?_ (by first|omega|simp<;>omega) _|refine zBa ?_ (by first|omega|simp<;>omega) _|apply zBd)|assumption))) _).trans hg1)
 have hs1:w.heap.size < w1.heap.size:=by have:=hg1.size;simp at this;omega
 have v1:VsAt w1 w.heap.size [.int .i64 0,.int .i64 0,.int .i64 0,.slice none 0 0,.slice none 0 0]:=by
  refine VsAt.grown (row:=some g) (w:=w.alloc (.cells #[.int .i64 0,.int .i64 0,.int .i64 0,.slice none 0 0,.slice none 0 0] 27)) (fun k hk=>?_) hg1 (by simp;omega)
  match k,hk with
  |0,_=>exact⟨(by simp[zO,zJ,zQ]),by simp⟩
  |1,_=>exact⟨(by simp[zO,zJ,zQ]),by simp⟩
  |2,_=>exact⟨(by simp[zO,zJ,zQ]),by simp⟩
  |3,_=>exact⟨(by simp[zO,zJ,zQ]),by simp⟩
  |4,_=>exact⟨(by simp[zO,zJ,zQ]),by simp⟩
  |k+5,hk=>simp at hk;omega
 have hf1:=hP.1.1
 have hf2:=hP.1.2
 obtain⟨n,rfl⟩:∃ n:Nat,f=(n:Int):=⟨f.toNat,by omega⟩
 have hpv:Hid (prv n s a=.agg #[.int .i64 n,.int .i64 s,.int .i64 a]):=zN rfl
 rw[hpv.out]
 have HP:=zN hP
 clear hg1 hP
 go_wp2_with fail
 have hBp:Below w1.heap.size w1 (w1.alloc (.cells #[.int .i64 n,.int .i64 s,.int .i64 a] 23)):=(by repeat (first|(with_reducible first|assumption|exact zBr _ _|refine zBs ?_ (by first|omega|simp<;>omega) _|refine zBa ?_ (by first|omega|simp<;>omega) _|apply zBd)|assumption))
 refine (crows_any _ g b L i1 n most (c1.below hBp) (by omega) (by omega) hm).mono ?_
 rintro e w3 ⟨rv,X,bz,cz,zs,rfl,hXm,hRX,hGX,hzl,hzc,hbz,hzi,hzb,hg3,i3,c3⟩
 have hgp:=(grw_below hBp (some g)).trans hg3
 have d0:w3.cell? ⟨w1.heap.size,0,none⟩=some (.int .i64 n):=hg3.cell (by simp[zO,zJ,zQ]) (by simp;have:=c1.lt;omega)
 have d1:w3.cell? ⟨w1.heap.size,1,none⟩=some (.int .i64 s):=hg3.cell (by simp[zO,zJ,zQ]) (by simp;have:=c1.lt;omega)
 have d2:w3.cell? ⟨w1.heap.size,2,none⟩=some (.int .i64 a):=hg3.cell (by simp[zO,zJ,zQ]) (by simp;have:=c1.lt;omega)
 replace v1:=v1.grown hgp hgR
 replace e0:=zN (e0.out.trans hgp)
 have hs3:w1.heap.size < w3.heap.size:=zM _ _ d0
 simp only[World.size_alloc] at hRX hGX hbz
 obtain⟨p1,cp1,bX,rfl,hXc,hXp,hXat⟩:=hRX.form
 have hn2:(10*(n:Int)*n+2)≤1000:=by
  have:=Int.mul_le_mul (show 10*(n:Int)≤20 by omega) hf2 (by omega) (by omega)
  omega
 have HX:=zN hXat
 have HXP:=zN hXp
 have HG:=zN hGX
 have HZ:=zN hzi
 have HZB:=zN hzb
 have HZL:=zN hzl
 have HC:=zN c3
 have HXC:=zN hXc
 have hbz3:bz < w3.heap.size:=zM _ _ (hzi 0 (by have:=hzl;have:=Int.mul_nonneg (show (0:Int)≤10*n by omega) (show (0:Int)≤n by omega);omega)).1
 have hzl9:zs.length≤1000:=by omega
 have hg3:g < w3.heap.size:=by omega
 clear hRX hXat hXp hGX hzi hzb hzl c3 hXc hgp hBp c1 h
 go_wp2
 refine absW (F:=fun w'=>w'.cell? ⟨w3.heap.size,0,none⟩=some (.int .i64 n)∧w'.cell? ⟨w3.heap.size,1,none⟩=some (.int .i64 s)∧w'.cell? ⟨w3.heap.size,2,none⟩=some (.int .i64 a)∧w'.cell? ⟨w3.heap.size,3,none⟩=some (.slice p1 X.length cp1)∧w'.cell? ⟨w3.heap.size,4,none⟩=some (.slice none 0 0)∧w'.frozen? ⟨w3.heap.size,4,none⟩=false∧Below w3.heap.size w3 w'∧w'.heap.size=w3.heap.size+1) ⟨(by simp[zO,zJ,zQ]),(by simp[zO,zJ,zQ]),(by simp[zO,zJ,zQ]),(by simp[zO,zJ,zQ]),(by simp[zO,zJ,zQ]),by simp,(by repeat (first|(with_reducible first|assumption|exact zBr _ _|refine zBs ?_ (by first|omega|simp<;>omega) _|refine zBa ?_ (by first|omega|simp<;>omega) _|apply zBd)|assumption)),by simp⟩ ?_
 rintro W4 ⟨s0,s1,s2,s3,s4,sf,hb4,hs4⟩
 have HB4:=zN hb4
 have HS4:=zN hs4
 obtain⟨Sb,hSb⟩:∃ Sb,Sb=w3.heap.size:=⟨_,rfl⟩
 rw[←hSb] at s0 s1 s2 s3 s4 sf hs4 ⊢
 have HSB:=zN hSb
 have hX100:X.length≤100:=by omega
 have hbzS:¬ (bz=Sb):=by omega
 clear hb4 d0 d1 d2 hSb HS4
 go_loopw [25] (fun i wr=>∃ (k:Nat) (tv:Value),k≤X.length∧i=.int .i64 k∧wr.cell? ⟨Sb,4,none⟩=some tv∧RowV wr (Sb+1) tv ((X.take k).map (fun x=>tgt zs x.1))∧W4.grownBy wr (some Sb)∧wr.frozen? ⟨Sb,4,none⟩=false∧(∀ j v,j < 4→W4.cell? ⟨Sb,j,none⟩=some v→wr.cell? ⟨Sb,j,none⟩=some v)) (fun i _=>X.length-(intOf i).toNat)
 case atStart=>exact⟨0,_,Nat.zero_le _,rfl,s4,by rw[List.take_zero];exact RowV.nil _ _,grw_refl _ _,sf,fun j v _ e=>e⟩
 case round=>
  clear s4 sf
  obtain⟨k,tv,hk,rfl,ct,hrow,hgr,hfr,hkeep⟩:=hrel
  by_cases hlt:k < X.length
  ·have hdk:decide ((k:Int) < (X.length:Int))=true:=zDt (by omega)
   obtain⟨rfl,hbX1,hbX2⟩:=HXP.out (by omega)
   have hbXS:¬ (bX=Sb):=by have:=HSB.out;omega
   have kc:∀ j,j < 4→wr.cell? ⟨bX,k*4+j,none⟩=(encR X[k])[j]?:=fun j hj=>by
    have e1:=RosAt.cellsOf HX.out (w':=wr) (fun o v e=>hgr.cell (zP HB4.out e) (by simp;exact hbXS)) k hlt j hj
    exact e1
   have k0:=kc 0 (by omega)
   have k1:=kc 1 (by omega)
   have k2:=kc 2 (by omega)
   have k3:=kc 3 (by omega)
   simp only[encR,Nat.add_zero,List.getElem?_cons_zero,List.getElem?_cons_succ] at k0 k1 k2 k3
   obtain⟨g1,g2,g3⟩:=HG.out X[k] (List.getElem_mem _)
   have hlen:=g1.len hn2
   have HTK:Hid ((X.take (k+1)).map (fun x=>tgt zs x.1)=(X.take k).map (fun x=>tgt zs x.1) ++ [tgt zs X[k].1]):=zN (by
    rw[List.take_succ_eq_append_getElem hlt,List.map_append];rfl)
   obtain⟨x,hx⟩:∃ x,x=X[k]:=⟨_,rfl⟩
   rw[←hx] at k0 k1 k2 k3 g1 g2 g3 hlen HTK
   obtain⟨r,q,cap⟩:=x
   dsimp only at k0 k1 k2 k3 g1 g2 g3 hlen HTK
   have hvr:=g1.2.2.2.2.1
   have HGR:=zN g1
   have HSW:=zN g1.shw
   have hgr3:w3.grownBy wr (some Sb):=(grw_below HB4.out _).trans hgr
   have hb3r:Below w3.heap.size w3 wr:=(zBr _ _).grown hgr3 (Nat.le_refl _) (fun k hk=>by injection hk with hk;have:=HSB.out;omega)
   have HSI:=zN (g3.shin.below hb3r)
   have HVZ:Hid (VecAt wr (some ⟨bz,0,none⟩) zs):=zN (VecAt.below ⟨bz,0,fun _=>rfl,fun j hj=>(HZ.out j hj).1⟩ hb3r)
   have HBZ:Hid (Bd 1099511627776 zs):=zN (fun y hy=>by have:=HZB.out y hy;omega)
   have HTG:=zN (g1.target HZB.out)
   have hrw:Hid (rwv r q cap=.agg #[.slice q r.sh.length cap,.int .i64 r.value,.int .i64 r.weight,.int .i64 r.report]):=zN rfl
   obtain⟨T,hT⟩:∃ T,T=(X.take k).map (fun x=>tgt zs x.1):=⟨_,rfl⟩
   rw[←hT] at hrow HTK
   have hTl:T.length=k:=by rw[hT];simp;omega
   have HTL:=zN hTl
   obtain⟨pt,cc,rfl,hcc⟩:=own_slice hrow
   rw[hTl] at ct hrow
   have hk0:(0:Int)≤(k:Int):=by omega
   have hkI:(k:Int) < (X.length:Int):=by omega
   have HROW:=zN hrow
   have HKEEP:=zN hkeep
   have HGRW:=zN hgr
   have hSbr:Sb < wr.heap.size:=zM _ _ ct
   clear hx g1 g3 hgr3 hb3r hT hTl hrow kc hkeep hgr
   go_wp2
   refine absW (F:=fun w'=>w'.cell? ⟨Sb,4,none⟩=some (.slice pt k cc)∧w'.cell? ⟨bX,k*4,none⟩=some (.slice q r.sh.length cap)∧w'.cell? ⟨bX,k*4+1,none⟩=some (.int .i64 r.value)∧w'.cell? ⟨bX,k*4+2,none⟩=some (.int .i64 r.weight)∧w'.cell? ⟨bX,k*4+3,none⟩=some (.int .i64 r.report)∧Below wr.heap.size wr w') (by
    have hq:Below wr.heap.size wr _:=(by repeat (first|(with_reducible first|assumption|exact zBr _ _|refine zBs ?_ (by first|omega|simp<;>omega) _|refine zBa ?_ (by first|omega|simp<;>omega) _|apply zBd)|assumption))
    exact⟨zP hq ct,zP hq k0,zP hq k1,zP hq k2,zP hq k3,hq⟩) ?_
   rintro W5 ⟨a0,a1,a2,a3,a4,hb5⟩
   have HB5:=zN hb5
   clear hb5 ct k0 k1 k2 k3
   refine RY.region RX.fN (fun w'=>w'.cell? ⟨Sb,4,none⟩=some (.slice pt k cc)∧w'.cell? ⟨bX,k*4,none⟩=some (.slice q r.sh.length cap)∧w'.cell? ⟨bX,k*4+1,none⟩=some (.int .i64 r.value)∧w'.cell? ⟨bX,k*4+2,none⟩=some (.int .i64 r.weight)∧w'.cell? ⟨bX,k*4+3,none⟩=some (.int .i64 r.report)) (by kernel_rfl) (by kernel_rfl) (⟨a0,a1,a2,a3,a4⟩) (fun OPS HO QR hQR=>?_)
   repeat (refine zeY (fun R hR=>?_);(first|refine zaY (by first|rfl|(rw[HO.out];rfl)) (by simp only[zA,zB,zC,zD];rfl) ?_|refine zbY (by first|rfl|(rw[HO.out];rfl)) rfl (by first|exact .inl rfl|exact .inr rfl) (by simp only[zE,zF,zG,zH];rfl) (by simp only[zA,zB,zC,zD];rfl) ?_|refine zcY (by first|rfl|(rw[HO.out];rfl)) rfl rfl (by simp only[zE,zF,zG,zH];rfl) (by simp only[zA,zB,zC,zD];rfl) ?_|(refine zdY (by first|rfl|(rw[HO.out];rfl)) rfl rfl rfl ?_;apply zEx;apply zEx;refine⟨fun w' hS K hK=>?_,?_,?_⟩;(focus (obtain⟨hS1,hS2,hS3,hS4,hS5⟩:=hS;go_wp2;exact hK _ _ (by simp only[zl,zG,zH];first|exact zf (by omega)|exact zg (by omega)|exact zh (by omega)|exact zi (by omega)|exact zj (by omega)|exact zk (by omega)|exact RX.bneB _|rfl) rfl));(focus (simp only[zA,zB,zC,zD];rfl))));refine hR _ _ ?_;clear hR R)
   refine zeY (fun R hR=>?_)
   refine zgY (by first|rfl|(rw[HO.out];rfl)) rfl (fun K hK=>?_)
   go_wp2_with fail
   rw[←hrw.out]
   refine (rtarget_any r q cap zs (some ⟨bz,0,none⟩) cz _ ?_ g2 (by omega) HSW.out ?_ HBZ.out (by omega) (by omega)).mono ?_
   ·exact (HSI.out.below HB5.out).below (by repeat (first|(with_reducible first|assumption|exact zBr _ _|refine zBs ?_ (by first|omega|simp<;>omega) _|refine zBa ?_ (by first|omega|simp<;>omega) _|apply zBd)|assumption))
   ·exact (HVZ.out.below HB5.out).below (by repeat (first|(with_reducible first|assumption|exact zBr _ _|refine zBs ?_ (by first|omega|simp<;>omega) _|refine zBa ?_ (by first|omega|simp<;>omega) _|apply zBd)|assumption))
   rintro e w6 ⟨rfl,hb6⟩
   rw[hrw.out]
   replace hb6:Below W5.heap.size W5 w6:=⟨hb6.os,hb6.tape,hb6.output,hb6.size,hb6.block⟩
   have z0:=zP hb6 a0
   have z1:=zP hb6 a1
   have z2:=zP hb6 a2
   have z3:=zP hb6 a3
   have z4:=zP hb6 a4
   have HB6:Hid (Below wr.heap.size wr w6):=zN (HB5.out.trans (hb6.mono HB5.out.size))
   have hown:=own_below HROW.out HB6.out
   have HTG2:=zN HTG.out
   obtain⟨tg,htg⟩:∃ tg,tg=215040*r.value-valL r.sh zs:=⟨_,rfl⟩
   rw[←htg]
   have HTQ:Hid (tgt zs r=tg):=zN (by rw[htg];rfl)
   clear hb6 a0 a1 a2 a3 a4 htg
   refine hK _ _ ⟨.inr (⟨z0,z1,z2,z3,z4⟩),hR _ _ ?_⟩;clear hK K hR R
   repeat (refine zeY (fun R hR=>?_);(first|refine zaY (by first|rfl|(rw[HO.out];rfl)) (by simp only[zA,zB,zC,zD];rfl) ?_|refine zbY (by first|rfl|(rw[HO.out];rfl)) rfl (by first|exact .inl rfl|exact .inr rfl) (by simp only[zE,zF,zG,zH];rfl) (by simp only[zA,zB,zC,zD];rfl) ?_|refine zcY (by first|rfl|(rw[HO.out];rfl)) rfl rfl (by simp only[zE,zF,zG,zH];rfl) (by simp only[zA,zB,zC,zD];rfl) ?_|(refine zdY (by first|rfl|(rw[HO.out];rfl)) rfl rfl rfl ?_;apply zEx;apply zEx;refine⟨fun w' hS K hK=>?_,?_,?_⟩;(focus (obtain⟨hS1,hS2,hS3,hS4,hS5⟩:=hS;go_wp2;exact hK _ _ (by simp only[zl,zG,zH];first|exact zf (by omega)|exact zg (by omega)|exact zh (by omega)|exact zi (by omega)|exact zj (by omega)|exact zk (by omega)|exact RX.bneB _|rfl) rfl));(focus (simp only[zA,zB,zC,zD];rfl))));refine hR _ _ ?_;clear hR R)
   refine zeY (fun R hR=>?_)
   refine zgY (by first|rfl|(rw[HO.out];rfl)) rfl (fun K hK=>?_)
   go_wp2
   refine⟨.inr (⟨(by (try have hLt:=zM _ _ z0);(try simp only at hLt);(repeat first|rw[zO]|rw[zK _ _ _ _ (by first|(simp<;>omega)|omega)]|rw[zJ,if_neg (by first|(simp<;>omega)|omega)]);first|exact z0|(rw[zJ,if_pos (by first|(simp;done)|omega)];exact z0)),(by (try have hLt:=zM _ _ z1);(try simp only at hLt);(repeat first|rw[zO]|rw[zK _ _ _ _ (by first|(simp<;>omega)|omega)]|rw[zJ,if_neg (by first|(simp<;>omega)|omega)]);first|exact z1|(rw[zJ,if_pos (by first|(simp;done)|omega)];exact z1)),(by (try have hLt:=zM _ _ z2);(try simp only at hLt);(repeat first|rw[zO]|rw[zK _ _ _ _ (by first|(simp<;>omega)|omega)]|rw[zJ,if_neg (by first|(simp<;>omega)|omega)]);first|exact z2|(rw[zJ,if_pos (by first|(simp;done)|omega)];exact z2)),(by (try have hLt:=zM _ _ z3);(try simp only at hLt);(repeat first|rw[zO]|rw[zK _ _ _ _ (by first|(simp<;>omega)|omega)]|rw[zJ,if_neg (by first|(simp<;>omega)|omega)]);first|exact z3|(rw[zJ,if_pos (by first|(simp;done)|omega)];exact z3)),(by (try have hLt:=zM _ _ z4);(try simp only at hLt);(repeat first|rw[zO]|rw[zK _ _ _ _ (by first|(simp<;>omega)|omega)]|rw[zJ,if_neg (by first|(simp<;>omega)|omega)]);first|exact z4|(rw[zJ,if_pos (by first|(simp;done)|omega)];exact z4))⟩),hR _ _ ?_⟩;clear hR R
   repeat (refine zeY (fun R hR=>?_);(first|refine zaY (by first|rfl|(rw[HO.out];rfl)) (by simp only[zA,zB,zC,zD];rfl) ?_|refine zbY (by first|rfl|(rw[HO.out];rfl)) rfl (by first|exact .inl rfl|exact .inr rfl) (by simp only[zE,zF,zG,zH];rfl) (by simp only[zA,zB,zC,zD];rfl) ?_|refine zcY (by first|rfl|(rw[HO.out];rfl)) rfl rfl (by simp only[zE,zF,zG,zH];rfl) (by simp only[zA,zB,zC,zD];rfl) ?_|(refine zdY (by first|rfl|(rw[HO.out];rfl)) rfl rfl rfl ?_;apply zEx;apply zEx;refine⟨fun w' hS K hK=>?_,?_,?_⟩;(focus (obtain⟨hS1,hS2,hS3,hS4,hS5⟩:=hS;go_wp2;exact hK _ _ (by simp only[zl,zG,zH];first|exact zf (by omega)|exact zg (by omega)|exact zh (by omega)|exact zi (by omega)|exact zj (by omega)|exact zk (by omega)|exact RX.bneB _|rfl) rfl));(focus (simp only[zA,zB,zC,zD];rfl))));refine hR _ _ ?_;clear hR R)
   refine zeY (fun R hR=>?_)
   refine zgY (by first|rfl|(rw[HO.out];rfl)) rfl (fun K hK=>?_)
   refine RX.wp_app elInt _ _ rfl (Sb+1) _ _ _ (World.ownsRow.alloc hown _) (by simp only[zE,zF,zG,zH]) w6.heap.size _ 1 (by simp only[zE,zF,zG,zH]) (heap_alloc_new _ _) rfl (by simp[Value.oneCell']) (by have:=HTL.out;omega) (by have:=HTL.out;omega) (by have:=HB6.out.size;simp;omega) (fun v5 w7 hown5 hb7 hg7 hat7=>?_)
   have hg67:w6.grownBy w7 (Value.slice pt k cc).ownBlock:=(World.grownBy_alloc w6 _ _).trans hg7
   have hlow:∀ q,(Value.slice pt k cc).ownBlock=some q→Sb+1≤q:=fun q hq=>(World.ownsRow.lt hown q hq).1
   have hnb:∀ b,b≤Sb→some b≠(Value.slice pt k cc).ownBlock:=fun b hb e=>by have:=hlow b e.symm;omega
   have hbXs:bX≤Sb:=by have:=HSB.out;omega
   have y0:=hg67.cell z0 (hnb _ (Nat.le_refl _))
   have y1:=hg67.cell z1 (hnb _ hbXs)
   have y2:=hg67.cell z2 (hnb _ hbXs)
   have y3:=hg67.cell z3 (hnb _ hbXs)
   have y4:=hg67.cell z4 (hnb _ hbXs)
   have hwr7:wr.grownBy w7 (Value.slice pt k cc).ownBlock:=(grw_below HB6.out _).trans hg67
   have y5:w7.frozen? ⟨Sb,4,none⟩=false:=(zFb (hwr7.block Sb hSbr (hnb _ (Nat.le_refl _)))).trans hfr
   have HW7:Hid (W4.grownBy w7 (some Sb)):=zN (grw_own HGRW.out hwr7 (fun q hq=>by have:=hlow q hq;have:=hs4;omega))
   have HK7:Hid (∀ j v,j < 4→W4.cell? ⟨Sb,j,none⟩=some v→w7.cell? ⟨Sb,j,none⟩=some v):=zN (fun j v hj e=>hwr7.cell (HKEEP.out j v hj e) (hnb _ (Nat.le_refl _)))
   obtain⟨p5,c5,rfl,hc5⟩:=own_slice hown5
   have HOWN:=zN hown5
   clear z0 z1 z2 z3 z4 hg7 hb7 hat7 hg67 hwr7 hown hown5
   refine hK _ _ ⟨.inr (⟨y0,y1,y2,y3,y4⟩),?_⟩;clear hK K;refine RY.at_ (by simp only[RX.put_some,RX.put_none,List.set_cons_zero,List.set_cons_succ];rfl) (hR _ _ ?_);clear hR R
   repeat (refine zeY (fun R hR=>?_);(first|refine zaY (by first|rfl|(rw[HO.out];rfl)) (by simp only[zA,zB,zC,zD];rfl) ?_|refine zbY (by first|rfl|(rw[HO.out];rfl)) rfl (by first|exact .inl rfl|exact .inr rfl) (by simp only[zE,zF,zG,zH];rfl) (by simp only[zA,zB,zC,zD];rfl) ?_|refine zcY (by first|rfl|(rw[HO.out];rfl)) rfl rfl (by simp only[zE,zF,zG,zH];rfl) (by simp only[zA,zB,zC,zD];rfl) ?_|(refine zdY (by first|rfl|(rw[HO.out];rfl)) rfl rfl rfl ?_;apply zEx;apply zEx;refine⟨fun w' hS K hK=>?_,?_,?_⟩;(focus (obtain⟨hS1,hS2,hS3,hS4,hS5⟩:=hS;go_wp2;exact hK _ _ (by simp only[zl,zG,zH];first|exact zf (by omega)|exact zg (by omega)|exact zh (by omega)|exact zi (by omega)|exact zj (by omega)|exact zk (by omega)|exact RX.bneB _|rfl) rfl));(focus (simp only[zA,zB,zC,zD];rfl))));refine hR _ _ ?_;clear hR R)
   refine zeY (fun R hR=>?_)
   refine zgY (by first|rfl|(rw[HO.out];rfl)) rfl (fun K hK=>?_)
   go_wp2
   first|refine⟨(by first|exact .inl rfl|exact .inl trivial|trivial),hR _ _ (RY.wpL_nil (hQR _ _ ?_))⟩|refine hR _ _ (RY.wpL_nil (hQR _ _ ?_))|refine hQR _ _ ?_
   (try clear hR);(try clear R);clear hQR QR HO OPS
   go_wp2
   go_roundw
   case rel=>exact⟨k+1,_,by omega,by go_num,zL _ _ _ (by rw[y0];rfl),by
     rw[HTK.out,HTQ.out]
     exact RowV.kept (RowV.snoc HOWN.out) (grownBy_setCell _ _ _ _) (fun k hk=>by injection hk with hk;omega),grw_set HW7.out (.inl rfl),by rw[World.frozen?_setCell];exact y5,fun j v hj e=>by
     rw[zK _ _ _ _ (by first|(simp;done)|(simp;omega))];exact HK7.out j v hj e⟩
   case measure=>simp[intOf];omega
  ·have hdk:decide ((k:Int) < (X.length:Int))=false:=zDf (by omega)
   obtain rfl:k=X.length:=by omega
   have s0':=hkeep 0 _ (by omega) s0
   have s1':=hkeep 1 _ (by omega) s1
   have s2':=hkeep 2 _ (by omega) s2
   have s3':=hkeep 3 _ (by omega) s3
   have hrow2:=hrow
   rw[List.take_length] at hrow2
   obtain⟨pt,cc,bt,rfl,hcc,hpt,hti⟩:=hrow2.form
   rw[List.length_map] at ct hpt hcc
   have hw3:w3.grownBy wr (some Sb):=(grw_below HB4.out _).trans hgr
   have hb3r:Below w3.heap.size w3 wr:=(zBr _ _).grown hw3 (Nat.le_refl _) (fun k hk=>by injection hk with hk;have:=HSB.out;omega)
   have V:=v1.grown (grw_below hb3r (some g)) hgR
   obtain⟨d0,f0⟩:=V 0 (by simp)
   obtain⟨d1,f1⟩:=V 1 (by simp)
   obtain⟨d2,f2⟩:=V 2 (by simp)
   obtain⟨d3,f3⟩:=V 3 (by simp)
   obtain⟨d4,f4⟩:=V 4 (by simp)
   simp only[List.getElem_cons_zero,List.getElem_cons_succ] at d0 d1 d2 d3 d4
   have hwSb:w.heap.size < Sb:=by have:=HSB.out;omega
   have HG3:Hid (w.grownBy wr (some g)):=zN (e0.out.trans (grw_below hb3r (some g)))
   have HB3:=zN hb3r
   have HTI:=zN (And.intro hpt (And.intro hti hcc))
   clear hrow hrow2 hkeep hgr hfr V v1 hw3 hb3r s0 s1 s2 s3 hpt hti hcc
   have hSok:Hid (SyOk ⟨n,s,a,X.map (·.1),X.map (fun x=>tgt zs x.1)⟩):=zN ⟨prOk_of HP.out,by simp;omega,by simp,fun i h1 h2=>by
    simp only[List.length_map] at h1
    have h9:=(HG.out X[i] (List.getElem_mem h1)).1
    simp only[List.getElem_map]
    exact⟨h9.1,h9.target HZB.out⟩⟩
   go_wp2
   refine bodyPost_ret (v:=.agg #[.int .i64 n,.int .i64 s,.int .i64 a,.slice p1 X.length cp1,.slice pt X.length cc]) ?_ rfl ⟨_,⟨n,s,a,X.map (·.1),X.map (fun x=>tgt zs x.1)⟩,rfl,?_,hSok.out,HP.out,by simpa using hXm,(fun r hr=>by obtain⟨x,hx,rfl⟩:=List.mem_map.1 hr;exact (HG.out x hx).1.2.2.2.2.1),?_,i3,?_⟩
   ·simp[results,Tryz.results10,go_sem,d0,d1,d2,d3,d4]
   ·have hset:wr.grownBy (((((wr.setCell ⟨w.heap.size,0,none⟩ (.int .i64 n)).setCell ⟨w.heap.size,1,none⟩ (.int .i64 s)).setCell ⟨w.heap.size,2,none⟩ (.int .i64 a)).setCell ⟨w.heap.size,3,none⟩ (.slice p1 X.length cp1)).setCell ⟨w.heap.size,4,none⟩ (.slice pt X.length cc)) (some w.heap.size):=
     ((((grownBy_setCell _ _ _ _).trans (grownBy_setCell _ _ _ _)).trans (grownBy_setCell _ _ _ _)).trans (grownBy_setCell _ _ _ _)).trans (grownBy_setCell _ _ _ _)
    have hSO:SysOwn wr (w.heap.size+1) (.agg #[.int .i64 n,.int .i64 s,.int .i64 a,.slice p1 X.length cp1,.slice pt X.length cc]) ⟨n,s,a,X.map (·.1),X.map (fun x=>tgt zs x.1)⟩:=by
     have hq:=HB3.out.size
     refine⟨p1,cp1,pt,cc,X,bX,bt,by simp,rfl,by simpa using HXC.out,by simpa using HTI.out.2.2,fun h0=>?_,?_,fun x hx=>?_,fun h0=>?_,HTI.out.2.1⟩
     ·obtain⟨e1,e2,e3⟩:=HXP.out (by simpa using h0)
      exact⟨e1,by omega,by omega⟩
     ·exact HX.out.cellsOf (fun o v e=>zP HB3.out e)
     ·obtain⟨e1,e2,e3⟩:=HG.out x hx
      exact⟨e2,(e3.below HB3.out).mono (by omega)⟩
     ·obtain⟨e1,e2,e3⟩:=HTI.out.1 (by simpa using h0)
      exact⟨e1,by omega,e3⟩
    exact (hSO.grown hset (fun k hk=>by injection hk with hk;omega)).mono (Nat.le_succ _)
   ·exact grw_set (grw_set (grw_set (grw_set (grw_set HG3.out (.inr (Nat.le_refl _))) (.inr (Nat.le_refl _))) (.inr (Nat.le_refl _))) (.inr (Nat.le_refl _))) (.inr (Nat.le_refl _))
   ·have hC:=HC.out.below HB3.out
    have hgn:g≠w.heap.size:=by omega
    have hbn:0 < L.length→b≠w.heap.size:=fun h0=>by have:=hb0 h0;omega
    exact ((((hC.set1 hgn hbn _ _).set1 hgn hbn _ _).set1 hgn hbn _ _).set1 hgn hbn _ _).set1 hgn hbn _ _
theorem csys_any (w:World) (g b:Nat) (L:List Int) (i:Nat) (most:Nat) (h:CodesAt w g b L i) (hm:most≤100) :
  Calls Tryz.prog 10 #[.pointer (some ⟨g,0,none⟩),.int .i64 most] w fun e w'=>∃ v S,e=.returned v∧SysOwn w' w.heap.size v S∧SyOk S∧PrC S.f S.s S.a∧S.rows.length≤most∧w.grownBy w' (some g)∧∃ j,CodesAt w' g b L j:=by
 refine (csys_val w g b L i most h hm).mono ?_
 rintro e w' ⟨v,S,h1,h2,h3,h4,h5,_,h6⟩
 exact⟨v,S,h1,h2,h3,h4,h5,h6⟩
end Go.Proofs.YtojkamfabapcoaaGreatDoor
