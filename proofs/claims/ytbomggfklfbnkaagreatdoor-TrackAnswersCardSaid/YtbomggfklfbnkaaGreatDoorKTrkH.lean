import Derived.Test.YtbomggfklfbnkaaGreatDoorKRep
import Derived.Test.YtbomggfklfbnkaaGreatDoorHops
import Derived.Maps.OwnSet
import Derived.Maps.OwnOps
import Derived.Test.YtbomggfklfbnkaaGreatDoorGridL
set_option maxRecDepth 100000
set_option maxHeartbeats 8000000
set_option linter.unusedSimpArgs false
set_option linter.unusedVariables false
namespace Go.Proofs.YtbomggfklfbnkaaGreatDoor
open Go.RowKit Go.Grid Go.Maps Go.Sort Go.Shelf
structure Kept (w w':World) (X:Nat→Prop):Prop where
 os:w'.os=w.os
 tape:w'.tape=w.tape
 output:w'.output=w.output
 size:w.heap.size≤w'.heap.size
 block:∀ i,X i→w'.heap[i]?=w.heap[i]?
theorem Kept.refl (w:World) (X:Nat→Prop):Kept w w X:=⟨rfl,rfl,rfl,Nat.le_refl _,fun _ _=>rfl⟩
theorem Kept.trans {w w' w'':World} {X X':Nat→Prop} (h:Kept w w' X) (k:Kept w' w'' X') (hx:∀ i,X i→X' i):Kept w w'' X:=
 ⟨k.os.trans h.os,k.tape.trans h.tape,k.output.trans h.output,Nat.le_trans h.size k.size,fun i hi=>(k.block i (hx i hi)).trans (h.block i hi)⟩
theorem Kept.mono {w w':World} {X X':Nat→Prop} (h:Kept w w' X) (hx:∀ i,X' i→X i):Kept w w' X':=⟨h.os,h.tape,h.output,h.size,fun i hi=>h.block i (hx i hi)⟩
theorem Kept.of_below {w w':World} {X:Nat→Prop} (h:Below w.heap.size w w') (hx:∀ i,X i→i < w.heap.size):Kept w w' X:=⟨h.os,h.tape,h.output,h.size,fun i hi=>h.block i (hx i hi)⟩
theorem Kept.below {w w':World} {X:Nat→Prop} (h:Kept w w' X) {c:Nat} (hc:∀ i,i < c→X i):Below c w w':=⟨h.os,h.tape,h.output,h.size,fun i hi=>h.block i (hc i hi)⟩
theorem Kept.cell {w w':World} {X:Nat→Prop} (h:Kept w w' X) {b j:Nat} {v:Value} (hb:w.cell? ⟨b,j,none⟩=some v) (hx:X b):w'.cell? ⟨b,j,none⟩=some v:=(World.cell?_of_block (h.block b hx)).trans hb
theorem own_block {w w':World} {base:Nat} {e:TypeId} {size:Nat} {v:Value} {n:Nat} {xs:List Value} (h:w.ownsRow base e size v n xs) (hb:∀ k,v.ownBlock=some k→w'.heap[k]?=w.heap[k]?):w'.ownsRow base e size v n xs:=by
 refine⟨h.1,?_⟩
 rcases h.2 with h2|⟨g,cap,cur,rfl,h3,h4,h5⟩
 ·exact .inl h2
 ·exact .inr ⟨g,cap,cur,rfl,h3,(hb g rfl).trans h4,h5⟩
theorem NextR.out {w w':World} {N M base:Nat} {ls:Nat→List Int} (h:NextR w N M base ls) (hg:∀ i,N≤i→i < w.heap.size→w'.heap[i]?=w.heap[i]?) (hs:w.heap.size≤w'.heap.size) (hb:N≤base):NextR w' N M base ls:=by
 obtain⟨vs,h1,h2,h3⟩:=h
 refine⟨vs,h1.of_block (hg _ (Nat.le_refl _) h1.lt),fun i hi=>?_,h3⟩
 obtain⟨h4,h5⟩:=h2 i hi
 exact⟨h4.kept (fun k hk=>hg k (Nat.le_trans hb (h5 k hk).1) (h5 k hk).2),fun k hk=>⟨(h5 k hk).1,Nat.lt_of_lt_of_le (h5 k hk).2 hs⟩⟩
theorem NetAt.out {w w':World} {N n base:Nat} {L:List Pl} (h:NetAt w N n base L) (hg:∀ i,N≤i+1→i < w.heap.size→w'.heap[i]?=w.heap[i]?) (hs:w.heap.size≤w'.heap.size):NetAt w' N n base L:=by
 have hl:N < w.heap.size:=zM w _ h.cn
 have hN:=hg N (by omega) hl
 obtain⟨v,B,h1,h2,h3,h4,h5⟩:=h.nd
 refine⟨(World.cell?_of_block hN).trans h.cn,(World.cell?_of_block hN).trans h.ch,fun j=>(zFb hN).trans (h.fr j),⟨h.hb.1,Nat.le_trans h.hb.2 hs⟩,v,B,(World.cell?_of_block hN).trans h1,(World.cell?_of_block hN).trans h2,own_block h3 (fun k hk=>hg k ?_ (h3.lt k hk).2),h4.block (hg B (by omega) (by omega)),h5⟩
 have:=(h3.lt k hk).1;have:=h.hb.1;omega
structure NetK (w:World) (N:Nat):Prop where
 net:NetAt w N 8 (N+1) (nodesL 8)
 next:∃ K,w.cell? ⟨N,6,none⟩=some (.slice (some ⟨K,0,none⟩) (nodesL 8).length (nodesL 8).length)∧NextR w K (nodesL 8).length (K+1) (nextL 8)∧N < K
theorem NetK.of_full {w:World} {N:Nat} (h:NetFull w N 8):NetK w N:=⟨h.net,h.next⟩
theorem NetK.lt {w:World} {N:Nat} (h:NetK w N):N < w.heap.size:=zM w _ h.net.cn
theorem NetK.out {w w':World} {N:Nat} (h:NetK w N) (hg:∀ i,N≤i+1→i < w.heap.size→w'.heap[i]?=w.heap[i]?) (hs:w.heap.size≤w'.heap.size):NetK w' N:=by
 obtain⟨K,h1,h2,h3⟩:=h.next
 exact⟨h.net.out hg hs,K,(World.cell?_of_block (hg N (by omega) h.lt)).trans h1,h2.out (fun i hi=>hg i (by omega)) hs (by omega),h3⟩
noncomputable def nearN (p:Pl):Nat:=(best (Classical.epsilon (fun T=>IsLoc 8 p T))).1
theorem nearN_eq {p:Pl} {T:List (Nat × Nat)} (h:IsLoc 8 p T):(best T).1=nearN p:=by
 unfold nearN
 rw[IsLoc.unique h (Classical.epsilon_spec (p:=fun T=>IsLoc 8 p T) ⟨T,h⟩)]
noncomputable def hopN (p q:Pl):Int:=if p=q then 0 else hop 8 (nearN p) (nearN q)
def rowEl (v:Value):Option (DataW Unit × List MemPlace):=match v with
 |.slice none 0 0=>some (.nil,[])
 |.slice (some ⟨b,0,none⟩) n c=>some (.slice [.lit (.int .i64 b),.lit (.int .i64 n),.lit (.int .i64 c)] [],[])
 |_=>none
theorem rowEl_some (b n c:Nat):rowEl (.slice (some ⟨b,0,none⟩) n c)=some (.slice [.lit (.int .i64 b),.lit (.int .i64 n),.lit (.int .i64 c)] [],[]):=rfl
theorem rowEl_inv {v:Value} {b n c:Nat} {ps:List MemPlace} (h:rowEl v=some (.slice [.lit (.int .i64 b),.lit (.int .i64 n),.lit (.int .i64 c)] [],ps)):v=.slice (some ⟨b,0,none⟩) n c:=by
 unfold rowEl at h
 split at h
 ·simp at h
 ·rename_i b' n' c'
  simp at h
  obtain⟨⟨h1,h2,h3⟩,_⟩:=h
  obtain rfl:b'=b:=by omega
  obtain rfl:n'=n:=by omega
  obtain rfl:c'=c:=by omega
  rfl
 ·simp at h
theorem rowEl_nil {v:Value} {ps:List MemPlace} (h:rowEl v=some (.nil,ps)):v=.slice none 0 0:=by
 unfold rowEl at h
 split at h
 ·rfl
 ·simp at h
 ·simp at h
def DisMap (w:World) (g m n:Nat) (X:Nat→Prop):Prop:=∃ D:DataW Unit,w.ownsMap Tryz.prog 3 rowEl m n D∧
 ∀ a:Nat,Maps.has D (.int .i64 a)=true→∃ b:Nat,(∀ z,D.atKey (.int .i64 a) z=.slice [.lit (.int .i64 b),.lit (.int .i64 (nodesL 8).length),.lit (.int .i64 (nodesL 8).length)] [])∧FRow w b (nodesL 8).length (hop 8 a)∧Searched 8 a∧b < w.heap.size∧b≠g∧b≠m∧¬ X b
theorem DisMap.out {w w':World} {g m n:Nat} {X X':Nat→Prop} (h:DisMap w g m n X) (hm:w'.heap[m]?=w.heap[m]?) (hg:∀ i,i < w.heap.size→i≠g→i≠m→¬ X i→w'.heap[i]?=w.heap[i]?) (hs:w.heap.size≤w'.heap.size) (hX:∀ b,X' b→X b∨w.heap.size≤b):DisMap w' g m n X':=by
 obtain⟨D,⟨es,ck,e1,e2⟩,h2⟩:=h
 refine⟨D,⟨es,ck,hm.trans e1,e2⟩,fun a ha=>?_⟩
 obtain⟨b,b1,b2,b3,b4,b5,b6,b7⟩:=h2 a ha
 exact⟨b,b1,b2.kept (hg b b4 b5 b6 b7),b3,Nat.lt_of_lt_of_le b4 hs,b5,b6,fun hx=>by
  rcases hX b hx with h|h
  ·exact b7 h
  ·omega⟩
structure FieldAt (w:World) (g n:Nat) (X:Nat→Prop):Prop where
 fr:∀ j,w.frozen? ⟨g,j,none⟩=false
 lt:g < w.heap.size
 ng:¬ X g
 xl:∀ b,X b→b < w.heap.size
 st:(w.cell? ⟨g,0,none⟩=some (.pointer none)∧w.cell? ⟨g,1,none⟩=some (.map none))∨
  ∃ m N,w.cell? ⟨g,0,none⟩=some (.pointer (some ⟨N,0,none⟩))∧w.cell? ⟨g,1,none⟩=some (.map (some m))∧
   (∃ W0,NetK W0 N∧W0.heap.size≤m∧(∀ i,N≤i+1→i < W0.heap.size→w.heap[i]?=W0.heap[i]?)∧∀ b,X b→b+1 < N∨W0.heap.size≤b)∧g+1 < N∧m < w.heap.size∧¬ X m∧DisMap w g m n X
theorem FieldAt.turn {w w':World} {g n:Nat} {X X':Nat→Prop} (h:FieldAt w g n X) (ht:∀ i,i < w.heap.size→¬ X i→w'.heap[i]?=w.heap[i]?) (hs:w.heap.size≤w'.heap.size) (hX:∀ b,X' b→(X b∨w.heap.size≤b)∧b < w'.heap.size):FieldAt w' g n X':=by
 have hg:=ht g h.lt h.ng
 refine⟨fun j=>(zFb hg).trans (h.fr j),Nat.lt_of_lt_of_le h.lt hs,fun hx=>?_,fun b hb=>(hX b hb).2,?_⟩
 ·rcases (hX g hx).1 with h1|h1
  ·exact h.ng h1
  ·have:=h.lt;omega
 rcases h.st with ⟨c0,c1⟩|⟨m,N,c0,c1,⟨W0,k1,k2,k3,k4⟩,k5,k6,k7,k8⟩
 ·exact .inl ⟨(World.cell?_of_block hg).trans c0,(World.cell?_of_block hg).trans c1⟩
 ·have hNL:=k1.lt
  refine .inr ⟨m,N,(World.cell?_of_block hg).trans c0,(World.cell?_of_block hg).trans c1,⟨W0,k1,k2,fun i h1 h2=>(ht i (by omega) (fun hx=>?_)).trans (k3 i h1 h2),fun b hb=>?_⟩,k5,Nat.lt_of_lt_of_le k6 hs,fun hx=>?_,k8.out (ht m k6 k7) (fun i h1 _ _ h4=>ht i h1 h4) hs (fun b hb=>(hX b hb).1)⟩
  ·rcases k4 i hx with h3|h3<;>omega
  ·rcases (hX b hb).1 with h3|h3
   ·exact k4 b h3
   ·exact .inr (by omega)
  ·rcases (hX m hx).1 with h3|h3
   ·exact k7 h3
   ·omega
theorem FieldAt.below {w w':World} {g n:Nat} {X X':Nat→Prop} (h:FieldAt w g n X) (hb:Below w.heap.size w w') (hX:∀ b,X' b→(X b∨w.heap.size≤b)∧b < w'.heap.size):FieldAt w' g n X':=h.turn (fun i hi _=>hb.block i hi) hb.size hX
theorem FieldAt.less {w:World} {g n:Nat} {X X':Nat→Prop} (h:FieldAt w g n X) (hX:∀ b,X' b→X b):FieldAt w g n X':=h.turn (fun _ _ _=>rfl) (Nat.le_refl _) (fun b hb=>⟨.inl (hX b hb),h.xl b (hX b hb)⟩)
theorem gdist8 (N a:Nat) (ha:a < (nodesL 8).length) (w:World) (hN:NetK w N) :
  Calls Tryz.prog 83 #[.pointer (some ⟨N,0,none⟩),.int .i64 a] w fun e w'=>∃ b,e=.returned (.slice (some ⟨b,0,none⟩) (nodesL 8).length (nodesL 8).length)∧Searched 8 a∧FRow w' b (nodesL 8).length (hop 8 a)∧Below w.heap.size w w'∧w.heap.size≤b:=by
 obtain⟨v,B,c2,_,hown,_⟩:=hN.net.nd
 obtain⟨K,c6,hR,_⟩:=hN.next
 obtain⟨p0,cap0,rfl,_⟩:=own_slice hown
 refine (dist_any N K (nodesL 8).length (nodesL 8).length cap0 a p0 (nextL 8) w c2 c6 hR.rd (fun i _ x hx=>next_in (by omega) (by omega) hx) (fun i=>next_len (by omega) (by omega) i) ha (nodes_max (by omega) (by omega)) (Nat.le_refl _)).mono ?_
 rintro e w' ⟨i,b,rfl,hi,hF,hb,hlb⟩
 exact⟨b,rfl,⟨i,hi⟩,hF.ext (fun k _=>hop_eq (by omega) (by omega) ha hi k),hb,hlb⟩
theorem near_lt {p:Pl} (hp:p.Ok) {T:List (Nat × Nat)} (h:IsLoc 8 p T):(best T).1 < (nodesL 8).length:=by
 have hT:T≠[]:=fun e=>by
  have:=h.1.length_eq
  rw[e] at this
  exact loc_ne (by omega) (hh_mul (by omega) (by omega)) hp (List.length_eq_zero_iff.1 this.symm)
 have hm:best T∈T:=by
  cases T with
  |nil=>exact absurd rfl hT
  |cons x T=>
   rcases best_mem T x with h1|h1
   ·exact List.mem_cons.2 (.inl h1)
   ·exact List.mem_cons.2 (.inr h1)
 exact (loc_nodes (by omega) (hh_mul (by omega) (by omega)) hp _ (h.1.mem_iff.1 hm)).1
theorem asc_ex {S:List (Nat × Nat)} (h:S.Pairwise (fun c d=>c.1≠d.1)):∃ T:List (Nat × Nat),T.Perm S∧Asc T:=by
 have hp:=List.mergeSort_perm S (fun c d=>decide (c.1≤d.1))
 refine⟨_,hp,asc_of_le ?_ ((hp.pairwise_iff (fun {_ _} hne=>Ne.symm hne)).2 h)⟩
 have:=List.pairwise_mergeSort (le:=fun c d:Nat × Nat=>decide (c.1≤d.1)) (fun a b c h1 h2=>by simp at *;omega) (fun a b=>by simp;omega) S
 exact this.imp (fun h=>by simpa using h)
theorem isloc_ex (p:Pl) (hp:p.Ok):∃ T,IsLoc 8 p T:=asc_ex (loc_keys (by omega) (by omega) (hh_mul (by omega) (by omega)) hp)
theorem nearN_lt {p:Pl} (hp:p.Ok):nearN p < (nodesL 8).length:=by
 obtain⟨T,hT⟩:=isloc_ex p hp
 rw[←nearN_eq hT];exact near_lt hp hT
theorem zeroSl (w:World):(zeroValue 23).run Tryz.prog w=.ok (.slice none 0 0) w:=by kernel_rfl
theorem FieldAt.more {w:World} {g n:Nat} {X:Nat→Prop} (h:FieldAt w g n X):FieldAt w g (n+1) X:=by
 refine⟨h.fr,h.lt,h.ng,h.xl,?_⟩
 rcases h.st with h1|⟨m,N,c0,c1,k,h2,h3,h4,D,h5,h6⟩
 ·exact .inl h1
 ·exact .inr ⟨m,N,c0,c1,k,h2,h3,h4,D,h5.mono (Nat.le_succ n),h6⟩
theorem hops_any (g n:Nat) (X:Nat→Prop) (p q:Pl) (hp:p.Ok) (hq:q.Ok) (w:World) (hT:HasTab w) (hX0:X 0) (hF:FieldAt w g n X) (hn:n≤1000000) :
  Calls Tryz.prog 60 #[.pointer (some ⟨g,0,none⟩),pv p,pv q] w fun e w'=>e=.returned (.int .i64 (hopN p q))∧FieldAt w' g (n+1) X∧Kept w w' X∧(p≠q→Searched 8 (nearN p)):=by
 have HP:=zN hp
 have HQ:=zN hq
 have hpv:Hid (pv p=.agg #[.int .i64 p.f,.int .i64 p.a,.int .i64 p.b,.int .i64 p.c]):=zN rfl
 have hqv:Hid (pv q=.agg #[.int .i64 q.f,.int .i64 q.a,.int .i64 q.b,.int .i64 q.c]):=zN rfl
 have hE:=eq_pl p q
 rw[hpv.out,hqv.out] at hE
 rw[hpv.out,hqv.out]
 have hF0:=hF
 have hglt:=hF.lt
 obtain⟨M,hM⟩:∃ M,M=(nodesL 8).length:=⟨_,rfl⟩
 have HM:=zN hM
 have hpM:=nearN_lt hp
 have hqM:=nearN_lt hq
 have hM642:=nodes_max (n:=8) (by omega) (by omega)
 have HNP:=zN hpM
 rw[←hM] at hpM hqM hM642
 clear hp hq hM
 obtain⟨P,hP⟩:∃ P,P=w.heap.size:=⟨_,rfl⟩
 by_cases hpq:p=q
 ·have hd:decide (p=q)=true:=zDt hpq
  have HEQ:Hid (hopN p q=0):=zN (if_pos hpq)
  have HPQ:=zN hpq
  have HF:=zN hF
  clear hpq hF hF0 hP
  go_enter Tryz.func60,Tryz.ntmps60
  go_wp2
  go_ret
  have hb:Below w.heap.size w ((w.alloc (.cells #[.int .i64 p.f,.int .i64 p.a,.int .i64 p.b,.int .i64 p.c] 32)).alloc (.cells #[.int .i64 q.f,.int .i64 q.a,.int .i64 q.b,.int .i64 q.c] 32)):=(by repeat (first|(with_reducible first|assumption|exact zBr _ _|refine zBs ?_ (by first|omega|(simp<;>omega)) _|refine zBa ?_ (by first|omega|(simp<;>omega)) _|apply zBd)|assumption))
  exact⟨by first|(rw[HEQ.out];done)|(rw[HEQ.out];rfl),(HF.out.below hb (X':=X) (fun b hx=>⟨.inl hx,Nat.lt_of_lt_of_le (HF.out.xl b hx) hb.size⟩)).more,Kept.of_below hb HF.out.xl,fun h=>absurd HPQ.out h⟩
 have hd:decide (p=q)=false:=zDf hpq
 have HEQ:Hid (hopN p q=hop 8 (nearN p) (nearN q)):=zN (if_neg hpq)
 clear hpq
 generalize hna:nearN p=na at hpM HNP HEQ
 generalize hnb:nearN q=nb at hqM HEQ
 have HNA:=zN hna
 have HNB:=zN hnb
 clear hna hnb
 have HT:=zN hT
 have HF:=zN hF
 clear hT hF
 rcases hF0.st with ⟨c0,c1⟩|⟨m,N,c0,k1,k2,k3,hm,k4,k5⟩
 ·
  have f0:=hF0.fr 0
  have f1:=hF0.fr 1
  clear hF0 c1
  go_enter Tryz.func60,Tryz.ntmps60
  go_wp2_with fail
  have hb1:Below w.heap.size w ((w.alloc (.cells #[.int .i64 p.f,.int .i64 p.a,.int .i64 p.b,.int .i64 p.c] 32)).alloc (.cells #[.int .i64 q.f,.int .i64 q.a,.int .i64 q.b,.int .i64 q.c] 32)):=(by repeat (first|(with_reducible first|assumption|exact zBr _ _|refine zBs ?_ (by first|omega|(simp<;>omega)) _|refine zBa ?_ (by first|omega|(simp<;>omega)) _|apply zBd)|assumption))
  have hCP:∀ wz:World,Below (P+2) ((w.alloc (.cells #[.int .i64 p.f,.int .i64 p.a,.int .i64 p.b,.int .i64 p.c] 32)).alloc (.cells #[.int .i64 q.f,.int .i64 q.a,.int .i64 q.b,.int .i64 q.c] 32)) wz→wz.cell? ⟨P,0,none⟩=some (.int .i64 p.f)∧wz.cell? ⟨P,1,none⟩=some (.int .i64 p.a)∧wz.cell? ⟨P,2,none⟩=some (.int .i64 p.b)∧wz.cell? ⟨P,3,none⟩=some (.int .i64 p.c)∧wz.cell? ⟨P+1,0,none⟩=some (.int .i64 q.f)∧wz.cell? ⟨P+1,1,none⟩=some (.int .i64 q.a)∧wz.cell? ⟨P+1,2,none⟩=some (.int .i64 q.b)∧wz.cell? ⟨P+1,3,none⟩=some (.int .i64 q.c):=fun wz hz=>by
   subst hP
   exact⟨(hz.cell (by show w.heap.size < w.heap.size+2;omega)).trans (by simp[zO,zJ,zQ]),(hz.cell (by show w.heap.size < w.heap.size+2;omega)).trans (by simp[zO,zJ,zQ]),(hz.cell (by show w.heap.size < w.heap.size+2;omega)).trans (by simp[zO,zJ,zQ]),(hz.cell (by show w.heap.size < w.heap.size+2;omega)).trans (by simp[zO,zJ,zQ]),(hz.cell (by show w.heap.size+1 < w.heap.size+2;omega)).trans (by simp[zO,zJ,zQ]),(hz.cell (by show w.heap.size+1 < w.heap.size+2;omega)).trans (by simp[zO,zJ,zQ]),(hz.cell (by show w.heap.size+1 < w.heap.size+2;omega)).trans (by simp[zO,zJ,zQ]),(hz.cell (by show w.heap.size+1 < w.heap.size+2;omega)).trans (by simp[zO,zJ,zQ])⟩
  have hw1:((w.alloc (.cells #[.int .i64 p.f,.int .i64 p.a,.int .i64 p.b,.int .i64 p.c] 32)).alloc (.cells #[.int .i64 q.f,.int .i64 q.a,.int .i64 q.b,.int .i64 q.c] 32)).heap.size=P+2:=by subst hP;simp
  have HCPX:=zN hCP
  have HB1:=zN hb1
  clear hCP hb1
  generalize ((w.alloc (.cells #[.int .i64 p.f,.int .i64 p.a,.int .i64 p.b,.int .i64 p.c] 32)).alloc (.cells #[.int .i64 q.f,.int .i64 q.a,.int .i64 q.b,.int .i64 q.c] 32))=w1 at *
  have hF1:=HF.out.below HB1.out (X':=X) (fun b hx=>⟨.inl hx,Nat.lt_of_lt_of_le (HF.out.xl b hx) HB1.out.size⟩)
  refine (build_any 8 (by omega) (by omega) w1 (HT.out.below HB1.out)).mono ?_
  rintro e w2 ⟨rfl,hN2,hb2⟩
  obtain⟨N,hN⟩:∃ N,N=w1.heap.size+1:=⟨_,rfl⟩
  rw[←hN] at hN2 ⊢
  have HNF:=zN (NetK.of_full hN2)
  have HB2:=zN hb2
  have HF1:=zN hF1
  have g0:w2.cell? ⟨g,0,none⟩=some (.pointer none):=zP hb2 (zP HB1.out c0)
  have g1:(w2.cell? ⟨g,1,none⟩).isSome=true:=by
   rcases hF1.st with ⟨_,h⟩|⟨m,N,_,h,_⟩
   ·rw[zP hb2 h];rfl
   ·rw[zP hb2 h];rfl
  have ff0:w2.frozen? ⟨g,0,none⟩=false:=(zFb (hb2.block g HF1.out.lt)).trans (hF1.fr 0)
  have ff1:w2.frozen? ⟨g,1,none⟩=false:=(zFb (hb2.block g HF1.out.lt)).trans (hF1.fr 1)
  obtain⟨u1,hu1⟩:=Option.isSome_iff_exists.1 g1
  have hg2:g < w2.heap.size:=zM _ _ g0
  have hN2l:=HNF.out.lt
  clear hN2 hb2 hF1 f0 f1 c0 g1
  have hmm:=@run_makeMap Tryz.prog
  obtain⟨m,hm⟩:∃ m,m=w2.heap.size:=⟨_,rfl⟩
  have HPN:=zN (And.intro hP (And.intro hw1 hN))
  clear hP hw1 hN
  go_wp2_with fail
  rw[←hm]
  obtain⟨hP,hw1,hN⟩:=HPN.out
  try rw[←hP]
  clear HPN
  have a0:(w2.setCell ⟨g,0,none⟩ (.pointer (some ⟨N,0,none⟩))).cell? ⟨g,0,none⟩=some (.pointer (some ⟨N,0,none⟩)):=zL _ _ _ (by rw[g0];rfl)
  have a1:(w2.setCell ⟨g,0,none⟩ (.pointer (some ⟨N,0,none⟩))).cell? ⟨g,1,none⟩=some u1:=(zK _ _ _ _ (by simp)).trans hu1
  have b0:((w2.setCell ⟨g,0,none⟩ (.pointer (some ⟨N,0,none⟩))).setCell ⟨g,1,none⟩ (.map (some m))).cell? ⟨g,0,none⟩=some (.pointer (some ⟨N,0,none⟩)):=(zK _ _ _ _ (by simp)).trans a0
  have b1:((w2.setCell ⟨g,0,none⟩ (.pointer (some ⟨N,0,none⟩))).setCell ⟨g,1,none⟩ (.map (some m))).cell? ⟨g,1,none⟩=some (.map (some m)):=zL _ _ _ (by rw[a1];rfl)
  have hsz0:((w2.setCell ⟨g,0,none⟩ (.pointer (some ⟨N,0,none⟩))).setCell ⟨g,1,none⟩ (.map (some m))).heap.size=m:=by subst hm;simp
  have hgb:(((w2.setCell ⟨g,0,none⟩ (.pointer (some ⟨N,0,none⟩))).setCell ⟨g,1,none⟩ (.map (some m))).alloc (.map #[] 0)).heap[g]?=((w2.setCell ⟨g,0,none⟩ (.pointer (some ⟨N,0,none⟩))).setCell ⟨g,1,none⟩ (.map (some m))).heap[g]?:=Below.heap_alloc _ _ _ (by rw[hsz0];omega)
  have d0:(((w2.setCell ⟨g,0,none⟩ (.pointer (some ⟨N,0,none⟩))).setCell ⟨g,1,none⟩ (.map (some m))).alloc (.map #[] 0)).cell? ⟨g,0,none⟩=some (.pointer (some ⟨N,0,none⟩)):=(World.cell?_of_block hgb).trans b0
  have d1:(((w2.setCell ⟨g,0,none⟩ (.pointer (some ⟨N,0,none⟩))).setCell ⟨g,1,none⟩ (.map (some m))).alloc (.map #[] 0)).cell? ⟨g,1,none⟩=some (.map (some m)):=(World.cell?_of_block hgb).trans b1
  have hb:∀ i,i≠g→i < w2.heap.size→(((w2.setCell ⟨g,0,none⟩ (.pointer (some ⟨N,0,none⟩))).setCell ⟨g,1,none⟩ (.map (some m))).alloc (.map #[] 0)).heap[i]?=w2.heap[i]?:=fun i hi hl=>by
   rw[Below.heap_alloc _ _ _ (by rw[hsz0];omega),Below.heap_setCell _ _ _ _ hi,Below.heap_setCell _ _ _ _ hi]
  have hsz:(((w2.setCell ⟨g,0,none⟩ (.pointer (some ⟨N,0,none⟩))).setCell ⟨g,1,none⟩ (.map (some m))).alloc (.map #[] 0)).heap.size=m+1:=by rw[World.size_alloc,hsz0]
  have hFX:FieldAt (((w2.setCell ⟨g,0,none⟩ (.pointer (some ⟨N,0,none⟩))).setCell ⟨g,1,none⟩ (.map (some m))).alloc (.map #[] 0)) g n X:=by
   refine⟨?_,by rw[hsz];omega,HF1.out.ng,fun b hx=>by rw[hsz];have:=HF1.out.xl b hx;have:=HB2.out.size;omega,.inr ⟨m,N,d0,d1,⟨w2,HNF.out,by omega,fun i h1 h2=>hb i (by omega) h2,fun b hx=>.inl (by have:=HF1.out.xl b hx;omega)⟩,by have:=HF1.out.lt;omega,by rw[hsz];omega,fun hx=>by have:=HF1.out.xl m hx;have:=HB2.out.size;omega,?_⟩⟩
   ·intro j
    rw[zFb hgb,World.frozen?_setCell,World.frozen?_setCell]
    exact (zFb (HB2.out.block g HF1.out.lt)).trans (HF1.out.fr j)
   ·refine⟨.map [],?_,fun a ha=>by simp[Maps.has] at ha⟩
    have h0:=World.ownsMap_made (H:=Unit) ((w2.setCell ⟨g,0,none⟩ (.pointer (some ⟨N,0,none⟩))).setCell ⟨g,1,none⟩ (.map (some m))) Tryz.prog 3 rowEl
    rw[hsz0] at h0
    exact h0.mono (Nat.zero_le _)
  have hKX:Kept w (((w2.setCell ⟨g,0,none⟩ (.pointer (some ⟨N,0,none⟩))).setCell ⟨g,1,none⟩ (.map (some m))).alloc (.map #[] 0)) X:=by
   refine⟨?_,?_,?_,?_,fun i hi=>?_⟩
   ·exact HB2.out.os.trans HB1.out.os
   ·exact HB2.out.tape.trans HB1.out.tape
   ·exact HB2.out.output.trans HB1.out.output
   ·have:=HB2.out.size;have:=HB1.out.size;simp;omega
   ·have hxl:=HF1.out.xl i hi
    have hne:i≠g:=fun e=>HF1.out.ng (e ▸ hi)
    rw[hb i hne (by have:=HB2.out.size;omega)]
    exact (HB2.out.block i hxl).trans (HB1.out.block i (HF.out.xl i hi))
  have hgP:g < P:=by rw[hP];exact hglt
  have hCPX:(((w2.setCell ⟨g,0,none⟩ (.pointer (some ⟨N,0,none⟩))).setCell ⟨g,1,none⟩ (.map (some m))).alloc (.map #[] 0)).cell? ⟨P,0,none⟩=some (.int .i64 p.f)∧(((w2.setCell ⟨g,0,none⟩ (.pointer (some ⟨N,0,none⟩))).setCell ⟨g,1,none⟩ (.map (some m))).alloc (.map #[] 0)).cell? ⟨P,1,none⟩=some (.int .i64 p.a)∧(((w2.setCell ⟨g,0,none⟩ (.pointer (some ⟨N,0,none⟩))).setCell ⟨g,1,none⟩ (.map (some m))).alloc (.map #[] 0)).cell? ⟨P,2,none⟩=some (.int .i64 p.b)∧(((w2.setCell ⟨g,0,none⟩ (.pointer (some ⟨N,0,none⟩))).setCell ⟨g,1,none⟩ (.map (some m))).alloc (.map #[] 0)).cell? ⟨P,3,none⟩=some (.int .i64 p.c)∧(((w2.setCell ⟨g,0,none⟩ (.pointer (some ⟨N,0,none⟩))).setCell ⟨g,1,none⟩ (.map (some m))).alloc (.map #[] 0)).cell? ⟨P+1,0,none⟩=some (.int .i64 q.f)∧(((w2.setCell ⟨g,0,none⟩ (.pointer (some ⟨N,0,none⟩))).setCell ⟨g,1,none⟩ (.map (some m))).alloc (.map #[] 0)).cell? ⟨P+1,1,none⟩=some (.int .i64 q.a)∧(((w2.setCell ⟨g,0,none⟩ (.pointer (some ⟨N,0,none⟩))).setCell ⟨g,1,none⟩ (.map (some m))).alloc (.map #[] 0)).cell? ⟨P+1,2,none⟩=some (.int .i64 q.b)∧(((w2.setCell ⟨g,0,none⟩ (.pointer (some ⟨N,0,none⟩))).setCell ⟨g,1,none⟩ (.map (some m))).alloc (.map #[] 0)).cell? ⟨P+1,3,none⟩=some (.int .i64 q.c):=by
   obtain⟨y0,y1,y2,y3,y4,y5,y6,y7⟩:=HCPX.out w2 ⟨HB2.out.os,HB2.out.tape,HB2.out.output,by have:=HB2.out.size;omega,fun i hi=>HB2.out.block i (by omega)⟩
   have hn0:g≠P:=by omega
   have hn1:g≠P+1:=by omega
   have key:∀ b j u,w2.cell? ⟨b,j,none⟩=some u→g≠b→(((w2.setCell ⟨g,0,none⟩ (.pointer (some ⟨N,0,none⟩))).setCell ⟨g,1,none⟩ (.map (some m))).alloc (.map #[] 0)).cell? ⟨b,j,none⟩=some u:=fun b j u hu hne=>by
    have hl:=zM _ _ hu
    exact (World.cell?_of_block (hb b hne.symm hl)).trans hu
   exact⟨key _ _ _ y0 hn0,key _ _ _ y1 hn0,key _ _ _ y2 hn0,key _ _ _ y3 hn0,key _ _ _ y4 hn1,key _ _ _ y5 hn1,key _ _ _ y6 hn1,key _ _ _ y7 hn1⟩
  have hnn:(((w2.setCell ⟨g,0,none⟩ (.pointer (some ⟨N,0,none⟩))).setCell ⟨g,1,none⟩ (.map (some m))).alloc (.map #[] 0)).cell? ⟨g,0,none⟩≠some (.pointer none):=by
   rw[d0]
   simp
  have HTX:=zN ((HT.out.kept (hKX.block 0 hX0)))
  have HFX:=zN hFX
  have HKX:=zN hKX
  have HCP:=zN hCPX
  clear a0 a1 b0 b1 d0 d1 hb hsz hsz0 hgb hFX hKX hCPX HCPX HB1 HB2 HF1 HNF g0 hu1 ff0 ff1 hmm hg2 hN2l hP hw1 hN hm HT HF
  generalize (((w2.setCell ⟨g,0,none⟩ (.pointer (some ⟨N,0,none⟩))).setCell ⟨g,1,none⟩ (.map (some m))).alloc (.map #[] 0))=wx at *
  clear w2
  rcases HFX.out.st with ⟨cc0,_⟩|⟨m,N,c0x,c1x,hW0,hgN,hm,hXm,hDM⟩
  ·exact absurd cc0 hnn
  have HW0:=zN hW0
  obtain⟨W0,hk1,hk2,hk3,hk4⟩:=hW0
  have hNl:=hk1.lt
  have HNK:Hid (NetK wx N):=zN (hk1.out hk3 (by omega))
  have HC:Hid (wx.cell? ⟨g,0,none⟩=some (.pointer (some ⟨N,0,none⟩))∧wx.cell? ⟨g,1,none⟩=some (.map (some m))∧True):=zN ⟨c0x,c1x,trivial⟩
  have HDM:=zN hDM
  have HMM:Hid (m < wx.heap.size∧True∧¬ X m∧True):=zN ⟨hm,trivial,hXm,trivial⟩
  have hgm0:g+1 < m:=by omega
  clear hk1 hk2 hk3 hk4 hNl c0x c1x hDM hXm hnn hm
  have hSS:wx.cell? ⟨g,0,none⟩=some (.pointer (some ⟨N,0,none⟩))∧wx.cell? ⟨P,0,none⟩=some (.int .i64 p.f)∧wx.cell? ⟨P,1,none⟩=some (.int .i64 p.a)∧wx.cell? ⟨P,2,none⟩=some (.int .i64 p.b)∧wx.cell? ⟨P,3,none⟩=some (.int .i64 p.c)∧wx.cell? ⟨P+1,0,none⟩=some (.int .i64 q.f)∧wx.cell? ⟨P+1,1,none⟩=some (.int .i64 q.a)∧wx.cell? ⟨P+1,2,none⟩=some (.int .i64 q.b)∧wx.cell? ⟨P+1,3,none⟩=some (.int .i64 q.c):=⟨HC.out.1,HCP.out⟩
  refine RX.region RX.fN (fun w'=>w'.cell? ⟨g,0,none⟩=some (.pointer (some ⟨N,0,none⟩))∧w'.cell? ⟨P,0,none⟩=some (.int .i64 p.f)∧w'.cell? ⟨P,1,none⟩=some (.int .i64 p.a)∧w'.cell? ⟨P,2,none⟩=some (.int .i64 p.b)∧w'.cell? ⟨P,3,none⟩=some (.int .i64 p.c)∧w'.cell? ⟨P+1,0,none⟩=some (.int .i64 q.f)∧w'.cell? ⟨P+1,1,none⟩=some (.int .i64 q.a)∧w'.cell? ⟨P+1,2,none⟩=some (.int .i64 q.b)∧w'.cell? ⟨P+1,3,none⟩=some (.int .i64 q.c)) (by kernel_rfl) (by kernel_rfl) (hSS) (fun OPS HO QR hQR=>?_)
  repeat (refine zeX (fun R hR=>?_);(first|refine zaX (by first|rfl|(rw[HO.out];rfl)) (by simp only[zA,zB,zC,zD];rfl) ?_|refine zbX (by first|rfl|(rw[HO.out];rfl)) rfl (by first|exact .inl rfl|exact .inr rfl) (by simp only[zE,zF,zG,zH];rfl) (by simp only[zA,zB,zC,zD];rfl) ?_|refine zcX (by first|rfl|(rw[HO.out];rfl)) rfl rfl (by simp only[zE,zF,zG,zH];rfl) (by simp only[zA,zB,zC,zD];rfl) ?_|(refine zdX (by first|rfl|(rw[HO.out];rfl)) rfl rfl rfl ?_;apply zEx;apply zEx;refine⟨fun w' hS K hK=>?_,?_,?_⟩;(focus (obtain⟨s0,s1,s2,s3,s4,s5,s6,s7,s8⟩:=hS;go_wp2;exact hK _ _ (by simp only[zl,zG,zH];first|exact zf (by omega)|exact zg (by omega)|exact zh (by omega)|exact zi (by omega)|exact zj (by omega)|exact zk (by omega)|exact RX.bneB _|rfl) rfl));(focus (simp only[zA,zB,zC,zD];rfl))));refine hR _ _ ?_;clear hR R)
  refine zeX (fun R hR=>?_)
  refine zgX (by first|rfl|(rw[HO.out];rfl)) rfl (fun K hK=>?_)
  go_wp2_with fail
  rw[←hpv.out]
  have hbd:Below wx.heap.size wx wx.drew:=zBd (zBr _ _)
  refine (nearest_any N 8 (N+1) p wx.drew (HTX.out.below hbd) (HNK.out.net.below hbd) HP.out (by omega) (by omega)).mono ?_
  rintro e w3 ⟨T1,hT1,rfl,hb3⟩
  rw[nearN_eq hT1,HNA.out]
  clear hT1
  have HB3:=zN (hbd.trans (hb3.mono (Nat.le_refl _)))
  clear hb3 hbd
  refine hK _ _ ⟨⟨zP HB3.out hSS.1,zP HB3.out hSS.2.1,zP HB3.out hSS.2.2.1,zP HB3.out hSS.2.2.2.1,zP HB3.out hSS.2.2.2.2.1,zP HB3.out hSS.2.2.2.2.2.1,zP HB3.out hSS.2.2.2.2.2.2.1,zP HB3.out hSS.2.2.2.2.2.2.2.1,zP HB3.out hSS.2.2.2.2.2.2.2.2⟩,hR _ _ ?_⟩;clear hK K hR R
  repeat (refine zeX (fun R hR=>?_);(first|refine zaX (by first|rfl|(rw[HO.out];rfl)) (by simp only[zA,zB,zC,zD];rfl) ?_|refine zbX (by first|rfl|(rw[HO.out];rfl)) rfl (by first|exact .inl rfl|exact .inr rfl) (by simp only[zE,zF,zG,zH];rfl) (by simp only[zA,zB,zC,zD];rfl) ?_|refine zcX (by first|rfl|(rw[HO.out];rfl)) rfl rfl (by simp only[zE,zF,zG,zH];rfl) (by simp only[zA,zB,zC,zD];rfl) ?_|(refine zdX (by first|rfl|(rw[HO.out];rfl)) rfl rfl rfl ?_;apply zEx;apply zEx;refine⟨fun w' hS K hK=>?_,?_,?_⟩;(focus (obtain⟨s0,s1,s2,s3,s4,s5,s6,s7,s8⟩:=hS;go_wp2;exact hK _ _ (by simp only[zl,zG,zH];first|exact zf (by omega)|exact zg (by omega)|exact zh (by omega)|exact zi (by omega)|exact zj (by omega)|exact zk (by omega)|exact RX.bneB _|rfl) rfl));(focus (simp only[zA,zB,zC,zD];rfl))));refine hR _ _ ?_;clear hR R)
  refine zeX (fun R hR=>?_)
  refine zgX (by first|rfl|(rw[HO.out];rfl)) rfl (fun K hK=>?_)
  go_wp2_with fail
  rw[←hqv.out]
  refine (nearest_any N 8 (N+1) q w3 (HTX.out.below HB3.out) (HNK.out.net.below HB3.out) HQ.out (by omega) (by omega)).mono ?_
  rintro e w4 ⟨T2,hT2,rfl,hb4⟩
  rw[nearN_eq hT2,HNB.out]
  clear hT2
  have HB4:=zN (HB3.out.trans (hb4.mono HB3.out.size))
  clear hb4 HB3
  refine hK _ _ ⟨⟨zP HB4.out hSS.1,zP HB4.out hSS.2.1,zP HB4.out hSS.2.2.1,zP HB4.out hSS.2.2.2.1,zP HB4.out hSS.2.2.2.2.1,zP HB4.out hSS.2.2.2.2.2.1,zP HB4.out hSS.2.2.2.2.2.2.1,zP HB4.out hSS.2.2.2.2.2.2.2.1,zP HB4.out hSS.2.2.2.2.2.2.2.2⟩,hR _ _ ?_⟩;clear hK K hR R
  repeat (refine zeX (fun R hR=>?_);(first|refine zaX (by first|rfl|(rw[HO.out];rfl)) (by simp only[zA,zB,zC,zD];rfl) ?_|refine zbX (by first|rfl|(rw[HO.out];rfl)) rfl (by first|exact .inl rfl|exact .inr rfl) (by simp only[zE,zF,zG,zH];rfl) (by simp only[zA,zB,zC,zD];rfl) ?_|refine zcX (by first|rfl|(rw[HO.out];rfl)) rfl rfl (by simp only[zE,zF,zG,zH];rfl) (by simp only[zA,zB,zC,zD];rfl) ?_|(refine zdX (by first|rfl|(rw[HO.out];rfl)) rfl rfl rfl ?_;apply zEx;apply zEx;refine⟨fun w' hS K hK=>?_,?_,?_⟩;(focus (obtain⟨s0,s1,s2,s3,s4,s5,s6,s7,s8⟩:=hS;go_wp2;exact hK _ _ (by simp only[zl,zG,zH];first|exact zf (by omega)|exact zg (by omega)|exact zh (by omega)|exact zi (by omega)|exact zj (by omega)|exact zk (by omega)|exact RX.bneB _|rfl) rfl));(focus (simp only[zA,zB,zC,zD];rfl))));refine hR _ _ ?_;clear hR R)
  refine RX.wpL_nil (hQR _ _ (⟨zP HB4.out hSS.1,zP HB4.out hSS.2.1,zP HB4.out hSS.2.2.1,zP HB4.out hSS.2.2.2.1,zP HB4.out hSS.2.2.2.2.1,zP HB4.out hSS.2.2.2.2.2.1,zP HB4.out hSS.2.2.2.2.2.2.1,zP HB4.out hSS.2.2.2.2.2.2.2.1,zP HB4.out hSS.2.2.2.2.2.2.2.2⟩) ?_);clear hQR QR HO OPS
  clear hSS
  have hF4:=HFX.out.below HB4.out (X':=X) (fun b hb=>⟨.inl hb,Nat.lt_of_lt_of_le (HFX.out.xl b hb) HB4.out.size⟩)
  have HK4:=zN (HKX.out.trans (Kept.of_below HB4.out HFX.out.xl) (fun _ h=>h))
  have HNK4:=zN (NetK.out HNK.out (fun i _ hi=>HB4.out.block i hi) HB4.out.size)
  have hc1:=zP HB4.out HC.out.2.1
  have hc0:=zP HB4.out HC.out.1
  have hdm:DisMap w4 g m n X:=HDM.out.out (HB4.out.block m HMM.out.1) (fun i hi _ _ _=>HB4.out.block i hi) HB4.out.size (fun b hb=>.inl hb)
  have HF4:=zN hF4
  clear hF4 HFX HKX HNK HC HDM HTX HCP
  obtain⟨D,hown,hent⟩:=hdm
  have HENT:=zN hent
  have hkey:keyOf Tryz.prog 3 (.int .i64 (na:Int))=some (.int .i64 (na:Int)):=keyOf_int_mk Tryz.underlying3 (WalkArith.wf_i64 (by omega))
  obtain⟨v,ps,hrun,hv⟩:=hown.look_ok (int_keyed Tryz.underlying3) Tryz.underlying67 (zeroSl w4) (zd:=.nil) (zp:=[]) rfl hkey
  cases hhas:Maps.has D (.int .i64 (na:Int))
  ·
   rw[hhas] at hrun
   rw[Maps.atKey_of_not_has hhas] at hv
   obtain rfl:=rowEl_nil hv
   have HHAS:=zN hhas
   have HOWN:=zN hown
   clear hhas hv hent hown
   go_wp2_with fail
   refine (gdist8 N (na) HNP.out w4 HNK4.out).mono ?_
   rintro e w5 ⟨b,rfl,hse,hrow,hb5,hbl⟩
   rw[←HM.out] at hrow ⊢
   have hc15:=zP hb5 hc1
   have hown5:=HOWN.out.kept (row:=none) ⟨hb5.os,hb5.tape,hb5.output,hb5.size,fun k hk _=>hb5.block k hk⟩ (by simp)
   have HB5:=zN hb5
   have HROW:=zN hrow
   have HSE:=zN hse
   have hbl5:b < w5.heap.size:=zM _ _ (hrow 0 (by omega)).1
   have hmb:m≠b:=by have:=HOWN.out.lt;omega
   have hgb:g≠b:=by have:=HF4.out.lt;omega
   clear hb5 hrow hse hc1 hrun
   have hq0:(0:Int)≤(nb:Int):=by omega
   have hq1:(nb:Int) < (M:Int):=by omega
   go_wp2_with (first|(at_mapUpdate;refine wpList_mapUpdate_own _ rfl _ _ _ 67 rfl 3 23 (int_keyed Tryz.underlying3) Tryz.underlying67 rowEl m n D rfl hown5 (by unfold maxLen;omega) _ _ _ rfl rfl hkey _ [] (rowEl_some b M M) ?_;intro w6 hown6 hgr6;have hcell:=(hgr6.cell (HROW.out (nb) (by omega)).1 (fun e=>hmb (by injection e with e;exact e.symm)):w6.cell? ⟨b,nb,none⟩=_))|go_in)
   have HOWN6:=zN hown6
   have HG6:=zN hgr6
   clear hown6 hgr6 hown5
   go_wp2
   go_ret
   have hHS:Searched 8 na:=HSE.out
   refine⟨?_,?_,?_,fun _=>hHS⟩
   ·first|(rw[HEQ.out];done)|(rw[HEQ.out];rfl)
   ·have hF5:=HF4.out.below HB5.out (X':=X) (fun b hb=>⟨.inl hb,Nat.lt_of_lt_of_le (HF4.out.xl b hb) HB5.out.size⟩)
    have hgm:g≠m:=by omega
    have hg6:w6.heap[g]?=w5.heap[g]?:=HG6.out.block g hF5.lt (fun e=>hgm (by injection e))
    refine⟨fun j=>(zFb hg6).trans (hF5.fr j),Nat.lt_of_lt_of_le hF5.lt HG6.out.size,hF5.ng,fun b hb=>Nat.lt_of_lt_of_le (hF5.xl b hb) HG6.out.size,.inr ⟨m,N,(World.cell?_of_block hg6).trans (zP HB5.out hc0),(World.cell?_of_block hg6).trans hc15,?_,by omega,Nat.lt_of_lt_of_le (Nat.lt_of_lt_of_le (HOWN.out.lt) HB5.out.size) HG6.out.size,HMM.out.2.2.1,⟨_,HOWN6.out,?_⟩⟩⟩
    ·obtain⟨W0,k1,k2,k3,k4⟩:=HW0.out
     refine⟨W0,k1,k2,fun i hi1 hi2=>?_,k4⟩
     have h6:w6.heap[i]?=w5.heap[i]?:=HG6.out.block i (by have:=HOWN.out.lt;have:=HB5.out.size;omega) (fun e=>by injection e with e;omega)
     exact h6.trans ((HB5.out.block i (by have:=HOWN.out.lt;omega)).trans ((HB4.out.block i (by have:=HMM.out.1;omega)).trans (k3 i hi1 hi2)))
    ·intro a ha
     by_cases hap:a=na
     ·subst hap
      refine⟨b,fun z=>by rw[Maps.atKey_put_same HOWN.out.isMap ((int_keyed Tryz.underlying3).key hkey),HM.out],?_,HSE.out,Nat.lt_of_lt_of_le hbl5 HG6.out.size,hgb.symm,hmb.symm,fun hx=>by have:=HF4.out.xl b hx;omega⟩
      rw[←HM.out]
      exact HROW.out.kept (HG6.out.block b hbl5 (fun e=>hmb (by injection e with e;exact e.symm)))
     ·have hne:(Lit.int IntKind.i64 (a:Int))≠Lit.int IntKind.i64 (na:Int):=fun e=>hap (by injection e with _ e;omega)
      rw[Maps.has_put_other hne] at ha
      obtain⟨b',e1,e2,e3,e4,e5,e6,e7⟩:=HENT.out a ha
      refine⟨b',fun z=>by rw[Maps.atKey_put_other hne];exact e1 z,?_,e3,Nat.lt_of_lt_of_le (Nat.lt_of_lt_of_le e4 HB5.out.size) HG6.out.size,e5,e6,e7⟩
      exact (e2.kept (HB5.out.block b' e4)).kept (HG6.out.block b' (Nat.lt_of_lt_of_le e4 HB5.out.size) (fun e=>e6 (by injection e)))
   ·refine (HK4.out.trans (Kept.of_below HB5.out HF4.out.xl) (fun _ h=>h)).trans (X':=X) ⟨HG6.out.os,HG6.out.tape,HG6.out.output,HG6.out.size,fun i hi=>HG6.out.block i (Nat.lt_of_lt_of_le (HF4.out.xl i hi) HB5.out.size) (fun e=>HMM.out.2.2.1 (by injection e with e;exact e ▸ hi))⟩ (fun _ h=>h)
  ·
   obtain⟨b,e1,e2,e3,e4,e5,e6,e7⟩:=HENT.out (na) hhas
   rw[hhas] at hrun
   rw[e1] at hv
   obtain rfl:=rowEl_inv hv
   rw[←HM.out] at hrun e2
   have hcell:=(e2 (nb) (by omega)).1
   have HSE:=zN e3
   have HOWN:=zN hown
   have hq0:(0:Int)≤(nb:Int):=by omega
   have hq1:(nb:Int) < (M:Int):=by omega
   clear e1 e2 e3 e4 e5 e6 e7 hhas hv hent hown
   go_wp2
   go_ret
   have hHS:Searched 8 na:=HSE.out
   refine⟨?_,HF4.out.more,HK4.out,fun _=>hHS⟩
   first|(rw[HEQ.out];done)|(rw[HEQ.out];rfl)
 ·
  clear hF0 hm k1 k2 k3 k4 k5
  go_enter Tryz.func60,Tryz.ntmps60
  go_wp2_with fail
  have hb1:Below w.heap.size w ((w.alloc (.cells #[.int .i64 p.f,.int .i64 p.a,.int .i64 p.b,.int .i64 p.c] 32)).alloc (.cells #[.int .i64 q.f,.int .i64 q.a,.int .i64 q.b,.int .i64 q.c] 32)):=(by repeat (first|(with_reducible first|assumption|exact zBr _ _|refine zBs ?_ (by first|omega|(simp<;>omega)) _|refine zBa ?_ (by first|omega|(simp<;>omega)) _|apply zBd)|assumption))
  have hCP:((w.alloc (.cells #[.int .i64 p.f,.int .i64 p.a,.int .i64 p.b,.int .i64 p.c] 32)).alloc (.cells #[.int .i64 q.f,.int .i64 q.a,.int .i64 q.b,.int .i64 q.c] 32)).cell? ⟨w.heap.size,0,none⟩=some (.int .i64 p.f)∧((w.alloc (.cells #[.int .i64 p.f,.int .i64 p.a,.int .i64 p.b,.int .i64 p.c] 32)).alloc (.cells #[.int .i64 q.f,.int .i64 q.a,.int .i64 q.b,.int .i64 q.c] 32)).cell? ⟨w.heap.size,1,none⟩=some (.int .i64 p.a)∧((w.alloc (.cells #[.int .i64 p.f,.int .i64 p.a,.int .i64 p.b,.int .i64 p.c] 32)).alloc (.cells #[.int .i64 q.f,.int .i64 q.a,.int .i64 q.b,.int .i64 q.c] 32)).cell? ⟨w.heap.size,2,none⟩=some (.int .i64 p.b)∧((w.alloc (.cells #[.int .i64 p.f,.int .i64 p.a,.int .i64 p.b,.int .i64 p.c] 32)).alloc (.cells #[.int .i64 q.f,.int .i64 q.a,.int .i64 q.b,.int .i64 q.c] 32)).cell? ⟨w.heap.size,3,none⟩=some (.int .i64 p.c)∧((w.alloc (.cells #[.int .i64 p.f,.int .i64 p.a,.int .i64 p.b,.int .i64 p.c] 32)).alloc (.cells #[.int .i64 q.f,.int .i64 q.a,.int .i64 q.b,.int .i64 q.c] 32)).cell? ⟨w.heap.size+1,0,none⟩=some (.int .i64 q.f)∧((w.alloc (.cells #[.int .i64 p.f,.int .i64 p.a,.int .i64 p.b,.int .i64 p.c] 32)).alloc (.cells #[.int .i64 q.f,.int .i64 q.a,.int .i64 q.b,.int .i64 q.c] 32)).cell? ⟨w.heap.size+1,1,none⟩=some (.int .i64 q.a)∧((w.alloc (.cells #[.int .i64 p.f,.int .i64 p.a,.int .i64 p.b,.int .i64 p.c] 32)).alloc (.cells #[.int .i64 q.f,.int .i64 q.a,.int .i64 q.b,.int .i64 q.c] 32)).cell? ⟨w.heap.size+1,2,none⟩=some (.int .i64 q.b)∧((w.alloc (.cells #[.int .i64 p.f,.int .i64 p.a,.int .i64 p.b,.int .i64 p.c] 32)).alloc (.cells #[.int .i64 q.f,.int .i64 q.a,.int .i64 q.b,.int .i64 q.c] 32)).cell? ⟨w.heap.size+1,3,none⟩=some (.int .i64 q.c):=⟨(by simp[zO,zJ,zQ]),(by simp[zO,zJ,zQ]),(by simp[zO,zJ,zQ]),(by simp[zO,zJ,zQ]),(by simp[zO,zJ,zQ]),(by simp[zO,zJ,zQ]),(by simp[zO,zJ,zQ]),(by simp[zO,zJ,zQ])⟩
  rw[←hP] at hCP ⊢
  have hnn:((w.alloc (.cells #[.int .i64 p.f,.int .i64 p.a,.int .i64 p.b,.int .i64 p.c] 32)).alloc (.cells #[.int .i64 q.f,.int .i64 q.a,.int .i64 q.b,.int .i64 q.c] 32)).cell? ⟨g,0,none⟩≠some (.pointer none):=by
   rw[zP hb1 c0];simp
  have hgP:g < P:=by rw[hP];exact hglt
  have HFX:=zN (HF.out.below hb1 (X':=X) (fun b hx=>⟨.inl hx,Nat.lt_of_lt_of_le (HF.out.xl b hx) hb1.size⟩))
  have HKX:=zN (Kept.of_below hb1 HF.out.xl)
  have HTX:=zN (HT.out.below hb1)
  have HCP:=zN hCP
  clear hCP hb1 c0 hP HT HF
  generalize ((w.alloc (.cells #[.int .i64 p.f,.int .i64 p.a,.int .i64 p.b,.int .i64 p.c] 32)).alloc (.cells #[.int .i64 q.f,.int .i64 q.a,.int .i64 q.b,.int .i64 q.c] 32))=wx at *
  rcases HFX.out.st with ⟨cc0,_⟩|⟨m,N,c0x,c1x,hW0,hgN,hm,hXm,hDM⟩
  ·exact absurd cc0 hnn
  have HW0:=zN hW0
  obtain⟨W0,hk1,hk2,hk3,hk4⟩:=hW0
  have hNl:=hk1.lt
  have HNK:Hid (NetK wx N):=zN (hk1.out hk3 (by omega))
  have HC:Hid (wx.cell? ⟨g,0,none⟩=some (.pointer (some ⟨N,0,none⟩))∧wx.cell? ⟨g,1,none⟩=some (.map (some m))∧True):=zN ⟨c0x,c1x,trivial⟩
  have HDM:=zN hDM
  have HMM:Hid (m < wx.heap.size∧True∧¬ X m∧True):=zN ⟨hm,trivial,hXm,trivial⟩
  have hgm0:g+1 < m:=by omega
  clear hk1 hk2 hk3 hk4 hNl c0x c1x hDM hXm hnn hm
  have hSS:wx.cell? ⟨g,0,none⟩=some (.pointer (some ⟨N,0,none⟩))∧wx.cell? ⟨P,0,none⟩=some (.int .i64 p.f)∧wx.cell? ⟨P,1,none⟩=some (.int .i64 p.a)∧wx.cell? ⟨P,2,none⟩=some (.int .i64 p.b)∧wx.cell? ⟨P,3,none⟩=some (.int .i64 p.c)∧wx.cell? ⟨P+1,0,none⟩=some (.int .i64 q.f)∧wx.cell? ⟨P+1,1,none⟩=some (.int .i64 q.a)∧wx.cell? ⟨P+1,2,none⟩=some (.int .i64 q.b)∧wx.cell? ⟨P+1,3,none⟩=some (.int .i64 q.c):=⟨HC.out.1,HCP.out⟩
  refine RX.region RX.fN (fun w'=>w'.cell? ⟨g,0,none⟩=some (.pointer (some ⟨N,0,none⟩))∧w'.cell? ⟨P,0,none⟩=some (.int .i64 p.f)∧w'.cell? ⟨P,1,none⟩=some (.int .i64 p.a)∧w'.cell? ⟨P,2,none⟩=some (.int .i64 p.b)∧w'.cell? ⟨P,3,none⟩=some (.int .i64 p.c)∧w'.cell? ⟨P+1,0,none⟩=some (.int .i64 q.f)∧w'.cell? ⟨P+1,1,none⟩=some (.int .i64 q.a)∧w'.cell? ⟨P+1,2,none⟩=some (.int .i64 q.b)∧w'.cell? ⟨P+1,3,none⟩=some (.int .i64 q.c)) (by kernel_rfl) (by kernel_rfl) (hSS) (fun OPS HO QR hQR=>?_)
  repeat (refine zeX (fun R hR=>?_);(first|refine zaX (by first|rfl|(rw[HO.out];rfl)) (by simp only[zA,zB,zC,zD];rfl) ?_|refine zbX (by first|rfl|(rw[HO.out];rfl)) rfl (by first|exact .inl rfl|exact .inr rfl) (by simp only[zE,zF,zG,zH];rfl) (by simp only[zA,zB,zC,zD];rfl) ?_|refine zcX (by first|rfl|(rw[HO.out];rfl)) rfl rfl (by simp only[zE,zF,zG,zH];rfl) (by simp only[zA,zB,zC,zD];rfl) ?_|(refine zdX (by first|rfl|(rw[HO.out];rfl)) rfl rfl rfl ?_;apply zEx;apply zEx;refine⟨fun w' hS K hK=>?_,?_,?_⟩;(focus (obtain⟨s0,s1,s2,s3,s4,s5,s6,s7,s8⟩:=hS;go_wp2;exact hK _ _ (by simp only[zl,zG,zH];first|exact zf (by omega)|exact zg (by omega)|exact zh (by omega)|exact zi (by omega)|exact zj (by omega)|exact zk (by omega)|exact RX.bneB _|rfl) rfl));(focus (simp only[zA,zB,zC,zD];rfl))));refine hR _ _ ?_;clear hR R)
  refine zeX (fun R hR=>?_)
  refine zgX (by first|rfl|(rw[HO.out];rfl)) rfl (fun K hK=>?_)
  go_wp2_with fail
  rw[←hpv.out]
  have hbd:Below wx.heap.size wx wx.drew:=zBd (zBr _ _)
  refine (nearest_any N 8 (N+1) p wx.drew (HTX.out.below hbd) (HNK.out.net.below hbd) HP.out (by omega) (by omega)).mono ?_
  rintro e w3 ⟨T1,hT1,rfl,hb3⟩
  rw[nearN_eq hT1,HNA.out]
  clear hT1
  have HB3:=zN (hbd.trans (hb3.mono (Nat.le_refl _)))
  clear hb3 hbd
  refine hK _ _ ⟨⟨zP HB3.out hSS.1,zP HB3.out hSS.2.1,zP HB3.out hSS.2.2.1,zP HB3.out hSS.2.2.2.1,zP HB3.out hSS.2.2.2.2.1,zP HB3.out hSS.2.2.2.2.2.1,zP HB3.out hSS.2.2.2.2.2.2.1,zP HB3.out hSS.2.2.2.2.2.2.2.1,zP HB3.out hSS.2.2.2.2.2.2.2.2⟩,hR _ _ ?_⟩;clear hK K hR R
  repeat (refine zeX (fun R hR=>?_);(first|refine zaX (by first|rfl|(rw[HO.out];rfl)) (by simp only[zA,zB,zC,zD];rfl) ?_|refine zbX (by first|rfl|(rw[HO.out];rfl)) rfl (by first|exact .inl rfl|exact .inr rfl) (by simp only[zE,zF,zG,zH];rfl) (by simp only[zA,zB,zC,zD];rfl) ?_|refine zcX (by first|rfl|(rw[HO.out];rfl)) rfl rfl (by simp only[zE,zF,zG,zH];rfl) (by simp only[zA,zB,zC,zD];rfl) ?_|(refine zdX (by first|rfl|(rw[HO.out];rfl)) rfl rfl rfl ?_;apply zEx;apply zEx;refine⟨fun w' hS K hK=>?_,?_,?_⟩;(focus (obtain⟨s0,s1,s2,s3,s4,s5,s6,s7,s8⟩:=hS;go_wp2;exact hK _ _ (by simp only[zl,zG,zH];first|exact zf (by omega)|exact zg (by omega)|exact zh (by omega)|exact zi (by omega)|exact zj (by omega)|exact zk (by omega)|exact RX.bneB _|rfl) rfl));(focus (simp only[zA,zB,zC,zD];rfl))));refine hR _ _ ?_;clear hR R)
  refine zeX (fun R hR=>?_)
  refine zgX (by first|rfl|(rw[HO.out];rfl)) rfl (fun K hK=>?_)
  go_wp2_with fail
  rw[←hqv.out]
  refine (nearest_any N 8 (N+1) q w3 (HTX.out.below HB3.out) (HNK.out.net.below HB3.out) HQ.out (by omega) (by omega)).mono ?_
  rintro e w4 ⟨T2,hT2,rfl,hb4⟩
  rw[nearN_eq hT2,HNB.out]
  clear hT2
  have HB4:=zN (HB3.out.trans (hb4.mono HB3.out.size))
  clear hb4 HB3
  refine hK _ _ ⟨⟨zP HB4.out hSS.1,zP HB4.out hSS.2.1,zP HB4.out hSS.2.2.1,zP HB4.out hSS.2.2.2.1,zP HB4.out hSS.2.2.2.2.1,zP HB4.out hSS.2.2.2.2.2.1,zP HB4.out hSS.2.2.2.2.2.2.1,zP HB4.out hSS.2.2.2.2.2.2.2.1,zP HB4.out hSS.2.2.2.2.2.2.2.2⟩,hR _ _ ?_⟩;clear hK K hR R
  repeat (refine zeX (fun R hR=>?_);(first|refine zaX (by first|rfl|(rw[HO.out];rfl)) (by simp only[zA,zB,zC,zD];rfl) ?_|refine zbX (by first|rfl|(rw[HO.out];rfl)) rfl (by first|exact .inl rfl|exact .inr rfl) (by simp only[zE,zF,zG,zH];rfl) (by simp only[zA,zB,zC,zD];rfl) ?_|refine zcX (by first|rfl|(rw[HO.out];rfl)) rfl rfl (by simp only[zE,zF,zG,zH];rfl) (by simp only[zA,zB,zC,zD];rfl) ?_|(refine zdX (by first|rfl|(rw[HO.out];rfl)) rfl rfl rfl ?_;apply zEx;apply zEx;refine⟨fun w' hS K hK=>?_,?_,?_⟩;(focus (obtain⟨s0,s1,s2,s3,s4,s5,s6,s7,s8⟩:=hS;go_wp2;exact hK _ _ (by simp only[zl,zG,zH];first|exact zf (by omega)|exact zg (by omega)|exact zh (by omega)|exact zi (by omega)|exact zj (by omega)|exact zk (by omega)|exact RX.bneB _|rfl) rfl));(focus (simp only[zA,zB,zC,zD];rfl))));refine hR _ _ ?_;clear hR R)
  refine RX.wpL_nil (hQR _ _ (⟨zP HB4.out hSS.1,zP HB4.out hSS.2.1,zP HB4.out hSS.2.2.1,zP HB4.out hSS.2.2.2.1,zP HB4.out hSS.2.2.2.2.1,zP HB4.out hSS.2.2.2.2.2.1,zP HB4.out hSS.2.2.2.2.2.2.1,zP HB4.out hSS.2.2.2.2.2.2.2.1,zP HB4.out hSS.2.2.2.2.2.2.2.2⟩) ?_);clear hQR QR HO OPS
  clear hSS
  have hF4:=HFX.out.below HB4.out (X':=X) (fun b hb=>⟨.inl hb,Nat.lt_of_lt_of_le (HFX.out.xl b hb) HB4.out.size⟩)
  have HK4:=zN (HKX.out.trans (Kept.of_below HB4.out HFX.out.xl) (fun _ h=>h))
  have HNK4:=zN (NetK.out HNK.out (fun i _ hi=>HB4.out.block i hi) HB4.out.size)
  have hc1:=zP HB4.out HC.out.2.1
  have hc0:=zP HB4.out HC.out.1
  have hdm:DisMap w4 g m n X:=HDM.out.out (HB4.out.block m HMM.out.1) (fun i hi _ _ _=>HB4.out.block i hi) HB4.out.size (fun b hb=>.inl hb)
  have HF4:=zN hF4
  clear hF4 HFX HKX HNK HC HDM HTX HCP
  obtain⟨D,hown,hent⟩:=hdm
  have HENT:=zN hent
  have hkey:keyOf Tryz.prog 3 (.int .i64 (na:Int))=some (.int .i64 (na:Int)):=keyOf_int_mk Tryz.underlying3 (WalkArith.wf_i64 (by omega))
  obtain⟨v,ps,hrun,hv⟩:=hown.look_ok (int_keyed Tryz.underlying3) Tryz.underlying67 (zeroSl w4) (zd:=.nil) (zp:=[]) rfl hkey
  cases hhas:Maps.has D (.int .i64 (na:Int))
  ·
   rw[hhas] at hrun
   rw[Maps.atKey_of_not_has hhas] at hv
   obtain rfl:=rowEl_nil hv
   have HHAS:=zN hhas
   have HOWN:=zN hown
   clear hhas hv hent hown
   go_wp2_with fail
   refine (gdist8 N (na) HNP.out w4 HNK4.out).mono ?_
   rintro e w5 ⟨b,rfl,hse,hrow,hb5,hbl⟩
   rw[←HM.out] at hrow ⊢
   have hc15:=zP hb5 hc1
   have hown5:=HOWN.out.kept (row:=none) ⟨hb5.os,hb5.tape,hb5.output,hb5.size,fun k hk _=>hb5.block k hk⟩ (by simp)
   have HB5:=zN hb5
   have HROW:=zN hrow
   have HSE:=zN hse
   have hbl5:b < w5.heap.size:=zM _ _ (hrow 0 (by omega)).1
   have hmb:m≠b:=by have:=HOWN.out.lt;omega
   have hgb:g≠b:=by have:=HF4.out.lt;omega
   clear hb5 hrow hse hc1 hrun
   have hq0:(0:Int)≤(nb:Int):=by omega
   have hq1:(nb:Int) < (M:Int):=by omega
   go_wp2_with (first|(at_mapUpdate;refine wpList_mapUpdate_own _ rfl _ _ _ 67 rfl 3 23 (int_keyed Tryz.underlying3) Tryz.underlying67 rowEl m n D rfl hown5 (by unfold maxLen;omega) _ _ _ rfl rfl hkey _ [] (rowEl_some b M M) ?_;intro w6 hown6 hgr6;have hcell:=(hgr6.cell (HROW.out (nb) (by omega)).1 (fun e=>hmb (by injection e with e;exact e.symm)):w6.cell? ⟨b,nb,none⟩=_))|go_in)
   have HOWN6:=zN hown6
   have HG6:=zN hgr6
   clear hown6 hgr6 hown5
   go_wp2
   go_ret
   have hHS:Searched 8 na:=HSE.out
   refine⟨?_,?_,?_,fun _=>hHS⟩
   ·first|(rw[HEQ.out];done)|(rw[HEQ.out];rfl)
   ·have hF5:=HF4.out.below HB5.out (X':=X) (fun b hb=>⟨.inl hb,Nat.lt_of_lt_of_le (HF4.out.xl b hb) HB5.out.size⟩)
    have hgm:g≠m:=by omega
    have hg6:w6.heap[g]?=w5.heap[g]?:=HG6.out.block g hF5.lt (fun e=>hgm (by injection e))
    refine⟨fun j=>(zFb hg6).trans (hF5.fr j),Nat.lt_of_lt_of_le hF5.lt HG6.out.size,hF5.ng,fun b hb=>Nat.lt_of_lt_of_le (hF5.xl b hb) HG6.out.size,.inr ⟨m,N,(World.cell?_of_block hg6).trans (zP HB5.out hc0),(World.cell?_of_block hg6).trans hc15,?_,by omega,Nat.lt_of_lt_of_le (Nat.lt_of_lt_of_le (HOWN.out.lt) HB5.out.size) HG6.out.size,HMM.out.2.2.1,⟨_,HOWN6.out,?_⟩⟩⟩
    ·obtain⟨W0,k1,k2,k3,k4⟩:=HW0.out
     refine⟨W0,k1,k2,fun i hi1 hi2=>?_,k4⟩
     have h6:w6.heap[i]?=w5.heap[i]?:=HG6.out.block i (by have:=HOWN.out.lt;have:=HB5.out.size;omega) (fun e=>by injection e with e;omega)
     exact h6.trans ((HB5.out.block i (by have:=HOWN.out.lt;omega)).trans ((HB4.out.block i (by have:=HMM.out.1;omega)).trans (k3 i hi1 hi2)))
    ·intro a ha
     by_cases hap:a=na
     ·subst hap
      refine⟨b,fun z=>by rw[Maps.atKey_put_same HOWN.out.isMap ((int_keyed Tryz.underlying3).key hkey),HM.out],?_,HSE.out,Nat.lt_of_lt_of_le hbl5 HG6.out.size,hgb.symm,hmb.symm,fun hx=>by have:=HF4.out.xl b hx;omega⟩
      rw[←HM.out]
      exact HROW.out.kept (HG6.out.block b hbl5 (fun e=>hmb (by injection e with e;exact e.symm)))
     ·have hne:(Lit.int IntKind.i64 (a:Int))≠Lit.int IntKind.i64 (na:Int):=fun e=>hap (by injection e with _ e;omega)
      rw[Maps.has_put_other hne] at ha
      obtain⟨b',e1,e2,e3,e4,e5,e6,e7⟩:=HENT.out a ha
      refine⟨b',fun z=>by rw[Maps.atKey_put_other hne];exact e1 z,?_,e3,Nat.lt_of_lt_of_le (Nat.lt_of_lt_of_le e4 HB5.out.size) HG6.out.size,e5,e6,e7⟩
      exact (e2.kept (HB5.out.block b' e4)).kept (HG6.out.block b' (Nat.lt_of_lt_of_le e4 HB5.out.size) (fun e=>e6 (by injection e)))
   ·refine (HK4.out.trans (Kept.of_below HB5.out HF4.out.xl) (fun _ h=>h)).trans (X':=X) ⟨HG6.out.os,HG6.out.tape,HG6.out.output,HG6.out.size,fun i hi=>HG6.out.block i (Nat.lt_of_lt_of_le (HF4.out.xl i hi) HB5.out.size) (fun e=>HMM.out.2.2.1 (by injection e with e;exact e ▸ hi))⟩ (fun _ h=>h)
  ·
   obtain⟨b,e1,e2,e3,e4,e5,e6,e7⟩:=HENT.out (na) hhas
   rw[hhas] at hrun
   rw[e1] at hv
   obtain rfl:=rowEl_inv hv
   rw[←HM.out] at hrun e2
   have hcell:=(e2 (nb) (by omega)).1
   have HSE:=zN e3
   have HOWN:=zN hown
   have hq0:(0:Int)≤(nb:Int):=by omega
   have hq1:(nb:Int) < (M:Int):=by omega
   clear e1 e2 e3 e4 e5 e6 e7 hhas hv hent hown
   go_wp2
   go_ret
   have hHS:Searched 8 na:=HSE.out
   refine⟨?_,HF4.out.more,HK4.out,fun _=>hHS⟩
   first|(rw[HEQ.out];done)|(rw[HEQ.out];rfl)
end Go.Proofs.YtbomggfklfbnkaaGreatDoor
