import Derived.Test.YtbomggfklfbnkaaGreatDoorKTrkM
import Derived.Test.YtbomggfklfbnkaaGreatDoorKChain
import Derived.Test.YtbomggfklfbnkaaGreatDoorKOrd
set_option maxRecDepth 100000
set_option maxHeartbeats 8000000
set_option linter.unusedSimpArgs false
set_option linter.unusedVariables false
namespace Go.Chain
theorem best_step (P:Nat→Nat→Bool) {M i k z:Nat} (hk:k < M) (h:max z (1+bestOf P i k (lensT P k (M-k)))=lf P M i) :
  max (if P i k=true then max z (1+lf P M k) else z) (1+bestOf P i (k+1) (lensT P (k+1) (M-(k+1))))=lf P M i∨False:=by
 rw[lens_cons P hk] at h
 have e:bestOf P i k (lf P M k :: lensT P (k+1) (M-(k+1)))=max (if P i k=true then lf P M k else 0) (bestOf P i (k+1) (lensT P (k+1) (M-(k+1)))):=rfl
 rw[e] at h
 generalize bestOf P i (k+1) (lensT P (k+1) (M-(k+1)))=b at *
 left
 by_cases hp:P i k=true
 ·rw[if_pos hp] at h ⊢
  omega
 ·rw[if_neg hp] at h ⊢
  omega
theorem best_end (P:Nat→Nat→Bool) {M i z:Nat} (h1:1≤z) (h:max z (1+bestOf P i M (lensT P M (M-M)))=lf P M i):z=lf P M i:=by
 rw[Nat.sub_self] at h
 have e:bestOf P i M (lensT P M 0)=0:=rfl
 rw[e] at h
 omega
theorem best_start (P:Nat→Nat→Bool) {M i:Nat}:max 1 (1+bestOf P i (i+1) (lensT P (i+1) (M-(i+1))))=lf P M i:=by
 unfold lf
 rw[show M-i-1=M-(i+1) by omega]
 omega
theorem most_step (P:Nat→Nat→Bool) {M i:Nat} (h:i < M):mostOf (lensT P i (M-i))=max (lf P M i) (mostOf (lensT P (i+1) (M-(i+1)))):=by
 rw[lens_cons P h]
 rfl
theorem most_end (P:Nat→Nat→Bool) (M:Nat):mostOf (lensT P M (M-M))=0:=by
 rw[Nat.sub_self]
 rfl
theorem greedy_end (P:Nat→Nat→Bool) (last:Option Nat) (most M:Nat):greedy P last most M (lensT P M (M-M))=[]:=by
 rw[Nat.sub_self]
 rfl
theorem greedy_step (P:Nat→Nat→Bool) (last:Option Nat) (most:Nat) {M k:Nat} (h:k < M):greedy P last most k (lensT P k (M-k))=if lf P M k=most∧(last.elim true (fun i=>P i k))=true then k :: greedy P (some k) (most-1) (k+1) (lensT P (k+1) (M-(k+1))) else greedy P last most (k+1) (lensT P (k+1) (M-(k+1))):=by
 rw[lens_cons P h,greedy_cons]
theorem chain_one1 (P:Nat→Nat→Bool):chainP P 1=[0]:=by
 rw[chain_same]
 rfl
end Go.Chain
namespace Go.Proofs.YtbomggfklfbnkaaGreatDoor
open Go.RowKit Go.Grid Go.Maps Go.Sort Go.Shelf Go.Chain
def matD (M:Nat) (R:Nat→Nat) (k:Nat):Nat→Value:=fun i=>if k≤i then .slice (some ⟨R i,0,none⟩) M M else .slice none 0 0
def MatE (w:World) (NB M:Nat) (Q:Nat→Nat→Bool) (k:Nat):Prop:=∃ R:Nat→Nat,w.rowIs NB 44 M (matD M R k)∧∀ i,k≤i→i < M→w.rowIs (R i) 4 M (fun j=>.bool (decide (i < j) && Q i j))
theorem MatE.made (w:World) (M:Nat) (Q:Nat→Nat→Bool):MatE (w.alloc (.cells (madeCells #[.slice none 0 0] M) 44)) w.heap.size M Q M:=
 ⟨fun _=>0,(World.rowIs_made w _ M _).congr (fun i _=>by unfold matD;rw[if_neg (by omega)]),fun i hi _=>by omega⟩
theorem MatE.below {w w':World} {NB M k:Nat} {Q:Nat→Nat→Bool} (h:MatE w NB M Q k) (hb:Below w.heap.size w w'):MatE w' NB M Q k:=by
 obtain⟨R,h1,h2⟩:=h
 exact⟨R,h1.of_block (hb.block _ h1.lt),fun i hi hm=>(h2 i hi hm).of_block (hb.block _ (h2 i hi hm).lt)⟩
theorem MatE.lt {w:World} {NB M k:Nat} {Q:Nat→Nat→Bool} (h:MatE w NB M Q k):NB < w.heap.size:=by
 obtain⟨R,h1,_⟩:=h
 exact h1.lt
theorem MatE.row {w:World} {NB M k:Nat} {Q:Nat→Nat→Bool} (h:MatE w NB M Q k) {i:Nat} (hi:k≤i) (hk:i < M):∃ R,w.cell? ⟨NB,i,none⟩=some (.slice (some ⟨R,0,none⟩) M M)∧∀ j,j < M→w.cell? ⟨R,j,none⟩=some (.bool (decide (i < j) && Q i j)):=by
 obtain⟨R,h1,h2⟩:=h
 refine⟨R i,?_,fun j hj=>(h2 i hi hk).cell hj⟩
 have:=h1.cell (i:=i) (by omega)
 rw[this]
 unfold matD
 rw[if_pos hi]
theorem MatE.soft {w:World} {NB M k:Nat} {Q:Nat→Nat→Bool} (h:MatE w NB M Q k) (i:Nat):w.frozen? ⟨NB,i,none⟩=false:=by
 obtain⟨R,h1,_⟩:=h
 exact h1.frozen i
theorem MatE.cell {w:World} {NB M k:Nat} {Q:Nat→Nat→Bool} (h:MatE w NB M Q k) {i:Nat} (hi:i < M):∃ v,w.cell? ⟨NB,i,none⟩=some v:=by
 obtain⟨R,h1,_⟩:=h
 exact⟨_,h1.cell hi⟩
theorem MatE.step {w w':World} {NB M k R L:Nat} {Q:Nat→Nat→Bool} (h:MatE w NB M Q (k+1)) (h1:w'.heap[NB]?=(w.setCell ⟨NB,k,none⟩ (.slice (some ⟨R,0,none⟩) M M)).heap[NB]?) (h2:∀ b,b < w.heap.size→b≠NB→b≠L→w'.heap[b]?=w.heap[b]?)
  (h3:w'.rowIs R 4 M (fun j=>.bool (decide (k < j) && Q k j))) (hL:∃ f,w.rowIs L 3 M f):MatE w' NB M Q k:=by
 obtain⟨R0,g1,g2⟩:=h
 refine⟨fun i=>if i=k then R else R0 i,((g1.set k (.slice (some ⟨R,0,none⟩) M M)).of_block h1).congr (fun i hi=>?_),fun i hi hm=>?_⟩
 ·unfold matD
  by_cases e:i=k
  ·subst e
   rw[if_pos rfl,if_pos (Nat.le_refl _)];dsimp only;rw[if_pos rfl]
  ·rw[if_neg e]
   by_cases e2:k+1≤i
   ·rw[if_pos e2,if_pos (by omega)];dsimp only;rw[if_neg e]
   ·rw[if_neg e2,if_neg (by omega)]
 ·by_cases e:i=k
  ·subst e
   dsimp only
   rw[if_pos rfl]
   exact h3
  ·dsimp only
   rw[if_neg e]
   have g:=g2 i (by omega) hm
   refine g.of_block (h2 _ g.lt (brow_ne g g1) ?_)
   obtain⟨f,hf⟩:=hL
   rintro rfl
   obtain⟨c,a1,_⟩:=g
   obtain⟨d,a2,_⟩:=hf
   rw[a1] at a2
   have e:=Option.some.inj a2
   injection e with _ e
   exact absurd e (by decide)
def NRow (w:World) (b M:Nat) (f:Nat→Int):Prop:=w.rowIs b 3 M (fun j=>.int .i64 (f j))
theorem NRow.set {w:World} {b M:Nat} {f:Nat→Int} (h:NRow w b M f) (i:Nat) (x:Int):NRow (w.setCell ⟨b,i,none⟩ (.int .i64 x)) b M (fun j=>if j=i then x else f j):=
 (World.rowIs.set h i (.int .i64 x)).congr (fun j _=>by by_cases e:j=i<;>simp[e])
theorem NRow.congr {w:World} {b M:Nat} {f g:Nat→Int} (h:NRow w b M f) (e:∀ j,j < M→f j=g j):NRow w b M g:=World.rowIs.congr h (fun j hj=>by rw[e j hj])
theorem NRow.of_block {w w':World} {b M:Nat} {f:Nat→Int} (h:NRow w b M f) (e:w'.heap[b]?=w.heap[b]?):NRow w' b M f:=World.rowIs.of_block h e
theorem NRow.cell {w:World} {b M:Nat} {f:Nat→Int} (h:NRow w b M f) {i:Nat} (hi:i < M):w.cell? ⟨b,i,none⟩=some (.int .i64 (f i)):=World.rowIs.cell h hi
structure RCI (c:Nat) (W8 wr:World) (LN RB M i t:Nat) (P:Nat→Nat→Bool):Prop where
 row:wr.rowIs RB 4 M (fun j=>.bool (decide (i < j) && (decide (j < t) && P i j)))
 len:∃ z:Nat,NRow wr LN M (fun j=>if j=i then (z:Int) else if i+1≤j then (lf P M j:Int) else 0)∧1≤z∧z≤M∧max z (1+bestOf P i t (lensT P t (M-t)))=lf P M i
 kp:∀ b,b < RB→b≠LN→wr.heap[b]?=W8.heap[b]?
 bl:Below c W8 wr
theorem RCI.below {c:Nat} {W8 wr w':World} {LN RB M i t:Nat} {P:Nat→Nat→Bool} (h:RCI c W8 wr LN RB M i t P) (hb:Below wr.heap.size wr w') (hc:c≤wr.heap.size):RCI c W8 w' LN RB M i t P:=by
 obtain⟨z,h1,h2,h3,h4⟩:=h.len
 have hl:=h.row.lt
 exact⟨h.row.of_block (hb.block _ hl),⟨z,h1.of_block (hb.block _ (World.rowIs.lt h1)),h2,h3,h4⟩,fun b hb1 hb2=>(hb.block _ (by omega)).trans (h.kp b hb1 hb2),h.bl.trans (hb.mono hc)⟩
theorem RCI.row_set {c:Nat} {W8 wr:World} {LN RB M i t:Nat} {P:Nat→Nat→Bool} (h:RCI c W8 wr LN RB M i t P) (ht0:i+1≤t):(wr.setCell ⟨RB,t,none⟩ (.bool (P i t))).rowIs RB 4 M (fun j=>.bool (decide (i < j) && (decide (j < t+1) && P i j))):=
 (h.row.set t _).congr (fun j hj=>by
  by_cases e:j=t
  ·subst e
   rw[if_pos rfl,zDt (show i < j by omega),zDt (Nat.lt_succ_self j)];simp
  ·rw[if_neg e]
   by_cases e2:j < t
   ·rw[zDt e2,zDt (show j < t+1 by omega)]
   ·rw[zDf e2,zDf (show ¬ j < t+1 by omega)])
theorem RCI.no {c:Nat} {W8 wr:World} {LN RB M i t:Nat} {P:Nat→Nat→Bool} (h:RCI c W8 wr LN RB M i t P) (ht0:i+1≤t) (ht:t < M) (hp:P i t=false) (hc:c≤RB) (hL:LN < RB):RCI c W8 (wr.setCell ⟨RB,t,none⟩ (.bool false)) LN RB M i (t+1) P:=by
 have hr:=h.row_set ht0
 rw[hp] at hr
 obtain⟨z,h1,h2,h3,h4⟩:=h.len
 have h5:=best_step P ht h4
 rw[hp,if_neg (by simp),or_false] at h5
 refine⟨hr,⟨z,h1.of_block (Go.Deep.blk_setCell_other _ _ _ _ (by show LN≠RB;omega)),h2,h3,h5⟩,fun b hb1 hb2=>(Go.Deep.blk_setCell_other _ _ _ _ (by show b≠RB;omega)).trans (h.kp b hb1 hb2),h.bl.setCell (p:=⟨RB,t,none⟩) hc _⟩
theorem RCI.yes {c:Nat} {W8 wr:World} {LN RB M i t z:Nat} {P:Nat→Nat→Bool} (h:RCI c W8 wr LN RB M i t P) (ht0:i+1≤t) (ht:t < M) (hp:P i t=true) (hc:c≤LN) (hL:LN < RB)
  (h1:NRow wr LN M (fun j=>if j=i then (z:Int) else if i+1≤j then (lf P M j:Int) else 0)) (h2:1≤z) (h4:max z (1+bestOf P i t (lensT P t (M-t)))=lf P M i) {y:Nat} (hy:y=max z (1+lf P M t)):RCI c W8 ((wr.setCell ⟨RB,t,none⟩ (.bool true)).setCell ⟨LN,i,none⟩ (.int .i64 (y:Int))) LN RB M i (t+1) P:=by
 have hr:=h.row_set ht0
 rw[hp] at hr
 have h5:=best_step P ht h4
 rw[hp,if_pos rfl,or_false,←hy] at h5
 have hle:=(lf_le P (L:=M) (i:=i) (by omega)).2
 have h6:=(h1.of_block (w':=wr.setCell ⟨RB,t,none⟩ (.bool true)) (Go.Deep.blk_setCell_other _ _ _ _ (by show LN≠RB;omega))).set i (y:Int)
 refine⟨hr.of_block (Go.Deep.blk_setCell_other _ _ _ _ (by show RB≠LN;omega)),⟨y,h6.congr (fun j hj=>by by_cases e:j=i<;>simp[e]),by omega,by omega,h5⟩,fun b hb1 hb2=>(Go.Deep.blk_setCell_other _ _ _ _ (by exact hb2)).trans ((Go.Deep.blk_setCell_other _ _ _ _ (by show b≠RB;omega)).trans (h.kp b hb1 hb2)),?_⟩
 have g1:=h.bl.setCell (p:=⟨RB,t,none⟩) (by show c≤RB;omega) (.bool true)
 exact g1.setCell (p:=⟨LN,i,none⟩) hc _
theorem rchain_any (n:Int) (hn0:0≤n) (hn1:n≤1000) (p:Option Addr) (cap M:Nat) (l:List Rep) (hM:l.length=M) (hv:∀ r∈l,ValR r) (hL:M≤30) (w:World) (hV:VecR w p l) :
  Calls Tryz.prog 39 #[.slice p M cap,.int .i64 n] w fun e w'=>∃ v,e=.returned v∧QRow w' w.heap.size v (chainP (relP n l) M)∧Below w.heap.size w w':=by
 have HLN:=zN hM
 have HVR:=zN hv
 have HV:=zN hV
 have HCS:=zN (chain_same (relP n l) M)
 clear hM hv hV
 by_cases hM0:M=0
 ·subst hM0
  go_enter Tryz.func39,Tryz.ntmps39
  go_wp2
  go_ret
  exact⟨_,rfl,QRow.nil _ _,zBr _ _⟩
 by_cases hM1:M=1
 ·subst hM1
  clear hM0
  go_enter Tryz.func39,Tryz.ntmps39
  go_wp2
  go_ret
  refine⟨_,rfl,?_,(zBr _ _).alloc (Nat.le_refl _) _⟩
  rw[chain_one1]
  exact RX.own_new (heap_alloc_new _ _) rfl
 have hm0:((M:Int) == 0)=false:=by rw[beq_eq_false_iff_ne];omega
 have hm1:((M:Int) == 1)=false:=by rw[beq_eq_false_iff_ne];omega
 have hM2:2≤M:=by omega
 clear hM0 hM1
 obtain⟨P,hP⟩:∃ P,P=relP n l:=⟨_,rfl⟩
 rw[←hP] at HCS ⊢
 have HP:=zN hP
 clear hP
 go_enter Tryz.func39,Tryz.ntmps39
 go_wp2_with fail
 refine (raround8 w).mono ?_
 rintro e w1 ⟨N,rfl,hA,hN,hb1⟩
 obtain⟨T,hT⟩:∃ T,T=(nodesL 8).length:=⟨_,rfl⟩
 have HT:=zN hT
 rw[←hT] at hA ⊢
 have HA:=zN hA
 have HB1:=zN hb1
 have hNl:=hA.lt
 clear hT hA hN hb1
 have hmk:=run_make_row' (P:=Tryz.prog) 23 3 (.int .i64 0) 8 Tryz.underlying23 (by kernel_rfl) rfl .i64 .i64 M (by omega) (by omega)
 have hmk2:=run_make_row' (P:=Tryz.prog) 43 44 (.slice none 0 0) 24 Tryz.underlying43 (by kernel_rfl) rfl .i64 .i64 M (by omega) (by omega)
 go_wp2
 clear hmk hmk2
 obtain⟨LN,hLN⟩:∃ LN,LN=w1.heap.size:=⟨_,rfl⟩
 obtain⟨W2,hW2⟩:∃ W2,W2=w1.alloc (.cells (madeCells #[.int .i64 0] M) 3):=⟨_,rfl⟩
 have hs2:W2.heap.size=LN+1:=by rw[hW2,hLN];simp
 have n2:NRow W2 LN M (fun _=>0):=by rw[hW2,hLN];exact World.rowIs_made w1 (.int .i64 0) M 3
 have m3:=MatE.made W2 M P
 have b3:Below w1.heap.size w1 (W2.alloc (.cells (madeCells #[.slice none 0 0] M) 44)):=by
  rw[hW2];exact (((zBr w1.heap.size w1).alloc (Nat.le_refl _) _).alloc (by simp) _)
 have n3:NRow (W2.alloc (.cells (madeCells #[.slice none 0 0] M) 44)) LN M (fun _=>0):=n2.of_block (Go.Deep.blk_alloc_lt _ _ _ (by omega))
 rw[←hW2,←hLN]
 rw[hs2] at m3
 rw[←hLN] at b3
 generalize W2.alloc (.cells (madeCells #[.slice none 0 0] M) 44)=W3 at *
 have HLN2:=zN hLN
 have HM3:=zN m3
 have HN3:=zN (n3.congr (g:=fun j=>if M≤j then (lf P M j:Int) else 0) (fun j hj=>by rw[if_neg (by omega)]))
 have HB3:=zN b3
 have hLl:LN+1 < W3.heap.size:=m3.lt
 clear hW2 n2 m3 b3 n3 hLN hs2
 have hmk:=run_make_row' (P:=Tryz.prog) 44 4 (.bool false) 1 Tryz.underlying44 (by kernel_rfl) rfl .i64 .i64 M (by omega) (by omega)
 go_loopw [8,9] (fun v8 v9 wr=>∃ (k:Nat) (z:Int),k≤M∧z=(k:Int)-1∧v9=.int .i64 z∧v8=.int .i64 (mostOf (lensT P k (M-k)):Nat)∧NRow wr LN M (fun j=>if k≤j then (lf P M j:Int) else 0)∧MatE wr (LN+1) M P k∧Below LN w1 wr∧mostOf (lensT P k (M-k))≤M) (fun _ v9 _=>(intOf v9+1).toNat)
 case atStart=>exact⟨M,(M:Int)-1,Nat.le_refl _,rfl,rfl,by rw[most_end];rfl,HN3.out,HM3.out,HB3.out,by rw[most_end];omega⟩
 case round=>
  clear HN3 HM3 HB3
  obtain⟨k,z,hkM,hz,rfl,rfl,hn,hm,hb,hmo⟩:=hrel
  by_cases hk:0 < k
  ·obtain⟨i,rfl⟩:∃ i,k=i+1:=⟨k-1,by omega⟩
   obtain rfl:z=(i:Int):=by omega
   have hdk:decide ((i:Int)≥0)=true:=zDt (by omega)
   have hi0:(0:Int)≤(i:Int):=by omega
   have hi1:(i:Int) < (M:Int):=by omega
   obtain⟨mo,hmoe⟩:∃ mo,mo=mostOf (lensT P (i+1) (M-(i+1))):=⟨_,rfl⟩
   rw[←hmoe] at hmo ⊢
   have HMO:=zN hmoe
   obtain⟨vo,hvo⟩:=hm.cell (i:=i) (by omega)
   have hfo:=hm.soft i
   have cl:=hn.cell (i:=i) (by omega)
   have fl:=World.rowIs.frozen hn i
   have hwr:=hm.lt
   have hLw:LN < wr.heap.size:=by omega
   have hLe:¬ LN=wr.heap.size:=by omega
   have hLf:¬ LN+1=wr.heap.size:=by omega
   have HN:=zN hn
   have HM:=zN hm
   have HB:=zN hb
   clear hn hm hb hz hmoe
   go_wp2
   obtain⟨RB,hR⟩:∃ RB,RB=wr.heap.size:=⟨_,rfl⟩
   rw[←hR]
   obtain⟨W7,hW7⟩:∃ W7,W7=((wr.setCell ⟨LN+1,i,none⟩ (.slice (some ⟨RB,0,none⟩) M M)).setCell ⟨LN,i,none⟩ (.int .i64 1)).alloc (.cells (madeCells #[.bool false] M) 4):=⟨_,rfl⟩
   rw[←hW7]
   have r1:W7.rowIs RB 4 M (fun _=>.bool false):=by
    have:=World.rowIs_made ((wr.setCell ⟨LN+1,i,none⟩ (.slice (some ⟨RB,0,none⟩) M M)).setCell ⟨LN,i,none⟩ (.int .i64 1)) (.bool false) M 4
    have e:((wr.setCell ⟨LN+1,i,none⟩ (.slice (some ⟨RB,0,none⟩) M M)).setCell ⟨LN,i,none⟩ (.int .i64 1)).heap.size=RB:=by rw[hR];simp
    rw[e] at this
    rw[hW7]
    exact this
   have r2:W7.heap[LN+1]?=(wr.setCell ⟨LN+1,i,none⟩ (.slice (some ⟨RB,0,none⟩) M M)).heap[LN+1]?:=by
    rw[hW7,Go.Deep.blk_alloc_lt _ _ _ (by simp;omega)]
    exact Go.Deep.blk_setCell_other _ _ _ _ (by show LN+1≠LN;omega)
   have r3:∀ b,b < wr.heap.size→b≠LN+1→b≠LN→W7.heap[b]?=wr.heap[b]?:=fun b hb hne hne2=>by
    rw[hW7,Go.Deep.blk_alloc_lt _ _ _ (by simp;omega)]
    exact (Go.Deep.blk_setCell_other _ _ _ _ (by exact hne2)).trans (Go.Deep.blk_setCell_other _ _ _ _ (by exact hne))
   have r4:Below LN w1 W7:=by
    rw[hW7]
    have h1:=HB.out.setCell (p:=⟨LN+1,i,none⟩) (by show LN≤LN+1;omega) (.slice (some ⟨RB,0,none⟩) M M)
    have h2:=h1.setCell (p:=⟨LN,i,none⟩) (Nat.le_refl _) (.int .i64 1)
    exact h2.alloc (by simp;omega) _
   have r5:W7.cell? ⟨LN+1,i,none⟩=some (.slice (some ⟨RB,0,none⟩) M M):=by
    rw[World.cell?_of_block (a:=⟨LN+1,i,none⟩) r2]
    exact zL _ _ _ (by rw[hvo];rfl)
   have r6:RB < W7.heap.size:=r1.lt
   have r7:NRow W7 LN M (fun j=>if j=i then (1:Int) else if i+1≤j then (lf P M j:Int) else 0):=by
    have h1:NRow (wr.setCell ⟨LN+1,i,none⟩ (.slice (some ⟨RB,0,none⟩) M M)) LN M _:=HN.out.of_block (Go.Deep.blk_setCell_other _ _ _ _ (by show LN≠LN+1;omega))
    have h2:=h1.set i 1
    rw[hW7]
    exact h2.of_block (Go.Deep.blk_alloc_lt _ _ _ (by simp;omega))
   have HI:Hid (RCI LN W7 W7 LN RB M i (i+1) P):=zN ⟨r1.congr (fun j hj=>by
    by_cases h:i < j
    ·rw[zDf (show ¬ j < i+1 by omega)];simp
    ·rw[zDf h];simp),⟨1,r7,Nat.le_refl _,by omega,best_start P⟩,fun _ _ _=>rfl,zBr _ _⟩
   have HR2:=zN r2
   have HR3:=zN r3
   have HR4:=zN r4
   have HR:=zN hR
   clear hvo hfo cl fl r1 r2 r3 r4 r7 hR hW7 hLw hLe hLf
   have hNR:LN+1 < RB:=by have:=HR.out;omega
   generalize wr=W8 at *
   go_loopw [10] (fun v10 wr=>∃ t:Nat,i+1≤t∧t≤M∧v10=.int .i64 (t:Int)∧RCI LN W7 wr LN RB M i t P) (fun v10 _=>M-(intOf v10).toNat)
   case atStart=>exact⟨i+1,Nat.le_refl _,by omega,by go_num,HI.out⟩
   case round=>
    clear HI
    obtain⟨t,ht0,htM,rfl,hci⟩:=hrel
    by_cases ht:t < M
    ·have hdt:decide ((t:Int) < (M:Int))=true:=zDt (by omega)
     have ht1:(0:Int)≤(t:Int):=by omega
     have ht2:(t:Int) < (M:Int):=by omega
     have c1:=hci.row.cell ht
     try dsimp only at c1
     have f1:=hci.row.frozen t
     have b1:wr.cell? ⟨LN+1,i,none⟩=some (.slice (some ⟨RB,0,none⟩) M M):=(World.cell?_of_block (a:=⟨LN+1,i,none⟩) (hci.kp (LN+1) hNR (by omega))).trans r5
     have hBw:Below LN w1 wr:=HR4.out.trans hci.bl
     have hV:=HV.out.below (HB1.out.trans (hBw.mono (by have:=HB1.out.size;have:=HLN2.out;omega)))
     have hA:=HA.out.below (hBw.mono (by have:=HLN2.out;omega))
     obtain⟨bb,o,rfl,hbbl,hrp⟩:=hV.cell (by rw[HLN.out];omega)
     have hri:=hrp i (by rw[HLN.out];omega)
     have hrj:=hrp t (by rw[HLN.out];omega)
     have hvi:=HVR.out _ (List.getElem_mem (by rw[HLN.out];omega:i < l.length))
     have hvj:=HVR.out _ (List.getElem_mem (by rw[HLN.out];omega:t < l.length))
     have hpe:Hid (plB n (l[i]'(by rw[HLN.out];omega)) (l[t]'(by rw[HLN.out];omega))=P i t):=zN (by rw[HP.out,relP_eq])
     generalize l[i]'(by rw[HLN.out];omega)=ri at hri hpe hvi
     generalize l[t]'(by rw[HLN.out];omega)=rj at hrj hpe hvj
     have HRD:Hid (RdOk ri∧RdOk rj∧ValR ri∧ValR rj):=zN ⟨hri.rd,hrj.rd,hvi,hvj⟩
     have HCI:=zN hci
     have HAR:=zN hA
     have hlr:=hci.row.lt
     have hSS:RptAt wr.drew bb (o+i*8) ri∧RptAt wr.drew bb (o+t*8) rj∧wr.drew.cell? ⟨LN+1,i,none⟩=some (.slice (some ⟨RB,0,none⟩) M M):=⟨hri.of_block rfl,hrj.of_block rfl,b1⟩
     clear hrp hri hrj hvi hvj b1 hV hA hci hBw c1 f1
     go_wp2_with fail
     refine RY.region RX.fN (fun w'=>RptAt w' bb (o+i*8) ri∧RptAt w' bb (o+t*8) rj∧w'.cell? ⟨LN+1,i,none⟩=some (.slice (some ⟨RB,0,none⟩) M M)) (by kernel_rfl) (by kernel_rfl) (hSS) (fun OPS HO QR hQR=>?_)
     repeat (refine zeY (fun R hR=>?_);(first|refine zaY (by first|rfl|(rw[HO.out];rfl)) (by simp only[zA,zB,zC,zD];rfl) ?_|refine zbY (by first|rfl|(rw[HO.out];rfl)) rfl (by first|exact .inl rfl|exact .inr rfl) (by simp only[zE,zF,zG,zH];rfl) (by simp only[zA,zB,zC,zD];rfl) ?_|refine zcY (by first|rfl|(rw[HO.out];rfl)) rfl rfl (by simp only[zE,zF,zG,zH];rfl) (by simp only[zA,zB,zC,zD];rfl) ?_|(refine zdY (by first|rfl|(rw[HO.out];rfl)) rfl rfl rfl ?_;apply zEx;apply zEx;refine⟨fun w' hS K hK=>?_,?_,?_⟩;(focus (obtain⟨⟨x0,x1,x2,x3,x4,x5,x6,x7,_⟩,⟨y0,y1,y2,y3,y4,y5,y6,y7,_⟩,s2⟩:=hS;go_wp2;exact hK _ _ (by simp only[zl,zG,zH];first|exact zf (by omega)|exact zg (by omega)|exact zh (by omega)|exact zi (by omega)|exact zj (by omega)|exact zk (by omega)|exact RX.bneB _|rfl) rfl));(focus (simp only[zA,zB,zC,zD];rfl))));refine hR _ _ ?_;clear hR R)
     refine zeY (fun R hR=>?_)
     refine zgY (by first|rfl|(rw[HO.out];rfl)) rfl (fun K hK=>?_)
     go_wp2_with fail
     have HAT:Hid (AroAt wr.drew N (nodesL 8).length (nextL 8)):=zN (by rw[←HT.out];exact HAR.out.below (zBd (zBr _ _)))
     have HRC:=zN (rplaus_any N n hn0 hn1 ri rj HRD.out.1 HRD.out.2.1 HRD.out.2.2.1 HRD.out.2.2.2 wr.drew HAT.out)
     rw[←HT.out] at HRC
     refine HRC.out.mono ?_
     rintro e w3 ⟨rfl,hb3⟩
     rw[hpe.out]
     have hb3':Below wr.heap.size wr w3:=(zBd (zBr _ _)).trans hb3
     have hci3:RCI LN W7 w3 LN RB M i t P:=HCI.out.below hb3' (by omega)
     have hSS3:RptAt w3 bb (o+i*8) ri∧RptAt w3 bb (o+t*8) rj∧w3.cell? ⟨LN+1,i,none⟩=some (.slice (some ⟨RB,0,none⟩) M M):=⟨hSS.1.below hb3,hSS.2.1.below hb3,zP hb3 hSS.2.2⟩
     have c3:=hci3.row.cell ht
     try dsimp only at c3
     have f3:=hci3.row.frozen t
     have hl3:=hci3.row.lt
     have HB1i:Hid (w3.cell? ⟨LN+1,i,none⟩=some (.slice (some ⟨RB,0,none⟩) M M)):=zN hSS3.2.2
     have HCI3:=zN hci3
     clear hb3 hb3' hci3 hSS HRC
     cases hPP:P i t
     ·have HN2:=zN (HCI3.out.no ht0 ht hPP (by omega) (by omega))
      have b2:(w3.setCell ⟨RB,t,none⟩ (.bool false)).cell? ⟨LN+1,i,none⟩=some (.slice (some ⟨RB,0,none⟩) M M):=(World.cell?_of_block (a:=⟨LN+1,i,none⟩) (Go.Deep.blk_setCell_other _ _ _ _ (by show LN+1≠RB;omega))).trans HB1i.out
      have c4:(w3.setCell ⟨RB,t,none⟩ (.bool false)).cell? ⟨RB,t,none⟩=some (.bool false):=zL _ _ _ (by rw[c3];rfl)
      refine hK _ _ ⟨.inr (hSS3),hR _ _ ?_⟩;clear hK K hR R
      repeat (refine zeY (fun R hR=>?_);(first|refine zaY (by first|rfl|(rw[HO.out];rfl)) (by simp only[zA,zB,zC,zD];rfl) ?_|refine zbY (by first|rfl|(rw[HO.out];rfl)) rfl (by first|exact .inl rfl|exact .inr rfl) (by simp only[zE,zF,zG,zH];rfl) (by simp only[zA,zB,zC,zD];rfl) ?_|refine zcY (by first|rfl|(rw[HO.out];rfl)) rfl rfl (by simp only[zE,zF,zG,zH];rfl) (by simp only[zA,zB,zC,zD];rfl) ?_|(refine zdY (by first|rfl|(rw[HO.out];rfl)) rfl rfl rfl ?_;apply zEx;apply zEx;refine⟨fun w' hS K hK=>?_,?_,?_⟩;(focus (obtain⟨⟨x0,x1,x2,x3,x4,x5,x6,x7,_⟩,⟨y0,y1,y2,y3,y4,y5,y6,y7,_⟩,s2⟩:=hS;go_wp2;exact hK _ _ (by simp only[zl,zG,zH];first|exact zf (by omega)|exact zg (by omega)|exact zh (by omega)|exact zi (by omega)|exact zj (by omega)|exact zk (by omega)|exact RX.bneB _|rfl) rfl));(focus (simp only[zA,zB,zC,zD];rfl))));refine hR _ _ ?_;clear hR R)
      refine zeY (fun R hR=>?_)
      refine zgY (by first|rfl|(rw[HO.out];rfl)) rfl (fun K hK=>?_)
      go_wp2
      first|refine⟨(by first|exact .inl rfl|exact .inl trivial|trivial),hR _ _ (RY.wpL_nil (hQR _ _ ?_))⟩|refine hR _ _ (RY.wpL_nil (hQR _ _ ?_))|refine hQR _ _ ?_
      (try clear hR);(try clear R);clear hQR QR HO OPS
      go_wp2
      go_roundw
      case rel=>exact⟨t+1,by omega,by omega,by go_num,HN2.out⟩
      case measure=>simp[intOf]<;>omega
     ·obtain⟨z,hz1,hz2,hz3,hz4⟩:=HCI3.out.len
      obtain⟨y,hy⟩:∃ y,y=max z (1+lf P M t):=⟨_,rfl⟩
      have HYY:=zN (HCI3.out.yes ht0 ht hPP (Nat.le_refl _) (by omega) hz1 hz2 hz4 hy)
      have b2:(w3.setCell ⟨RB,t,none⟩ (.bool true)).cell? ⟨LN+1,i,none⟩=some (.slice (some ⟨RB,0,none⟩) M M):=(World.cell?_of_block (a:=⟨LN+1,i,none⟩) (Go.Deep.blk_setCell_other _ _ _ _ (by show LN+1≠RB;omega))).trans HB1i.out
      have c4:(w3.setCell ⟨RB,t,none⟩ (.bool true)).cell? ⟨RB,t,none⟩=some (.bool true):=zL _ _ _ (by rw[c3];rfl)
      have hn2:NRow (w3.setCell ⟨RB,t,none⟩ (.bool true)) LN M _:=hz1.of_block (Go.Deep.blk_setCell_other _ _ _ _ (by show LN≠RB;omega))
      have l1:=hn2.cell (i:=i) (by omega)
      have l2:=hn2.cell (i:=t) ht
      rw[if_pos rfl] at l1
      rw[if_neg (by omega),if_pos ht0] at l2
      have l3:=World.rowIs.frozen hn2 i
      have hq:=lf_le P (L:=M) (i:=t) ht
      generalize lf P M t=q at hy l2 hq
      obtain⟨hq1,hq2⟩:=hq
      have hSS4:(w3.setCell ⟨RB,t,none⟩ (.bool true)).drew.cell? ⟨LN,i,none⟩=some (.int .i64 (z:Int))∧(w3.setCell ⟨RB,t,none⟩ (.bool true)).drew.cell? ⟨LN,t,none⟩=some (.int .i64 (q:Int))∧(w3.setCell ⟨RB,t,none⟩ (.bool true)).drew.frozen? ⟨LN,i,none⟩=false:=⟨l1,l2,l3⟩
      clear hz1 hz4 hn2 l1 l2 l3
      have hyz:z≤y:=by omega
      have hyi:((y:Nat):Int)=max (z:Int) (1+(q:Int)):=by omega
      rw[hyi] at HYY
      clear hy hyz hyi
      refine hK _ _ ⟨.inr (hSS3),hR _ _ ?_⟩;clear hK K hR R
      repeat (refine zeY (fun R hR=>?_);(first|refine zaY (by first|rfl|(rw[HO.out];rfl)) (by simp only[zA,zB,zC,zD];rfl) ?_|refine zbY (by first|rfl|(rw[HO.out];rfl)) rfl (by first|exact .inl rfl|exact .inr rfl) (by simp only[zE,zF,zG,zH];rfl) (by simp only[zA,zB,zC,zD];rfl) ?_|refine zcY (by first|rfl|(rw[HO.out];rfl)) rfl rfl (by simp only[zE,zF,zG,zH];rfl) (by simp only[zA,zB,zC,zD];rfl) ?_|(refine zdY (by first|rfl|(rw[HO.out];rfl)) rfl rfl rfl ?_;apply zEx;apply zEx;refine⟨fun w' hS K hK=>?_,?_,?_⟩;(focus (obtain⟨⟨x0,x1,x2,x3,x4,x5,x6,x7,_⟩,⟨y0,y1,y2,y3,y4,y5,y6,y7,_⟩,s2⟩:=hS;go_wp2;exact hK _ _ (by simp only[zl,zG,zH];first|exact zf (by omega)|exact zg (by omega)|exact zh (by omega)|exact zi (by omega)|exact zj (by omega)|exact zk (by omega)|exact RX.bneB _|rfl) rfl));(focus (simp only[zA,zB,zC,zD];rfl))));refine hR _ _ ?_;clear hR R)
      refine zeY (fun R hR=>?_)
      refine zgY (by first|rfl|(rw[HO.out];rfl)) rfl (fun K hK=>?_)
      go_wp2
      first|refine⟨(by first|exact .inl rfl|exact .inl trivial|trivial),hR _ _ (RY.wpL_nil (hQR _ _ ?_))⟩|refine hR _ _ (RY.wpL_nil (hQR _ _ ?_))|refine hQR _ _ ?_
      (try clear hR);(try clear R);clear hQR QR HO OPS
      go_wp2_with fail
      refine RY.region RX.fN (fun w'=>w'.cell? ⟨LN,i,none⟩=some (.int .i64 (z:Int))∧w'.cell? ⟨LN,t,none⟩=some (.int .i64 (q:Int))∧w'.frozen? ⟨LN,i,none⟩=false) (by kernel_rfl) (by kernel_rfl) (hSS4) (fun OPS HO QR hQR=>?_)
      repeat (refine zeY (fun R hR=>?_);(first|refine zaY (by first|rfl|(rw[HO.out];rfl)) (by simp only[zA,zB,zC,zD];rfl) ?_|refine zbY (by first|rfl|(rw[HO.out];rfl)) rfl (by first|exact .inl rfl|exact .inr rfl) (by simp only[zE,zF,zG,zH];rfl) (by simp only[zA,zB,zC,zD];rfl) ?_|refine zcY (by first|rfl|(rw[HO.out];rfl)) rfl rfl (by simp only[zE,zF,zG,zH];rfl) (by simp only[zA,zB,zC,zD];rfl) ?_|(refine zdY (by first|rfl|(rw[HO.out];rfl)) rfl rfl rfl ?_;apply zEx;apply zEx;refine⟨fun w' hS K hK=>?_,?_,?_⟩;(focus (obtain⟨l1,l2,l3⟩:=hS;go_wp2;exact hK _ _ (by simp only[zl,zG,zH];first|exact zf (by omega)|exact zg (by omega)|exact zh (by omega)|exact zi (by omega)|exact zj (by omega)|exact zk (by omega)|exact RX.bneB _|rfl) rfl));(focus (simp only[zA,zB,zC,zD];rfl))));refine hR _ _ ?_;clear hR R)
      refine zeY (fun R hR=>?_)
      refine zgY (by first|rfl|(rw[HO.out];rfl)) rfl (fun K hK=>?_)
      go_wp2
      first|refine⟨(by first|exact .inl rfl|exact .inl trivial|trivial),hR _ _ (RY.wpL_nil (hQR _ _ ?_))⟩|refine hR _ _ (RY.wpL_nil (hQR _ _ ?_))|refine hQR _ _ ?_
      (try clear hR);(try clear R);clear hQR QR HO OPS
      have HYD:=zN (HYY.out.below (zBd (zBr _ _)) (by simp;omega))
      clear HYY
      go_wp2
      go_roundw
      case rel=>exact⟨t+1,by omega,by omega,by go_num,HYD.out⟩
      case measure=>simp[intOf]<;>omega
    ·have hdt:decide ((t:Int) < (M:Int))=false:=zDf (by omega)
     have htM':t=M:=by omega
     subst htM'
     obtain⟨z,hz1,hz2,hz3,hz4⟩:=hci.len
     have hzf:=best_end P hz2 hz4
     have hA2:MatE wr (LN+1) t P i:=HM.out.step (R:=RB) (L:=LN) ((hci.kp (LN+1) hNR (by omega)).trans HR2.out) (fun b h1 h2 h3=>(hci.kp b (by rw[HR.out];exact h1) h3).trans (HR3.out b h1 h2 h3)) (hci.row.congr (fun j hj=>by
      rw[zDt (show j < t by omega)];simp)) ⟨_,HN.out⟩
     have hN2:NRow wr LN t (fun j=>if i≤j then (lf P t j:Int) else 0):=hz1.congr (fun j hj=>by
      by_cases e:j=i
      ·subst e;rw[if_pos rfl,if_pos (Nat.le_refl _),hzf]
      ·rw[if_neg e]
       by_cases e2:i+1≤j
       ·rw[if_pos e2,if_pos (by omega)]
       ·rw[if_neg e2,if_neg (by omega)])
     have l1:=hN2.cell (i:=i) (by omega)
     rw[if_pos (Nat.le_refl _)] at l1
     have hms:=most_step P (M:=t) (i:=i) (by omega)
     rw[←HMO.out] at hms
     have hq:=lf_le P (L:=t) (i:=i) (by omega)
     generalize lf P t i=q at l1 hms hq
     have hmi:((mostOf (lensT P i (t-i)):Nat):Int)=max (mo:Int) (q:Int):=by omega
     have hml:mostOf (lensT P i (t-i))≤t:=by omega
     have HMI:=zN (And.intro hmi hml)
     have HA2:=zN hA2
     have HN2:=zN hN2
     have HB2:=zN (HR4.out.trans hci.bl)
     clear hmi hml hms hA2 hN2 hz1 hz4 hzf hci hq
     go_wp2
     exact⟨⟨i,(i:Int)-1,by omega,rfl,rfl,by rw[HMI.out.1],HN2.out,HA2.out,HB2.out,HMI.out.2⟩,by simp[intOf]<;>omega⟩
  ·have hk0:k=0:=by omega
   subst hk0
   have hz1:z=-1:=by omega
   subst hz1
   have hdk:decide ((-1:Int)≥0)=false:=rfl
   obtain⟨mo,hmoe⟩:∃ mo,mo=mostOf (lensT P 0 (M-0)):=⟨_,rfl⟩
   rw[←hmoe] at hmo ⊢
   have HG0:Hid ([] ++ greedy P none mo 0 (lensT P 0 (M-0))=chainP P M):=zN (by rw[List.nil_append,hmoe,HCS.out];rfl)
   have HN:=zN hn
   have HM:=zN hm
   have HB:=zN hb
   have hNBl:=hm.lt
   clear hn hm hb hz hmoe hkM hk
   go_wp2
   generalize wr=W9 at *
   go_loopw [8,11,12,13] (fun v8 v11 v12 v13 wr=>∃ (k:Nat) (D:List Nat) (last:Option Nat) (most:Nat),k≤M∧v13=.int .i64 (k:Int)∧v8=.int .i64 (most:Int)∧v12=.int .i64 (optI last)∧QRow wr W9.heap.size v11 D∧D.length≤k∧(∀ j,last=some j→j < k)∧D ++ greedy P last most k (lensT P k (M-k))=chainP P M∧Below W9.heap.size W9 wr∧most≤M) (fun _ _ _ v13 _=>M-(intOf v13).toNat)
   case atStart=>exact⟨0,[],none,mo,by omega,rfl,rfl,rfl,QRow.nil _ _,Nat.le_refl _,(fun j hj=>by cases hj),HG0.out,zBr _ _,hmo⟩
   case round=>
    clear HG0 hmo
    obtain⟨k,D,last,most,hkM,rfl,rfl,rfl,hq,hDk,hlast,hgr,hb,hmo⟩:=hrel
    obtain⟨pd,cd,rfl,hcd⟩:=own_slice hq
    have hwr:=hb.size
    by_cases hk:k < M
    ·have hdk2:decide ((k:Int) < (M:Int))=true:=zDt (by omega)
     have hk0:(0:Int)≤(k:Int):=by omega
     have hk1:(k:Int) < (M:Int):=by omega
     have hD30:D.length≤30:=by omega
     have l1:=(HN.out.of_block (hb.block _ (by omega))).cell hk
     rw[if_pos (Nat.zero_le _)] at l1
     have hgs:=greedy_step P last most hk
     have hqb:=lf_le P (L:=M) (i:=k) hk
     generalize lf P M k=qq at l1 hgs hqb
     obtain⟨hqb1,hqb2⟩:=hqb
     by_cases hqm:qq=most
     ·have hqd:((qq:Int) == (most:Int))=true:=by rw[beq_iff_eq];omega
      cases last with
      |none=>
       rw[if_pos ⟨hqm,rfl⟩] at hgs
       have HGR:Hid ((D ++ [k]) ++ greedy P (some k) (most-1) (k+1) (lensT P (k+1) (M-(k+1)))=chainP P M):=zN (by rw[←hgr,hgs,List.append_assoc];rfl)
       have hop:optI none=-1:=rfl
       rw[hop]
       clear hgs hgr hlast hop
       have hown:(wr.alloc (.cells #[.int .i64 (k:Int)] 3)).ownsRow W9.heap.size 3 1 (.slice pd D.length cd) D.length (qV D):=World.ownsRow.alloc hq _
       have HB:=zN hb
       clear hq hb hcd
       go_wp2_with (refine RX.wpl_apq (by rfl) elIn _ _ (by rfl) W9.heap.size _ _ _ hown (by rfl) wr.heap.size _ 1 (by rfl) (heap_alloc_new _ _) (by rfl) (by simp[Value.oneCell']) (by omega) (by omega) (by simp;omega) ?_;intro v' w2' hown2 hb2 hg2 hat2)
       have HQ2:Hid (QRow w2' W9.heap.size v' (D ++ [k])):=zN (QRow.snoc hown2)
       have HB2:Hid (Below W9.heap.size W9 w2'):=zN ((HB.out.alloc hwr _).trans hb2)
       clear hown2 hb2 hg2 hat2 hown
       go_wp2
       go_roundw
       case rel=>exact⟨k+1,D ++ [k],some k,most-1,by omega,by go_num,(by rw[show ((most-1:Nat):Int)=(most:Int)-1 by omega]),rfl,HQ2.out,by simp<;>omega,(fun j hj=>by injection hj with hj;omega),HGR.out,HB2.out,by omega⟩
       case measure=>simp[intOf]<;>omega
      |some j=>
       have hjk:=hlast j rfl
       obtain⟨R,m1,m2⟩:=(HM.out.below (hb.mono (by omega))).row (i:=j) (Nat.zero_le _) (by omega)
       have m3:=m2 k hk
       rw[zDt hjk,Bool.true_and] at m3
       have hop:optI (some j)=(j:Int):=rfl
       rw[hop]
       have hj0:(0:Int)≤(j:Int):=by omega
       have hj1:(j:Int) < (M:Int):=by omega
       cases hPj:P j k
       ·rw[hPj] at m3
        rw[if_neg (fun h=>by have h2:=h.2;simp only[Option.elim] at h2;rw[hPj] at h2;cases h2)] at hgs
        have HGR:Hid (D ++ greedy P (some j) most (k+1) (lensT P (k+1) (M-(k+1)))=chainP P M):=zN (by rw[←hgr,hgs])
        have HQ:=zN hq
        have HB:=zN hb
        clear hgs hgr hop m2 hq hb hcd
        go_wp2
        go_roundw
        case rel=>exact⟨k+1,D,some j,most,by omega,by go_num,rfl,rfl,HQ.out,by omega,(fun j' hj'=>by injection hj' with hj';omega),HGR.out,HB.out,hmo⟩
        case measure=>simp[intOf]<;>omega
       ·rw[hPj] at m3
        rw[if_pos ⟨hqm,by simp only[Option.elim];exact hPj⟩] at hgs
        have HGR:Hid ((D ++ [k]) ++ greedy P (some k) (most-1) (k+1) (lensT P (k+1) (M-(k+1)))=chainP P M):=zN (by rw[←hgr,hgs,List.append_assoc];rfl)
        clear hgs hgr hlast hop m2
        have hown:(wr.alloc (.cells #[.int .i64 (k:Int)] 3)).ownsRow W9.heap.size 3 1 (.slice pd D.length cd) D.length (qV D):=World.ownsRow.alloc hq _
        have HB:=zN hb
        clear hq hb hcd
        go_wp2_with (refine RX.wpl_apq (by rfl) elIn _ _ (by rfl) W9.heap.size _ _ _ hown (by rfl) wr.heap.size _ 1 (by rfl) (heap_alloc_new _ _) (by rfl) (by simp[Value.oneCell']) (by omega) (by omega) (by simp;omega) ?_;intro v' w2' hown2 hb2 hg2 hat2)
        have HQ2:Hid (QRow w2' W9.heap.size v' (D ++ [k])):=zN (QRow.snoc hown2)
        have HB2:Hid (Below W9.heap.size W9 w2'):=zN ((HB.out.alloc hwr _).trans hb2)
        clear hown2 hb2 hg2 hat2 hown
        go_wp2
        go_roundw
        case rel=>exact⟨k+1,D ++ [k],some k,most-1,by omega,by go_num,(by rw[show ((most-1:Nat):Int)=(most:Int)-1 by omega]),rfl,HQ2.out,by simp<;>omega,(fun j hj=>by injection hj with hj;omega),HGR.out,HB2.out,by omega⟩
        case measure=>simp[intOf]<;>omega
     ·have hqd:((qq:Int) == (most:Int))=false:=by rw[beq_eq_false_iff_ne];omega
      rw[if_neg (fun h=>hqm h.1)] at hgs
      have HGR:Hid (D ++ greedy P last most (k+1) (lensT P (k+1) (M-(k+1)))=chainP P M):=zN (by rw[←hgr,hgs])
      have HQ:=zN hq
      have HB:=zN hb
      have HLA:=zN hlast
      clear hgs hgr hq hb hcd hlast
      go_wp2
      go_roundw
      case rel=>exact⟨k+1,D,last,most,by omega,by go_num,rfl,rfl,HQ.out,by omega,fun j' hj'=>Nat.lt_succ_of_lt (HLA.out j' hj'),HGR.out,HB.out,hmo⟩
      case measure=>simp[intOf]<;>omega
    ·have hdk2:decide ((k:Int) < (M:Int))=false:=zDf (by omega)
     have hkM':k=M:=by omega
     rw[hkM',greedy_end,List.append_nil] at hgr
     have HQ:=zN hq
     have HGR:=zN hgr
     have hBf:Below w.heap.size w wr:=HB1.out.trans ((HB.out.trans (hb.mono (by omega))).mono (by have:=HB1.out.size;have:=HLN2.out;omega))
     have HBF:=zN hBf
     have hws:w.heap.size≤W9.heap.size:=by
      have h1:=HB1.out.size
      have h2:=HLN2.out
      omega
     clear hkM' hgr hq hb hBf hlast
     go_wp2
     go_ret
     refine⟨_,rfl,?_,HBF.out⟩
     rw[←HGR.out]
     exact own_mono HQ.out hws
theorem rChain_any (n:Int) (p:Option Addr) (cap:Nat) (l:List Rep) (hL:l.length≤30) (w:World) (hV:VecR w p l) :
  Calls Tryz.prog 15 #[.slice p l.length cap,.int .i64 n] w fun e w'=>∃ v,e=.returned (.tuple #[v,.int .i64 (chE n l)])∧QRow w' w.heap.size v (chL n l)∧Below w.heap.size w w':=by
 obtain⟨M,hM⟩:∃ M,M=l.length:=⟨_,rfl⟩
 have HM:=zN hM
 rw[←hM] at hL ⊢
 have hd:decide ((M:Int) > 30)=false:=zDf (by omega)
 have HV:=zN hV
 have hB0:=zN (zBr w.heap.size w)
 clear hM hV
 by_cases hh:0≤n∧n≤1000
 rotate_left
 ·obtain⟨e1,e2⟩:=chE_no (n:=n) (l:=l) (fun e=>hh (of_decide_eq_true e.1))
  have HE:=zN (And.intro e1 e2)
  clear e1 e2
  by_cases h0:n < 0
  ·clear hh
   go_enter Tryz.func15,Tryz.ntmps15
   go_wp2
   go_ret2
   refine⟨.slice none 0 0,?_,?_,hB0.out⟩
   ·rw[HE.out.1];rfl
   ·rw[HE.out.2];exact QRow.nil _ _
  ·have h1:1000 < n:=by omega
   have h2:0≤n:=by omega
   clear hh h0
   go_enter Tryz.func15,Tryz.ntmps15
   go_wp2
   go_ret2
   refine⟨.slice none 0 0,?_,?_,hB0.out⟩
   ·rw[HE.out.1];rfl
   ·rw[HE.out.2];exact QRow.nil _ _
 obtain⟨hn0,hn1⟩:=hh
 have HH:Hid (hopB n=true):=zN (zDt ⟨hn0,hn1⟩)
 go_enter Tryz.func15,Tryz.ntmps15
 go_wp2
 go_loopw [6] (fun v6 wr=>∃ i:Nat,i≤M∧v6=.int .i64 (i:Int)∧Hid (∀ j (h:j < l.length),j < i→ValR l[j])∧Below w.heap.size w wr) (fun v6 _=>M-(intOf v6).toNat)
 case atStart=>exact⟨0,by omega,rfl,zN (fun j _ h=>by omega),hB0.out⟩
 case round=>
  obtain⟨i,hiM,rfl,HI,hb⟩:=hrel
  by_cases hi:i < M
  ·have hdi:decide ((i:Int) < (M:Int))=true:=zDt (by omega)
   have hi0:(0:Int)≤(i:Int):=by omega
   have hi1:(i:Int) < (M:Int):=by omega
   obtain⟨bb,o,rfl,_,hrp⟩:=(HV.out.below hb).cell (by rw[←HM.out];omega)
   have hri:=hrp i (by rw[←HM.out];omega)
   obtain⟨r,hr⟩:∃ r,r=l[i]'(by rw[←HM.out];omega):=⟨_,rfl⟩
   rw[←hr] at hri
   have HR:=zN hr
   have hrd:=hri.rd
   obtain⟨x0,x1,x2,x3,x4,x5,x6,x7,_⟩:=hri
   have HB:=zN hb
   clear hrp hr hb
   go_wp2_with fail
   refine (rvalid12_any r hrd _).mono ?_
   rintro e w2 ⟨rfl,hb2⟩
   have HB2:=zN (HB.out.trans (hb2.mono HB.out.size))
   clear hb2 x0 x1 x2 x3 x4 x5 x6 x7 hrd
   by_cases hv:ValR r
   ·rw[zDt hv]
    have HVR:=zN hv
    clear hv
    go_wp2
    go_roundw
    case rel=>exact⟨i+1,by omega,by go_num,zN (fun j hj hji=>by
     by_cases e:j=i
     ·subst e;rw[←HR.out];exact HVR.out
     ·exact HI.out j hj (by omega)),HB2.out⟩
    case measure=>simp[intOf]<;>omega
   ·rw[zDf hv]
    obtain⟨e1,e2⟩:=chE_no (n:=n) (l:=l) (fun e=>hv (by rw[HR.out];exact e.2 _ (List.getElem_mem _)))
    have HE:=zN (And.intro e1 e2)
    clear e1 e2 hv
    go_wp2
    go_ret2
    refine⟨.slice none 0 0,?_,?_,HB2.out⟩
    ·rw[HE.out.1];rfl
    ·rw[HE.out.2];exact QRow.nil _ _
  ·have hdi:decide ((i:Int) < (M:Int))=false:=zDf (by omega)
   have HVL:Hid (AllV l):=zN (fun r hr=>by
    obtain⟨j,hj,rfl⟩:=List.getElem_of_mem hr
    exact HI.out j hj (by have:=HM.out;omega))
   have HB1:=zN hb
   clear hb HI
   go_wp2
   generalize wr=W1 at *
   go_loopw [7] (fun v7 wx=>∃ (k:Nat),1≤k∧(k≤M∨k=1)∧v7=.int .i64 (k:Int)∧Hid (∀ i (hi:i+1 < l.length),i+1 < k→l[i].time < l[i+1].time)∧Below w.heap.size w wx) (fun v7 _=>M-(intOf v7).toNat)
   case atStart=>exact⟨1,Nat.le_refl _,.inr rfl,rfl,zN (fun i hi h=>by omega),HB1.out⟩
   case round=>
    obtain⟨k,hk1,hkM,rfl,HI,hb⟩:=hrel
    by_cases hk:k < M
    ·have hdk:decide ((k:Int) < (M:Int))=true:=zDt (by omega)
     obtain⟨i,rfl⟩:∃ i,k=i+1:=⟨k-1,by omega⟩
     obtain⟨bb,o,rfl,_,hrp⟩:=(HV.out.below hb).cell (by rw[←HM.out];omega)
     have hri:=hrp i (by rw[←HM.out];omega)
     have hrj:=hrp (i+1) (by rw[←HM.out];omega)
     have HIV:Hid (∀ hi:i+1 < l.length,(l[i].time < l[i+1].time)=(l[i].time < l[i+1].time)):=zN (fun _=>rfl)
     obtain⟨ri,hrie⟩:∃ r,r=l[i]'(by rw[←HM.out];omega):=⟨_,rfl⟩
     obtain⟨rj,hrje⟩:∃ r,r=l[i+1]'(by rw[←HM.out];omega):=⟨_,rfl⟩
     rw[←hrie] at hri
     rw[←hrje] at hrj
     have HRI:=zN (And.intro hrie hrje)
     obtain⟨_,_,c2,_,_,_,_,_,_⟩:=hri
     obtain⟨_,_,d2,_,_,_,_,_,_⟩:=hrj
     have hi0:(0:Int)≤(i:Int):=by omega
     have hi1:(i:Int) < (M:Int):=by omega
     have hj1:((i:Int)+1) < (M:Int):=by omega
     have HB:=zN hb
     clear hrp hrie hrje hb HIV
     by_cases hlt:ri.time < rj.time
     ·have hdl:decide (ri.time≥rj.time)=false:=zDf (by omega)
      go_wp2_with fail
      refine RX.region RX.fN (fun w'=>w'=_) (by kernel_rfl) (by kernel_rfl) rfl (fun OPS HO QR hQR=>?_)
      repeat (refine zeX (fun R hR=>?_);(first|refine zaX (by first|rfl|(rw[HO.out];rfl)) (by simp only[zA,zB,zC,zD];rfl) ?_|refine zbX (by first|rfl|(rw[HO.out];rfl)) rfl (by first|exact .inl rfl|exact .inr rfl) (by simp only[zE,zF,zG,zH];rfl) (by simp only[zA,zB,zC,zD];rfl) ?_|refine zcX (by first|rfl|(rw[HO.out];rfl)) rfl rfl (by simp only[zE,zF,zG,zH];rfl) (by simp only[zA,zB,zC,zD];rfl) ?_|(refine zdX (by first|rfl|(rw[HO.out];rfl)) rfl rfl rfl ?_;apply zEx;apply zEx;refine⟨fun w' hS K hK=>?_,?_,?_⟩;(focus (subst hS;go_wp2;exact hK _ _ (by simp only[zl,zG,zH];first|exact zf (by omega)|exact zg (by omega)|exact zh (by omega)|exact zi (by omega)|exact zj (by omega)|exact zk (by omega)|exact RX.bneB _|rfl) rfl));(focus (simp only[zA,zB,zC,zD];rfl))));refine hR _ _ ?_;clear hR R)
      refine RX.wpL_nil (hQR _ _ rfl ?_);clear hQR QR HO OPS
      go_wp2
      go_roundw
      case rel=>exact⟨i+1+1,by omega,.inl (by omega),by go_num,zN (fun j hj hjk=>by
       by_cases e:j=i
       ·subst e;rw[←HRI.out.1,←HRI.out.2];exact hlt
       ·exact HI.out j hj (by omega)),HB.out.drew⟩
      case measure=>simp[intOf]<;>omega
     ·have hdl:decide (ri.time≥rj.time)=true:=zDt (by omega)
      obtain⟨e1,e2⟩:=chE_ord (n:=n) (l:=l) ⟨HH.out,HVL.out⟩ (fun ha=>hlt (by
       have:=List.pairwise_iff_getElem.1 ha i (i+1) (by rw[←HM.out];omega) (by rw[←HM.out];omega) (by omega)
       rw[←HRI.out.1,←HRI.out.2] at this;exact this))
      have HE:=zN (And.intro e1 e2)
      clear e1 e2
      go_wp2_with fail
      refine RX.region RX.fN (fun w'=>w'=_) (by kernel_rfl) (by kernel_rfl) rfl (fun OPS HO QR hQR=>?_)
      repeat (refine zeX (fun R hR=>?_);(first|refine zaX (by first|rfl|(rw[HO.out];rfl)) (by simp only[zA,zB,zC,zD];rfl) ?_|refine zbX (by first|rfl|(rw[HO.out];rfl)) rfl (by first|exact .inl rfl|exact .inr rfl) (by simp only[zE,zF,zG,zH];rfl) (by simp only[zA,zB,zC,zD];rfl) ?_|refine zcX (by first|rfl|(rw[HO.out];rfl)) rfl rfl (by simp only[zE,zF,zG,zH];rfl) (by simp only[zA,zB,zC,zD];rfl) ?_|(refine zdX (by first|rfl|(rw[HO.out];rfl)) rfl rfl rfl ?_;apply zEx;apply zEx;refine⟨fun w' hS K hK=>?_,?_,?_⟩;(focus (subst hS;go_wp2;exact hK _ _ (by simp only[zl,zG,zH];first|exact zf (by omega)|exact zg (by omega)|exact zh (by omega)|exact zi (by omega)|exact zj (by omega)|exact zk (by omega)|exact RX.bneB _|rfl) rfl));(focus (simp only[zA,zB,zC,zD];rfl))));refine hR _ _ ?_;clear hR R)
      refine RX.wpL_nil (hQR _ _ rfl ?_);clear hQR QR HO OPS
      go_wp2
      go_ret2
      refine⟨.slice none 0 0,?_,?_,HB.out.drew⟩
      ·rw[HE.out.1];rfl
      ·rw[HE.out.2];exact QRow.nil _ _
    ·have hdk:decide ((k:Int) < (M:Int))=false:=zDf (by omega)
     obtain⟨e1,e2⟩:=chE_ok (n:=n) (l:=l) ⟨HH.out,HVL.out⟩ (ascT_adj (fun i hi=>HI.out i hi (by have:=HM.out;omega)))
     have HE:=zN (And.intro e1 e2)
     have HB:=zN hb
     have hlz:=hb.size
     clear e1 e2 hb
     go_wp2_with fail
     refine (rchain_any n hn0 hn1 p cap M l HM.out.symm HVL.out hL _ (HV.out.below HB.out)).mono ?_
     rintro e w2 ⟨v,rfl,hq,hk2⟩
     have HQ:=zN hq
     have HB2:Hid (Below w.heap.size w w2):=zN (HB.out.trans (hk2.mono hlz))
     clear hq hk2
     go_wp2
     go_ret2
     refine⟨v,?_,?_,HB2.out⟩
     ·rw[HE.out.1];rfl
     ·rw[HE.out.2,←HM.out];exact own_mono HQ.out hlz
end Go.Proofs.YtbomggfklfbnkaaGreatDoor
namespace Go.Chain
section
variable {α:Type} [DecidableEq α]
def Rs.doneB (R:Rs α) (i k:Nat):Bool:=R.mv k && (List.range i).any (fun j=>R.mv j && decide (R.nm j=R.nm k))
def Rs.badB (R:Rs α) (P:Nat→Nat→Bool) (i k:Nat):Bool:=R.doneB i k && (badL P (R.gs (R.nm k))).contains k
theorem Rs.doneB_iff {R:Rs α} {i k:Nat}:R.doneB i k=true↔R.mv k=true∧∃ j,j < i∧R.mv j=true∧R.nm j=R.nm k:=by
 unfold Rs.doneB
 rw[Bool.and_eq_true,List.any_eq_true]
 simp only[List.mem_range,Bool.and_eq_true,decide_eq_true_eq]
theorem Rs.doneB_skip {R:Rs α} {i:Nat} (h:R.mv i=false∨R.doneB i i=true) (k:Nat):R.doneB (i+1) k=R.doneB i k:=by
 rw[Bool.eq_iff_iff,Rs.doneB_iff,Rs.doneB_iff]
 constructor
 ·rintro⟨h1,j,hj,h2,h3⟩
  refine⟨h1,?_⟩
  by_cases e:j=i
  ·subst e
   rcases h with h|h
   ·rw[h] at h2;cases h2
   ·obtain⟨_,j0,h4,h5,h6⟩:=Rs.doneB_iff.1 h
    exact⟨j0,h4,h5,h6.trans h3⟩
  ·exact⟨j,by omega,h2,h3⟩
 ·rintro⟨h1,j,hj,h2,h3⟩
  exact⟨h1,j,by omega,h2,h3⟩
theorem Rs.badB_skip {R:Rs α} {P:Nat→Nat→Bool} {i:Nat} (h:R.mv i=false∨R.doneB i i=true) (k:Nat):R.badB P (i+1) k=R.badB P i k:=by
 unfold Rs.badB
 rw[Rs.doneB_skip h]
theorem Rs.doneB_zero (R:Rs α) (k:Nat):R.doneB 0 k=false:=by unfold Rs.doneB;simp
theorem Rs.badB_zero (R:Rs α) (P:Nat→Nat→Bool) (k:Nat):R.badB P 0 k=false:=by unfold Rs.badB;rw[Rs.doneB_zero];rfl
def Rs.doneK (R:Rs α) (i k j:Nat):Bool:=R.doneB i j || (decide (j < k) && (R.mv j && decide (R.nm j=R.nm i)))
theorem Rs.fresh {R:Rs α} {i:Nat} (hm:R.mv i=true) (hd:R.doneB i i=false) {j:Nat} (hj:j < i):¬ (R.mv j=true∧R.nm j=R.nm i):=fun h=>by
 have:R.doneB i i=true:=Rs.doneB_iff.2 ⟨hm,j,hj,h.1,h.2⟩
 rw[hd] at this
 cases this
theorem Rs.doneK_start {R:Rs α} {i:Nat} (hm:R.mv i=true) (hd:R.doneB i i=false) (j:Nat):R.doneK i i j=R.doneB i j:=by
 unfold Rs.doneK
 by_cases h:j < i
 ·have:=Rs.fresh hm hd h
  have e:(R.mv j && decide (R.nm j=R.nm i))=false:=by
   rw[Bool.eq_false_iff]
   intro e
   rw[Bool.and_eq_true,decide_eq_true_eq] at e
   exact this e
  rw[e];simp
 ·rw[zDf h];simp
theorem Rs.doneK_no {R:Rs α} {i k:Nat} (h:(R.mv k && decide (R.nm k=R.nm i))=false) (j:Nat):R.doneK i (k+1) j=R.doneK i k j:=by
 unfold Rs.doneK
 by_cases e:j=k
 ·subst e
  rw[h];simp
 ·by_cases h2:j < k
  ·rw[zDt h2,zDt (show j < k+1 by omega)]
  ·rw[zDf h2,zDf (show ¬ j < k+1 by omega)]
theorem Rs.doneK_yes {R:Rs α} {i k:Nat} (h:(R.mv k && decide (R.nm k=R.nm i))=true) (j:Nat):R.doneK i (k+1) j=if j=k then true else R.doneK i k j:=by
 unfold Rs.doneK
 by_cases e:j=k
 ·subst e
  rw[h,if_pos rfl,zDt (Nat.lt_succ_self j)];simp
 ·rw[if_neg e]
  by_cases h2:j < k
  ·rw[zDt h2,zDt (show j < k+1 by omega)]
  ·rw[zDf h2,zDf (show ¬ j < k+1 by omega)]
theorem Rs.doneK_end {R:Rs α} {i:Nat} (hm:R.mv i=true) {j:Nat} (hj:j < R.n):R.doneK i R.n j=R.doneB (i+1) j:=by
 unfold Rs.doneK
 rw[zDt hj,Bool.eq_iff_iff,Bool.or_eq_true,Rs.doneB_iff,Rs.doneB_iff,Bool.true_and,Bool.and_eq_true,decide_eq_true_eq]
 constructor
 ·rintro (⟨h1,q,hq,h2,h3⟩|⟨h1,h2⟩)
  ·exact⟨h1,q,by omega,h2,h3⟩
  ·exact⟨h1,i,by omega,hm,h2.symm⟩
 ·rintro⟨h1,q,hq,h2,h3⟩
  by_cases e:q=i
  ·subst e
   exact .inr ⟨h1,h3.symm⟩
  ·exact .inl ⟨h1,q,by omega,h2,h3⟩
structure Rs.IsT (R:Rs α) (s:α) (k:Nat) (T:List Nat):Prop where
 perm:T.Perm ((List.range k).filter (fun i=>R.mv i && decide (R.nm i=s)))
 asc:T.Pairwise (fun i k=>R.tm i≤R.tm k)
theorem Rs.IsT.start {R:Rs α} {i:Nat} (hm:R.mv i=true) (hd:R.doneB i i=false):R.IsT (R.nm i) i []:=by
 refine⟨?_,List.Pairwise.nil⟩
 have e:(List.range i).filter (fun j=>R.mv j && decide (R.nm j=R.nm i))=[]:=by
  rw[List.filter_eq_nil_iff]
  intro j hj h
  rw[Bool.and_eq_true,decide_eq_true_eq] at h
  exact Rs.fresh hm hd (List.mem_range.1 hj) h
 rw[e]
theorem Rs.IsT.no {R:Rs α} {s:α} {k:Nat} {T:List Nat} (h:R.IsT s k T) (hn:(R.mv k && decide (R.nm k=s))=false):R.IsT s (k+1) T:=by
 refine⟨?_,h.asc⟩
 rw[List.range_succ,List.filter_append]
 have e:[k].filter (fun i=>R.mv i && decide (R.nm i=s))=[]:=by simp only[List.filter_cons,hn];rfl
 rw[e,List.append_nil]
 exact h.perm
theorem Rs.IsT.yes {R:Rs α} {s:α} {k n:Nat} {T:List Nat} (h:R.IsT s k T) (hy:(R.mv k && decide (R.nm k=s))=true) (hn:n≤T.length) (h1:∀ j (hj:j < T.length),j < n→R.tm T[j] < R.tm k) (h2:∀ (hj:n < T.length),¬ R.tm T[n] < R.tm k):R.IsT s (k+1) (T.take n ++ ([k] ++ T.drop n)):=by
 constructor
 ·rw[List.range_succ,List.filter_append]
  have e:[k].filter (fun i=>R.mv i && decide (R.nm i=s))=[k]:=by simp only[List.filter_cons,hy];rfl
  rw[e]
  have p1:(T.take n ++ ([k] ++ T.drop n)).Perm (k :: (T.take n ++ T.drop n)):=List.perm_middle
  rw[List.take_append_drop] at p1
  exact p1.trans ((List.Perm.cons k h.perm).trans (List.perm_append_singleton k _).symm)
 ·have ha:=h.asc
  have ha0:=ha
  rw[←List.take_append_drop n T,List.pairwise_append] at ha
  obtain⟨a1,a2,a3⟩:=ha
  have b1:∀ a∈T.take n,R.tm a≤R.tm k:=fun a ha=>by
   obtain⟨j,hj,rfl⟩:=List.getElem_of_mem ha
   rw[List.getElem_take]
   rw[List.length_take] at hj
   have:=h1 j (by omega) (by omega)
   omega
  have b2:∀ b∈T.drop n,R.tm k≤R.tm b:=fun b hb=>by
   obtain⟨j,hj,rfl⟩:=List.getElem_of_mem hb
   rw[List.length_drop] at hj
   rw[List.getElem_drop]
   have h3:=h2 (by omega)
   rcases Nat.eq_zero_or_pos j with h0|h0
   ·subst h0
    simp only[Nat.add_zero]
    omega
   ·have:=List.pairwise_iff_getElem.1 ha0 n (n+j) (by omega) (by omega) (by omega)
    omega
  rw[List.pairwise_append]
  refine⟨a1,?_,fun a h3 b h4=>?_⟩
  ·show (k :: T.drop n).Pairwise _
   rw[List.pairwise_cons]
   exact⟨b2,a2⟩
  ·have h4':b∈k :: T.drop n:=h4
   rcases List.mem_cons.1 h4' with e|h5
   ·rw[e];exact b1 a h3
   ·exact a3 a h3 b h5
theorem Rs.IsT.mem {R:Rs α} {s:α} {k:Nat} {T:List Nat} (h:R.IsT s k T) {j:Nat}:j∈T↔j < k∧R.mv j=true∧R.nm j=s:=by
 rw[h.perm.mem_iff,List.mem_filter,List.mem_range,Bool.and_eq_true,decide_eq_true_eq]
theorem Rs.IsT.len {R:Rs α} {s:α} {k:Nat} {T:List Nat} (h:R.IsT s k T):T.length≤k:=by
 rw[h.perm.length_eq]
 have:=List.length_filter_le (fun i=>R.mv i && decide (R.nm i=s)) (List.range k)
 rw[List.length_range] at this
 exact this
theorem Rs.IsT.fin {R:Rs α} {s:α} {T:List Nat} (h:R.IsT s R.n T):R.IsG s T:=⟨h.perm,h.asc⟩
def Rs.badT (R:Rs α) (P:Nat→Nat→Bool) (i:Nat) (T:List Nat) (q j:Nat):Bool:=R.badB P i j || (T.take q).contains j
def Rs.badC (R:Rs α) (P:Nat→Nat→Bool) (i:Nat) (T ch:List Nat) (q j:Nat):Bool:=if j∈(ch.take q).map (fun c=>T.getD c 0) then false else R.badT P i T T.length j
theorem Rs.badT_zero {R:Rs α} {P:Nat→Nat→Bool} {i:Nat} {T:List Nat} (j:Nat):R.badT P i T 0 j=R.badB P i j:=by unfold Rs.badT;simp
theorem Rs.badT_step {R:Rs α} {P:Nat→Nat→Bool} {i q:Nat} {T:List Nat} (hq:q < T.length) (j:Nat):R.badT P i T (q+1) j=if j=T[q] then true else R.badT P i T q j:=by
 unfold Rs.badT
 rw[List.take_succ_eq_append_getElem hq]
 by_cases e:j=T[q]
 ·rw[if_pos e,e,Bool.or_eq_true]
  exact .inr (List.contains_iff_mem.2 (List.mem_append_right _ (List.mem_singleton.2 rfl)))
 ·rw[if_neg e]
  congr 1
  rw[Bool.eq_iff_iff,List.contains_iff_mem,List.contains_iff_mem,List.mem_append,List.mem_singleton]
  exact⟨fun h=>h.elim id (fun h=>absurd h e),.inl⟩
theorem Rs.badC_zero {R:Rs α} {P:Nat→Nat→Bool} {i:Nat} {T ch:List Nat} (j:Nat):R.badC P i T ch 0 j=R.badT P i T T.length j:=by unfold Rs.badC;simp
theorem Rs.badC_step {R:Rs α} {P:Nat→Nat→Bool} {i q:Nat} {T ch:List Nat} (hq:q < ch.length) (j:Nat):R.badC P i T ch (q+1) j=if j=T.getD ch[q] 0 then false else R.badC P i T ch q j:=by
 unfold Rs.badC
 rw[List.take_succ_eq_append_getElem hq,List.map_append,List.map_singleton]
 by_cases e:j=T.getD ch[q] 0
 ·rw[if_pos e,if_pos (by rw[e];simp)]
 ·rw[if_neg e]
  by_cases h:j∈(ch.take q).map (fun c=>T.getD c 0)
  ·rw[if_pos h,if_pos (List.mem_append_left _ h)]
  ·rw[if_neg h,if_neg (fun h2=>by
    rcases List.mem_append.1 h2 with h3|h3
    ·exact h h3
    ·rw[List.mem_singleton] at h3;exact e h3)]
theorem Rs.badC_end {R:Rs α} {P:Nat→Nat→Bool} {i:Nat} {T ch:List Nat} (hd:¬ R.Dup) (hm:R.mv i=true) (hT:R.IsG (R.nm i) T) (hch:ch=chainP (fun a b=>P (T.getD a 0) (T.getD b 0)) T.length) (hcl:∀ c∈ch,c < T.length) {j:Nat} (hj:j < R.n):R.badC P i T ch ch.length j=R.badB P (i+1) j:=by
 have hu:=hT.unique hd
 have hn:=hT.nodup
 have hgd:∀ c,c < T.length→∀ (h:c < T.length),T.getD c 0=T[c]:=fun c _ h=>by rw[List.getD_eq_getElem?_getD,List.getElem?_eq_getElem h];rfl
 unfold Rs.badC Rs.badT
 rw[List.take_length,List.take_length]
 by_cases hjT:j∈T
 ·obtain⟨h1,h2,h3⟩:=hT.mem.1 hjT
  have hdn:R.doneB (i+1) j=true:=Rs.doneB_iff.2 ⟨h2,i,by omega,hm,h3.symm⟩
  have e1:R.badB P (i+1) j=(badL P T).contains j:=by
   unfold Rs.badB
   rw[hdn,h3,←hu,Bool.true_and]
  rw[e1]
  obtain⟨q,hq,hqe⟩:=List.getElem_of_mem hjT
  by_cases hc:q∈ch
  ·rw[if_pos (List.mem_map.2 ⟨q,hc,by rw[hgd q hq hq];exact hqe⟩)]
   symm
   rw[Bool.eq_false_iff]
   intro h
   rw[List.contains_iff_mem] at h
   obtain⟨q2,hq2,h4,h5⟩:=mem_badL.1 h
   have:q2=q:=(List.getElem_inj hn).1 (h5.trans hqe.symm)
   subst this
   rw[←hch] at h4
   exact h4 hc
  ·rw[if_neg (fun h=>by
    obtain⟨c,h4,h5⟩:=List.mem_map.1 h
    have hcc:=hcl c h4
    rw[hgd c hcc hcc] at h5
    have:c=q:=(List.getElem_inj hn).1 (h5.trans hqe.symm)
    subst this
    exact hc h4)]
   have e2:T.contains j=true:=List.contains_iff_mem.2 hjT
   rw[e2,Bool.or_true]
   symm
   rw[List.contains_iff_mem]
   exact mem_badL.2 ⟨q,hq,by rw[←hch];exact hc,hqe⟩
 ·rw[if_neg (fun h=>by
   obtain⟨c,h4,h5⟩:=List.mem_map.1 h
   have hcc:=hcl c h4
   rw[hgd c hcc hcc] at h5
   exact hjT (h5 ▸ List.getElem_mem hcc))]
  have e2:T.contains j=false:=by
   rw[Bool.eq_false_iff]
   intro h
   exact hjT (List.contains_iff_mem.1 h)
  rw[e2,Bool.or_false]
  have hno:¬ (R.mv j=true∧R.nm j=R.nm i):=fun h=>hjT (hT.mem.2 ⟨hj,h.1,h.2⟩)
  unfold Rs.badB
  have e3:R.doneB (i+1) j=R.doneB i j:=by
   rw[Bool.eq_iff_iff,Rs.doneB_iff,Rs.doneB_iff]
   constructor
   ·rintro⟨h1,q,hq,h2,h3⟩
    refine⟨h1,?_⟩
    by_cases e:q=i
    ·subst e;exact absurd ⟨h1,h3.symm⟩ hno
    ·exact⟨q,by omega,h2,h3⟩
   ·rintro⟨h1,q,hq,h2,h3⟩
    exact⟨h1,q,by omega,h2,h3⟩
  rw[e3]
theorem Rs.badB_end {R:Rs α} {P:Nat→Nat→Bool}:(List.range R.n).filter (fun j=>R.badB P R.n j)=R.susp P:=by
 unfold Rs.susp
 refine List.filter_congr fun j hj=>?_
 unfold Rs.badB
 congr 1
 have hj':=List.mem_range.1 hj
 rw[Bool.eq_iff_iff,Rs.doneB_iff]
 exact⟨fun h=>h.1,fun h=>⟨h,j,hj',h,rfl⟩⟩
end
end Go.Chain
namespace Go.Proofs.YtbomggfklfbnkaaGreatDoor
open Go.RowKit Go.Grid Go.Maps Go.Sort Go.Shelf Go.Chain
def BRow (w:World) (b M:Nat) (f:Nat→Bool):Prop:=w.rowIs b 4 M (fun j=>.bool (f j))
theorem BRow.set {w:World} {b M:Nat} {f:Nat→Bool} (h:BRow w b M f) (i:Nat) (x:Bool):BRow (w.setCell ⟨b,i,none⟩ (.bool x)) b M (fun j=>if j=i then x else f j):=
 (World.rowIs.set h i (.bool x)).congr (fun j _=>by by_cases e:j=i<;>simp[e])
theorem BRow.congr {w:World} {b M:Nat} {f g:Nat→Bool} (h:BRow w b M f) (e:∀ j,j < M→f j=g j):BRow w b M g:=World.rowIs.congr h (fun j hj=>by rw[e j hj])
theorem BRow.of_block {w w':World} {b M:Nat} {f:Nat→Bool} (h:BRow w b M f) (e:w'.heap[b]?=w.heap[b]?):BRow w' b M f:=World.rowIs.of_block h e
theorem BRow.cell {w:World} {b M:Nat} {f:Nat→Bool} (h:BRow w b M f) {i:Nat} (hi:i < M):w.cell? ⟨b,i,none⟩=some (.bool (f i)):=World.rowIs.cell h hi
theorem BRow.lt {w:World} {b M:Nat} {f:Nat→Bool} (h:BRow w b M f):b < w.heap.size:=World.rowIs.lt h
theorem BRow.below {w w':World} {b M:Nat} {f:Nat→Bool} (h:BRow w b M f) (hb:Below w.heap.size w w'):BRow w' b M f:=h.of_block (hb.block _ h.lt)
theorem ba_beq (a b:ByteArray):(a == b)=true↔a=b:=by
 obtain⟨a⟩:=a
 obtain⟨b⟩:=b
 rw[ByteArray.mk.injEq]
 exact (beq_iff_eq (a:=a) (b:=b))
theorem str_ne {a b:ByteArray} (h:a≠b):(a == b)=false∧(a.toList == b.toList)=false:=by
 constructor
 ·rw[Bool.eq_false_iff]
  exact fun e=>h ((ba_beq a b).1 e)
 ·rw[beq_eq_false_iff_ne,ne_eq,ByteArray.toList_eq,ByteArray.toList_eq]
  exact fun e=>h (by
   obtain⟨x⟩:=a
   obtain⟨y⟩:=b
   have e2:x=y:=by simpa using e
   rw[e2])
theorem str_eq {a b:ByteArray} (h:a=b):(a == b)=true∧(a.toList == b.toList)=true:=by
 subst h
 exact⟨(ba_beq a a).2 rfl,by simp⟩
theorem grw_own2 {W w w':World} {g:Nat} (h:W.grownBy w (some g)) (hb:Below W.heap.size w w'):W.grownBy w' (some g):=⟨hb.os.trans h.os,hb.tape.trans h.tape,hb.output.trans h.output,Nat.le_trans h.size hb.size,fun j hj hne=>(hb.block j hj).trans (h.block j hj hne)⟩
def dupP (l:List Rep) (a k:Nat):Prop:=(rsOf l).mv a=true∧(rsOf l).mv k=true∧(rsOf l).nm a=(rsOf l).nm k∧(rsOf l).tm a=(rsOf l).tm k
theorem dup_not {l:List Rep} (h:∀ a k,a < l.length→k < a→¬ dupP l a k):¬ (rsOf l).Dup:=by
 rintro⟨i,k,hki,hi,h1,h2,h3,h4⟩
 exact h i k hi hki ⟨h1,h2,h3,h4⟩
theorem rs_at {l:List Rep} {i:Nat} (h:i < l.length):(rsOf l).mv i=movB l[i]∧(rsOf l).nm i=l[i].name∧(rsOf l).tm i=l[i].time:=
 ⟨congrArg movB (getD_rep h),congrArg Rep.name (getD_rep h),congrArg Rep.time (getD_rep h)⟩
theorem rsuspects_any (n:Int) (p:Option Addr) (cap M:Nat) (l:List Rep) (hM:l.length=M) (hM30:M≤30) (w:World) (hV:VecR w p l) (hpb:∀ a,p=some a→0 < l.length→a.block < w.heap.size) :
  Calls Tryz.prog 17 #[.slice p M cap,.int .i64 n] w fun e w'=>∃ v,e=.returned (.tuple #[v,.int .i64 (suE n l)])∧RdI w' v (natI (suL n l))∧Below w.heap.size w w':=by
 have HM:=zN hM
 have HV:=zN hV
 have HPB:=zN hpb
 have hB0:=zN (zBr w.heap.size w)
 clear hM hV hpb
 by_cases hh:0≤n∧n≤1000
 rotate_left
 ·obtain⟨e1,e2⟩:=suE_no (n:=n) (l:=l) (fun e=>hh (of_decide_eq_true e.1))
  have HE:=zN (And.intro e1 e2)
  clear e1 e2
  by_cases h0:n < 0
  ·clear hh
   go_enter Tryz.func17,Tryz.ntmps17
   go_wp2
   go_ret2
   refine⟨.slice none 0 0,?_,?_,hB0.out⟩
   ·rw[HE.out.1];rfl
   ·rw[HE.out.2];exact RdI.nil _
  ·have h1:1000 < n:=by omega
   have h2:0≤n:=by omega
   clear hh h0
   go_enter Tryz.func17,Tryz.ntmps17
   go_wp2
   go_ret2
   refine⟨.slice none 0 0,?_,?_,hB0.out⟩
   ·rw[HE.out.1];rfl
   ·rw[HE.out.2];exact RdI.nil _
 obtain⟨hn0,hn1⟩:=hh
 have HH:Hid (hopB n=true):=zN (zDt ⟨hn0,hn1⟩)
 go_enter Tryz.func17,Tryz.ntmps17
 go_wp2
 go_loopw [6] (fun v6 wr=>∃ i:Nat,i≤M∧v6=.int .i64 (i:Int)∧Hid (∀ j (h:j < l.length),j < i→movB l[j]=true→ValR l[j])∧Below w.heap.size w wr) (fun v6 _=>M-(intOf v6).toNat)
 case atStart=>exact⟨0,by omega,rfl,zN (fun j _ h=>by omega),hB0.out⟩
 case round=>
  obtain⟨i,hiM,rfl,HI,hb⟩:=hrel
  by_cases hi:i < M
  ·have hdi:decide ((i:Int) < (M:Int))=true:=zDt (by omega)
   have hi0:(0:Int)≤(i:Int):=by omega
   have hi1:(i:Int) < (M:Int):=by omega
   obtain⟨bb,o,rfl,_,hrp⟩:=(HV.out.below hb).cell (by rw[HM.out];omega)
   have hri:=hrp i (by rw[HM.out];omega)
   obtain⟨r,hr⟩:∃ r,r=l[i]'(by rw[HM.out];omega):=⟨_,rfl⟩
   rw[←hr] at hri
   have HR:=zN hr
   have hrd:=hri.rd
   have HRI:=zN hri
   obtain⟨x0,x1,x2,x3,x4,x5,x6,x7,_⟩:=hri
   have HB:=zN hb
   clear hrp hr hb
   go_wp2_with fail
   refine (sea_any r hrd _).mono ?_
   rintro e w2 ⟨rfl,hb2⟩
   obtain⟨y0,y1,y2,y3,y4,y5,y6,y7,_⟩:=HRI.out.below hb2
   have HB2:=zN (HB.out.trans (hb2.mono HB.out.size))
   clear hb2 x0 x1 x2 x3 x4 x5 x6 x7
   cases hm:movB r
   ·have HMV:=zN hm
    clear hm y0 y1 y2 y3 y4 y5 y6 y7
    go_wp2
    go_roundw
    case rel=>exact⟨i+1,by omega,by go_num,zN (fun j hj hji hjm=>by
     by_cases e:j=i
     ·subst e;rw[←HR.out,HMV.out] at hjm;cases hjm
     ·exact HI.out j hj (by omega) hjm),HB2.out⟩
    case measure=>simp[intOf]<;>omega
   ·have HMV:=zN hm
    clear hm
    go_wp2_with fail
    refine (rvalid12_any r hrd _).mono ?_
    rintro e w3 ⟨rfl,hb3⟩
    have HB3:=zN (HB2.out.trans (hb3.mono HB2.out.size))
    clear hb3 y0 y1 y2 y3 y4 y5 y6 y7 hrd
    by_cases hv:ValR r
    ·rw[zDt hv]
     have HVR:=zN hv
     clear hv
     go_wp2
     go_roundw
     case rel=>exact⟨i+1,by omega,by go_num,zN (fun j hj hji hjm=>by
      by_cases e:j=i
      ·subst e;rw[←HR.out];exact HVR.out
      ·exact HI.out j hj (by omega) hjm),HB3.out⟩
     case measure=>simp[intOf]<;>omega
    ·rw[zDf hv]
     obtain⟨e1,e2⟩:=suE_no (n:=n) (l:=l) (fun e=>hv (by rw[HR.out];exact e.2 _ (List.getElem_mem _) (by rw[←HR.out];exact HMV.out)))
     have HE:=zN (And.intro e1 e2)
     clear e1 e2 hv
     go_wp2
     go_ret2
     refine⟨.slice none 0 0,?_,?_,HB3.out⟩
     ·rw[HE.out.1];rfl
     ·rw[HE.out.2];exact RdI.nil _
  ·have hdi:decide ((i:Int) < (M:Int))=false:=zDf (by omega)
   have HMV:Hid (MovV l):=zN (fun r hr hm=>by
    obtain⟨j,hj,rfl⟩:=List.getElem_of_mem hr
    exact HI.out j hj (by have:=HM.out;omega) hm)
   have HB1:=zN hb
   clear hb HI
   go_wp2
   generalize wr=W1 at *
   generalize i=i0 at *
   go_loopw [7] (fun v7 wr=>∃ i:Nat,i≤M∧v7=.int .i64 (i:Int)∧Hid (∀ a k,a < i→k < a→¬ dupP l a k)∧Below w.heap.size w wr) (fun v7 _=>M-(intOf v7).toNat)
   case atStart=>exact⟨0,by omega,rfl,zN (fun a k h _=>by omega),HB1.out⟩
   case round=>
    obtain⟨i,hiM,rfl,HI,hb⟩:=hrel
    by_cases hi:i < M
    ·have hdi2:decide ((i:Int) < (M:Int))=true:=zDt (by omega)
     have hi0:(0:Int)≤(i:Int):=by omega
     have hi1:(i:Int) < (M:Int):=by omega
     have HB2:=zN hb
     clear hb
     go_wp2
     generalize wr=W2 at *
     go_loopw [8] (fun v8 wr=>∃ k:Nat,k≤i∧v8=.int .i64 (k:Int)∧Hid (∀ k',k' < k→¬ dupP l i k')∧Below w.heap.size w wr) (fun v8 _=>i-(intOf v8).toNat)
     case atStart=>exact⟨0,by omega,rfl,zN (fun k h=>by omega),HB2.out⟩
     case round=>
      obtain⟨k,hki,rfl,HK,hb⟩:=hrel
      by_cases hk:k < i
      ·have hdk:decide ((k:Int) < (i:Int))=true:=zDt (by omega)
       have hk0:(0:Int)≤(k:Int):=by omega
       have hk1:(k:Int) < (M:Int):=by omega
       obtain⟨bb,o,rfl,_,hrp⟩:=(HV.out.below hb).cell (by rw[HM.out];omega)
       have hil:i < l.length:=by rw[HM.out];exact hi
       have hkl:k < l.length:=by omega
       have hri:=hrp i hil
       have hrk:=hrp k hkl
       obtain⟨ei1,ei2,ei3⟩:=rs_at hil
       obtain⟨ek1,ek2,ek3⟩:=rs_at hkl
       have HD:Hid (dupP l i k↔movB l[i]=true∧movB l[k]=true∧l[i].name=l[k].name∧l[i].time=l[k].time):=zN (by unfold dupP;rw[ei1,ei2,ei3,ek1,ek2,ek3])
       clear ei1 ei2 ei3 ek1 ek2 ek3
       generalize l[i]=ri at *
       generalize l[k]=rk at *
       have HRD:=zN (And.intro hri.rd hrk.rd)
       have HB:=zN hb
       have hSS:RptAt wr.drew bb (o+i*8) ri∧RptAt wr.drew bb (o+k*8) rk:=⟨hri.of_block rfl,hrk.of_block rfl⟩
       clear hrp hri hrk hb hil hkl
       by_cases hmi:movB ri=true
       rotate_left
       ·have HND:Hid (¬ dupP l i k):=zN (fun h=>hmi (HD.out.1 h).1)
        rw[Bool.not_eq_true] at hmi
        go_wp2_with fail
        refine RX.region RX.fN (fun w'=>RptAt w' bb (o+i*8) ri∧RptAt w' bb (o+k*8) rk) (by kernel_rfl) (by kernel_rfl) (hSS) (fun OPS HO QR hQR=>?_)
        repeat (refine zeX (fun R hR=>?_);(first|refine zaX (by first|rfl|(rw[HO.out];rfl)) (by simp only[zA,zB,zC,zD];rfl) ?_|refine zbX (by first|rfl|(rw[HO.out];rfl)) rfl (by first|exact .inl rfl|exact .inr rfl) (by simp only[zE,zF,zG,zH];rfl) (by simp only[zA,zB,zC,zD];rfl) ?_|refine zcX (by first|rfl|(rw[HO.out];rfl)) rfl rfl (by simp only[zE,zF,zG,zH];rfl) (by simp only[zA,zB,zC,zD];rfl) ?_|(refine zdX (by first|rfl|(rw[HO.out];rfl)) rfl rfl rfl ?_;apply zEx;apply zEx;refine⟨fun w' hS K hK=>?_,?_,?_⟩;(focus (obtain⟨⟨x0,x1,x2,x3,x4,x5,x6,x7,_⟩,⟨y0,y1,y2,y3,y4,y5,y6,y7,_⟩⟩:=hS;go_wp2;exact hK _ _ (by simp only[zl,zG,zH];first|exact zf (by omega)|exact zg (by omega)|exact zh (by omega)|exact zi (by omega)|exact zj (by omega)|exact zk (by omega)|exact RX.bneB _|rfl) rfl));(focus (simp only[zA,zB,zC,zD];rfl))));refine hR _ _ ?_;clear hR R)
        refine zeX (fun R hR=>?_)
        refine zgX (by first|rfl|(rw[HO.out];rfl)) rfl (fun K hK=>?_)
        go_wp2_with fail
        refine (sea_any ri HRD.out.1 wr.drew).mono ?_
        rintro e w3 ⟨rfl,hb3⟩
        rw[hmi]
        have hS3:RptAt w3 bb (o+i*8) ri∧RptAt w3 bb (o+k*8) rk:=⟨hSS.1.below hb3,hSS.2.below hb3⟩
        have HB3:=zN (HB.out.trans ((show Below wr.heap.size wr w3 from (zBd (zBr _ _)).trans hb3).mono HB.out.size))
        clear hb3 hSS
        refine hK _ _ ⟨hS3,hR _ _ ?_⟩;clear hK K hR R
        repeat (refine zeX (fun R hR=>?_);(first|refine zaX (by first|rfl|(rw[HO.out];rfl)) (by simp only[zA,zB,zC,zD];rfl) ?_|refine zbX (by first|rfl|(rw[HO.out];rfl)) rfl (by first|exact .inl rfl|exact .inr rfl) (by simp only[zE,zF,zG,zH];rfl) (by simp only[zA,zB,zC,zD];rfl) ?_|refine zcX (by first|rfl|(rw[HO.out];rfl)) rfl rfl (by simp only[zE,zF,zG,zH];rfl) (by simp only[zA,zB,zC,zD];rfl) ?_|(refine zdX (by first|rfl|(rw[HO.out];rfl)) rfl rfl rfl ?_;apply zEx;apply zEx;refine⟨fun w' hS K hK=>?_,?_,?_⟩;(focus (obtain⟨⟨x0,x1,x2,x3,x4,x5,x6,x7,_⟩,⟨y0,y1,y2,y3,y4,y5,y6,y7,_⟩⟩:=hS;go_wp2;exact hK _ _ (by simp only[zl,zG,zH];first|exact zf (by omega)|exact zg (by omega)|exact zh (by omega)|exact zi (by omega)|exact zj (by omega)|exact zk (by omega)|exact RX.bneB _|rfl) rfl));(focus (simp only[zA,zB,zC,zD];rfl))));refine hR _ _ ?_;clear hR R)
        refine RX.wpL_nil (hQR _ _ (hS3) ?_);clear hQR QR HO OPS
        go_wp2
        go_roundw
        case rel=>exact⟨k+1,by omega,by go_num,zN (fun k' hk'=>by
         by_cases e:k'=k
         ·subst e;exact HND.out
         ·exact HK.out k' (by omega)),HB3.out⟩
        case measure=>simp[intOf]<;>omega
       by_cases hmk:movB rk=true
       rotate_left
       ·have HND:Hid (¬ dupP l i k):=zN (fun h=>hmk (HD.out.1 h).2.1)
        rw[Bool.not_eq_true] at hmk
        go_wp2_with fail
        refine RX.region RX.fN (fun w'=>RptAt w' bb (o+i*8) ri∧RptAt w' bb (o+k*8) rk) (by kernel_rfl) (by kernel_rfl) (hSS) (fun OPS HO QR hQR=>?_)
        repeat (refine zeX (fun R hR=>?_);(first|refine zaX (by first|rfl|(rw[HO.out];rfl)) (by simp only[zA,zB,zC,zD];rfl) ?_|refine zbX (by first|rfl|(rw[HO.out];rfl)) rfl (by first|exact .inl rfl|exact .inr rfl) (by simp only[zE,zF,zG,zH];rfl) (by simp only[zA,zB,zC,zD];rfl) ?_|refine zcX (by first|rfl|(rw[HO.out];rfl)) rfl rfl (by simp only[zE,zF,zG,zH];rfl) (by simp only[zA,zB,zC,zD];rfl) ?_|(refine zdX (by first|rfl|(rw[HO.out];rfl)) rfl rfl rfl ?_;apply zEx;apply zEx;refine⟨fun w' hS K hK=>?_,?_,?_⟩;(focus (obtain⟨⟨x0,x1,x2,x3,x4,x5,x6,x7,_⟩,⟨y0,y1,y2,y3,y4,y5,y6,y7,_⟩⟩:=hS;go_wp2;exact hK _ _ (by simp only[zl,zG,zH];first|exact zf (by omega)|exact zg (by omega)|exact zh (by omega)|exact zi (by omega)|exact zj (by omega)|exact zk (by omega)|exact RX.bneB _|rfl) rfl));(focus (simp only[zA,zB,zC,zD];rfl))));refine hR _ _ ?_;clear hR R)
        refine zeX (fun R hR=>?_)
        refine zgX (by first|rfl|(rw[HO.out];rfl)) rfl (fun K hK=>?_)
        go_wp2_with fail
        refine (sea_any ri HRD.out.1 wr.drew).mono ?_
        rintro e w3 ⟨rfl,hb3⟩
        rw[hmi]
        have hS3:RptAt w3 bb (o+i*8) ri∧RptAt w3 bb (o+k*8) rk:=⟨hSS.1.below hb3,hSS.2.below hb3⟩
        have HB3:=zN (HB.out.trans ((show Below wr.heap.size wr w3 from (zBd (zBr _ _)).trans hb3).mono HB.out.size))
        clear hb3 hSS
        refine hK _ _ ⟨hS3,hR _ _ ?_⟩;clear hK K hR R
        repeat (refine zeX (fun R hR=>?_);(first|refine zaX (by first|rfl|(rw[HO.out];rfl)) (by simp only[zA,zB,zC,zD];rfl) ?_|refine zbX (by first|rfl|(rw[HO.out];rfl)) rfl (by first|exact .inl rfl|exact .inr rfl) (by simp only[zE,zF,zG,zH];rfl) (by simp only[zA,zB,zC,zD];rfl) ?_|refine zcX (by first|rfl|(rw[HO.out];rfl)) rfl rfl (by simp only[zE,zF,zG,zH];rfl) (by simp only[zA,zB,zC,zD];rfl) ?_|(refine zdX (by first|rfl|(rw[HO.out];rfl)) rfl rfl rfl ?_;apply zEx;apply zEx;refine⟨fun w' hS K hK=>?_,?_,?_⟩;(focus (obtain⟨⟨x0,x1,x2,x3,x4,x5,x6,x7,_⟩,⟨y0,y1,y2,y3,y4,y5,y6,y7,_⟩⟩:=hS;go_wp2;exact hK _ _ (by simp only[zl,zG,zH];first|exact zf (by omega)|exact zg (by omega)|exact zh (by omega)|exact zi (by omega)|exact zj (by omega)|exact zk (by omega)|exact RX.bneB _|rfl) rfl));(focus (simp only[zA,zB,zC,zD];rfl))));refine hR _ _ ?_;clear hR R)
        refine zeX (fun R hR=>?_)
        refine zgX (by first|rfl|(rw[HO.out];rfl)) rfl (fun K hK=>?_)
        go_wp2_with fail
        refine (sea_any rk HRD.out.2 w3).mono ?_
        rintro e w4 ⟨rfl,hb4⟩
        rw[hmk]
        have hS4:RptAt w4 bb (o+i*8) ri∧RptAt w4 bb (o+k*8) rk:=⟨hS3.1.below hb4,hS3.2.below hb4⟩
        have HB4:=zN (HB3.out.trans (hb4.mono HB3.out.size))
        clear hb4 hS3
        refine hK _ _ ⟨hS4,hR _ _ ?_⟩;clear hK K hR R
        repeat (refine zeX (fun R hR=>?_);(first|refine zaX (by first|rfl|(rw[HO.out];rfl)) (by simp only[zA,zB,zC,zD];rfl) ?_|refine zbX (by first|rfl|(rw[HO.out];rfl)) rfl (by first|exact .inl rfl|exact .inr rfl) (by simp only[zE,zF,zG,zH];rfl) (by simp only[zA,zB,zC,zD];rfl) ?_|refine zcX (by first|rfl|(rw[HO.out];rfl)) rfl rfl (by simp only[zE,zF,zG,zH];rfl) (by simp only[zA,zB,zC,zD];rfl) ?_|(refine zdX (by first|rfl|(rw[HO.out];rfl)) rfl rfl rfl ?_;apply zEx;apply zEx;refine⟨fun w' hS K hK=>?_,?_,?_⟩;(focus (obtain⟨⟨x0,x1,x2,x3,x4,x5,x6,x7,_⟩,⟨y0,y1,y2,y3,y4,y5,y6,y7,_⟩⟩:=hS;go_wp2;exact hK _ _ (by simp only[zl,zG,zH];first|exact zf (by omega)|exact zg (by omega)|exact zh (by omega)|exact zi (by omega)|exact zj (by omega)|exact zk (by omega)|exact RX.bneB _|rfl) rfl));(focus (simp only[zA,zB,zC,zD];rfl))));refine hR _ _ ?_;clear hR R)
        refine RX.wpL_nil (hQR _ _ (hS4) ?_);clear hQR QR HO OPS
        go_wp2
        go_roundw
        case rel=>exact⟨k+1,by omega,by go_num,zN (fun k' hk'=>by
         by_cases e:k'=k
         ·subst e;exact HND.out
         ·exact HK.out k' (by omega)),HB4.out⟩
        case measure=>simp[intOf]<;>omega
       by_cases hnm:ri.name=rk.name
       rotate_left
       ·have HND:Hid (¬ dupP l i k):=zN (fun h=>hnm (HD.out.1 h).2.2.1)
        have hnb:=(str_ne hnm).1
        have hnt:=(str_ne hnm).2
        have hnd:decide (ri.name=rk.name)=false:=zDf hnm
        clear hnm
        go_wp2_with fail
        refine RX.region RX.fN (fun w'=>RptAt w' bb (o+i*8) ri∧RptAt w' bb (o+k*8) rk) (by kernel_rfl) (by kernel_rfl) (hSS) (fun OPS HO QR hQR=>?_)
        repeat (refine zeX (fun R hR=>?_);(first|refine zaX (by first|rfl|(rw[HO.out];rfl)) (by simp only[zA,zB,zC,zD];rfl) ?_|refine zbX (by first|rfl|(rw[HO.out];rfl)) rfl (by first|exact .inl rfl|exact .inr rfl) (by simp only[zE,zF,zG,zH];rfl) (by simp only[zA,zB,zC,zD];rfl) ?_|refine zcX (by first|rfl|(rw[HO.out];rfl)) rfl rfl (by simp only[zE,zF,zG,zH];rfl) (by simp only[zA,zB,zC,zD];rfl) ?_|(refine zdX (by first|rfl|(rw[HO.out];rfl)) rfl rfl rfl ?_;apply zEx;apply zEx;refine⟨fun w' hS K hK=>?_,?_,?_⟩;(focus (obtain⟨⟨x0,x1,x2,x3,x4,x5,x6,x7,_⟩,⟨y0,y1,y2,y3,y4,y5,y6,y7,_⟩⟩:=hS;go_wp2;exact hK _ _ (by simp only[zl,zG,zH];first|exact zf (by omega)|exact zg (by omega)|exact zh (by omega)|exact zi (by omega)|exact zj (by omega)|exact zk (by omega)|exact RX.bneB _|rfl) rfl));(focus (simp only[zA,zB,zC,zD];rfl))));refine hR _ _ ?_;clear hR R)
        refine zeX (fun R hR=>?_)
        refine zgX (by first|rfl|(rw[HO.out];rfl)) rfl (fun K hK=>?_)
        go_wp2_with fail
        refine (sea_any ri HRD.out.1 wr.drew).mono ?_
        rintro e w3 ⟨rfl,hb3⟩
        rw[hmi]
        have hS3:RptAt w3 bb (o+i*8) ri∧RptAt w3 bb (o+k*8) rk:=⟨hSS.1.below hb3,hSS.2.below hb3⟩
        have HB3:=zN (HB.out.trans ((show Below wr.heap.size wr w3 from (zBd (zBr _ _)).trans hb3).mono HB.out.size))
        clear hb3 hSS
        refine hK _ _ ⟨hS3,hR _ _ ?_⟩;clear hK K hR R
        repeat (refine zeX (fun R hR=>?_);(first|refine zaX (by first|rfl|(rw[HO.out];rfl)) (by simp only[zA,zB,zC,zD];rfl) ?_|refine zbX (by first|rfl|(rw[HO.out];rfl)) rfl (by first|exact .inl rfl|exact .inr rfl) (by simp only[zE,zF,zG,zH];rfl) (by simp only[zA,zB,zC,zD];rfl) ?_|refine zcX (by first|rfl|(rw[HO.out];rfl)) rfl rfl (by simp only[zE,zF,zG,zH];rfl) (by simp only[zA,zB,zC,zD];rfl) ?_|(refine zdX (by first|rfl|(rw[HO.out];rfl)) rfl rfl rfl ?_;apply zEx;apply zEx;refine⟨fun w' hS K hK=>?_,?_,?_⟩;(focus (obtain⟨⟨x0,x1,x2,x3,x4,x5,x6,x7,_⟩,⟨y0,y1,y2,y3,y4,y5,y6,y7,_⟩⟩:=hS;go_wp2;exact hK _ _ (by simp only[zl,zG,zH];first|exact zf (by omega)|exact zg (by omega)|exact zh (by omega)|exact zi (by omega)|exact zj (by omega)|exact zk (by omega)|exact RX.bneB _|rfl) rfl));(focus (simp only[zA,zB,zC,zD];rfl))));refine hR _ _ ?_;clear hR R)
        refine zeX (fun R hR=>?_)
        refine zgX (by first|rfl|(rw[HO.out];rfl)) rfl (fun K hK=>?_)
        go_wp2_with fail
        refine (sea_any rk HRD.out.2 w3).mono ?_
        rintro e w4 ⟨rfl,hb4⟩
        rw[hmk]
        have hS4:RptAt w4 bb (o+i*8) ri∧RptAt w4 bb (o+k*8) rk:=⟨hS3.1.below hb4,hS3.2.below hb4⟩
        have HB4:=zN (HB3.out.trans (hb4.mono HB3.out.size))
        clear hb4 hS3
        refine hK _ _ ⟨hS4,hR _ _ ?_⟩;clear hK K hR R
        repeat (refine zeX (fun R hR=>?_);(first|refine zaX (by first|rfl|(rw[HO.out];rfl)) (by simp only[zA,zB,zC,zD];rfl) ?_|refine zbX (by first|rfl|(rw[HO.out];rfl)) rfl (by first|exact .inl rfl|exact .inr rfl) (by simp only[zE,zF,zG,zH];rfl) (by simp only[zA,zB,zC,zD];rfl) ?_|refine zcX (by first|rfl|(rw[HO.out];rfl)) rfl rfl (by simp only[zE,zF,zG,zH];rfl) (by simp only[zA,zB,zC,zD];rfl) ?_|(refine zdX (by first|rfl|(rw[HO.out];rfl)) rfl rfl rfl ?_;apply zEx;apply zEx;refine⟨fun w' hS K hK=>?_,?_,?_⟩;(focus (obtain⟨⟨x0,x1,x2,x3,x4,x5,x6,x7,_⟩,⟨y0,y1,y2,y3,y4,y5,y6,y7,_⟩⟩:=hS;go_wp2;exact hK _ _ (by simp only[zl,zG,zH];first|exact zf (by omega)|exact zg (by omega)|exact zh (by omega)|exact zi (by omega)|exact zj (by omega)|exact zk (by omega)|exact RX.bneB _|rfl) rfl));(focus (simp only[zA,zB,zC,zD];rfl))));refine hR _ _ ?_;clear hR R)
        refine RX.wpL_nil (hQR _ _ (hS4) ?_);clear hQR QR HO OPS
        go_wp2
        go_roundw
        case rel=>exact⟨k+1,by omega,by go_num,zN (fun k' hk'=>by
         by_cases e:k'=k
         ·subst e;exact HND.out
         ·exact HK.out k' (by omega)),HB4.out⟩
        case measure=>simp[intOf]<;>omega
       have hnb:=(str_eq hnm).1
       have hnt:=(str_eq hnm).2
       have hnd:decide (ri.name=rk.name)=true:=zDt hnm
       by_cases htm:ri.time=rk.time
       rotate_left
       ·have HND:Hid (¬ dupP l i k):=zN (fun h=>htm (HD.out.1 h).2.2.2)
        have htb:(ri.time == rk.time)=false:=by rw[beq_eq_false_iff_ne];exact htm
        clear hnm
        go_wp2_with fail
        refine RX.region RX.fN (fun w'=>RptAt w' bb (o+i*8) ri∧RptAt w' bb (o+k*8) rk) (by kernel_rfl) (by kernel_rfl) (hSS) (fun OPS HO QR hQR=>?_)
        repeat (refine zeX (fun R hR=>?_);(first|refine zaX (by first|rfl|(rw[HO.out];rfl)) (by simp only[zA,zB,zC,zD];rfl) ?_|refine zbX (by first|rfl|(rw[HO.out];rfl)) rfl (by first|exact .inl rfl|exact .inr rfl) (by simp only[zE,zF,zG,zH];rfl) (by simp only[zA,zB,zC,zD];rfl) ?_|refine zcX (by first|rfl|(rw[HO.out];rfl)) rfl rfl (by simp only[zE,zF,zG,zH];rfl) (by simp only[zA,zB,zC,zD];rfl) ?_|(refine zdX (by first|rfl|(rw[HO.out];rfl)) rfl rfl rfl ?_;apply zEx;apply zEx;refine⟨fun w' hS K hK=>?_,?_,?_⟩;(focus (obtain⟨⟨x0,x1,x2,x3,x4,x5,x6,x7,_⟩,⟨y0,y1,y2,y3,y4,y5,y6,y7,_⟩⟩:=hS;go_wp2;exact hK _ _ (by simp only[zl,zG,zH];first|exact zf (by omega)|exact zg (by omega)|exact zh (by omega)|exact zi (by omega)|exact zj (by omega)|exact zk (by omega)|exact RX.bneB _|rfl) rfl));(focus (simp only[zA,zB,zC,zD];rfl))));refine hR _ _ ?_;clear hR R)
        refine zeX (fun R hR=>?_)
        refine zgX (by first|rfl|(rw[HO.out];rfl)) rfl (fun K hK=>?_)
        go_wp2_with fail
        refine (sea_any ri HRD.out.1 wr.drew).mono ?_
        rintro e w3 ⟨rfl,hb3⟩
        rw[hmi]
        have hS3:RptAt w3 bb (o+i*8) ri∧RptAt w3 bb (o+k*8) rk:=⟨hSS.1.below hb3,hSS.2.below hb3⟩
        have HB3:=zN (HB.out.trans ((show Below wr.heap.size wr w3 from (zBd (zBr _ _)).trans hb3).mono HB.out.size))
        clear hb3 hSS
        refine hK _ _ ⟨hS3,hR _ _ ?_⟩;clear hK K hR R
        repeat (refine zeX (fun R hR=>?_);(first|refine zaX (by first|rfl|(rw[HO.out];rfl)) (by simp only[zA,zB,zC,zD];rfl) ?_|refine zbX (by first|rfl|(rw[HO.out];rfl)) rfl (by first|exact .inl rfl|exact .inr rfl) (by simp only[zE,zF,zG,zH];rfl) (by simp only[zA,zB,zC,zD];rfl) ?_|refine zcX (by first|rfl|(rw[HO.out];rfl)) rfl rfl (by simp only[zE,zF,zG,zH];rfl) (by simp only[zA,zB,zC,zD];rfl) ?_|(refine zdX (by first|rfl|(rw[HO.out];rfl)) rfl rfl rfl ?_;apply zEx;apply zEx;refine⟨fun w' hS K hK=>?_,?_,?_⟩;(focus (obtain⟨⟨x0,x1,x2,x3,x4,x5,x6,x7,_⟩,⟨y0,y1,y2,y3,y4,y5,y6,y7,_⟩⟩:=hS;go_wp2;exact hK _ _ (by simp only[zl,zG,zH];first|exact zf (by omega)|exact zg (by omega)|exact zh (by omega)|exact zi (by omega)|exact zj (by omega)|exact zk (by omega)|exact RX.bneB _|rfl) rfl));(focus (simp only[zA,zB,zC,zD];rfl))));refine hR _ _ ?_;clear hR R)
        refine zeX (fun R hR=>?_)
        refine zgX (by first|rfl|(rw[HO.out];rfl)) rfl (fun K hK=>?_)
        go_wp2_with fail
        refine (sea_any rk HRD.out.2 w3).mono ?_
        rintro e w4 ⟨rfl,hb4⟩
        rw[hmk]
        have hS4:RptAt w4 bb (o+i*8) ri∧RptAt w4 bb (o+k*8) rk:=⟨hS3.1.below hb4,hS3.2.below hb4⟩
        have HB4:=zN (HB3.out.trans (hb4.mono HB3.out.size))
        clear hb4 hS3
        refine hK _ _ ⟨hS4,hR _ _ ?_⟩;clear hK K hR R
        repeat (refine zeX (fun R hR=>?_);(first|refine zaX (by first|rfl|(rw[HO.out];rfl)) (by simp only[zA,zB,zC,zD];rfl) ?_|refine zbX (by first|rfl|(rw[HO.out];rfl)) rfl (by first|exact .inl rfl|exact .inr rfl) (by simp only[zE,zF,zG,zH];rfl) (by simp only[zA,zB,zC,zD];rfl) ?_|refine zcX (by first|rfl|(rw[HO.out];rfl)) rfl rfl (by simp only[zE,zF,zG,zH];rfl) (by simp only[zA,zB,zC,zD];rfl) ?_|(refine zdX (by first|rfl|(rw[HO.out];rfl)) rfl rfl rfl ?_;apply zEx;apply zEx;refine⟨fun w' hS K hK=>?_,?_,?_⟩;(focus (obtain⟨⟨x0,x1,x2,x3,x4,x5,x6,x7,_⟩,⟨y0,y1,y2,y3,y4,y5,y6,y7,_⟩⟩:=hS;go_wp2;exact hK _ _ (by simp only[zl,zG,zH];first|exact zf (by omega)|exact zg (by omega)|exact zh (by omega)|exact zi (by omega)|exact zj (by omega)|exact zk (by omega)|exact RX.bneB _|rfl) rfl));(focus (simp only[zA,zB,zC,zD];rfl))));refine hR _ _ ?_;clear hR R)
        refine RX.wpL_nil (hQR _ _ (hS4) ?_);clear hQR QR HO OPS
        go_wp2
        go_roundw
        case rel=>exact⟨k+1,by omega,by go_num,zN (fun k' hk'=>by
         by_cases e:k'=k
         ·subst e;exact HND.out
         ·exact HK.out k' (by omega)),HB4.out⟩
        case measure=>simp[intOf]<;>omega
       have htb:(ri.time == rk.time)=true:=by rw[beq_iff_eq];exact htm
       have HDU:Hid ((rsOf l).Dup):=zN (by
        obtain⟨d1,d2,d3,d4⟩:=HD.out.2 ⟨hmi,hmk,hnm,htm⟩
        exact⟨i,k,hk,by show i < l.length;rw[HM.out];exact hi,d1,d2,d3,d4⟩)
       obtain⟨e1,e2⟩:=suE_dup (n:=n) (l:=l) ⟨HH.out,HMV.out⟩ HDU.out
       have HE:=zN (And.intro e1 e2)
       clear e1 e2 hnm htm
       go_wp2_with fail
       refine RX.region RX.fN (fun w'=>RptAt w' bb (o+i*8) ri∧RptAt w' bb (o+k*8) rk) (by kernel_rfl) (by kernel_rfl) (hSS) (fun OPS HO QR hQR=>?_)
       repeat (refine zeX (fun R hR=>?_);(first|refine zaX (by first|rfl|(rw[HO.out];rfl)) (by simp only[zA,zB,zC,zD];rfl) ?_|refine zbX (by first|rfl|(rw[HO.out];rfl)) rfl (by first|exact .inl rfl|exact .inr rfl) (by simp only[zE,zF,zG,zH];rfl) (by simp only[zA,zB,zC,zD];rfl) ?_|refine zcX (by first|rfl|(rw[HO.out];rfl)) rfl rfl (by simp only[zE,zF,zG,zH];rfl) (by simp only[zA,zB,zC,zD];rfl) ?_|(refine zdX (by first|rfl|(rw[HO.out];rfl)) rfl rfl rfl ?_;apply zEx;apply zEx;refine⟨fun w' hS K hK=>?_,?_,?_⟩;(focus (obtain⟨⟨x0,x1,x2,x3,x4,x5,x6,x7,_⟩,⟨y0,y1,y2,y3,y4,y5,y6,y7,_⟩⟩:=hS;go_wp2;exact hK _ _ (by simp only[zl,zG,zH];first|exact zf (by omega)|exact zg (by omega)|exact zh (by omega)|exact zi (by omega)|exact zj (by omega)|exact zk (by omega)|exact RX.bneB _|rfl) rfl));(focus (simp only[zA,zB,zC,zD];rfl))));refine hR _ _ ?_;clear hR R)
       refine zeX (fun R hR=>?_)
       refine zgX (by first|rfl|(rw[HO.out];rfl)) rfl (fun K hK=>?_)
       go_wp2_with fail
       refine (sea_any ri HRD.out.1 wr.drew).mono ?_
       rintro e w3 ⟨rfl,hb3⟩
       rw[hmi]
       have hS3:RptAt w3 bb (o+i*8) ri∧RptAt w3 bb (o+k*8) rk:=⟨hSS.1.below hb3,hSS.2.below hb3⟩
       have HB3:=zN (HB.out.trans ((show Below wr.heap.size wr w3 from (zBd (zBr _ _)).trans hb3).mono HB.out.size))
       clear hb3 hSS
       refine hK _ _ ⟨hS3,hR _ _ ?_⟩;clear hK K hR R
       repeat (refine zeX (fun R hR=>?_);(first|refine zaX (by first|rfl|(rw[HO.out];rfl)) (by simp only[zA,zB,zC,zD];rfl) ?_|refine zbX (by first|rfl|(rw[HO.out];rfl)) rfl (by first|exact .inl rfl|exact .inr rfl) (by simp only[zE,zF,zG,zH];rfl) (by simp only[zA,zB,zC,zD];rfl) ?_|refine zcX (by first|rfl|(rw[HO.out];rfl)) rfl rfl (by simp only[zE,zF,zG,zH];rfl) (by simp only[zA,zB,zC,zD];rfl) ?_|(refine zdX (by first|rfl|(rw[HO.out];rfl)) rfl rfl rfl ?_;apply zEx;apply zEx;refine⟨fun w' hS K hK=>?_,?_,?_⟩;(focus (obtain⟨⟨x0,x1,x2,x3,x4,x5,x6,x7,_⟩,⟨y0,y1,y2,y3,y4,y5,y6,y7,_⟩⟩:=hS;go_wp2;exact hK _ _ (by simp only[zl,zG,zH];first|exact zf (by omega)|exact zg (by omega)|exact zh (by omega)|exact zi (by omega)|exact zj (by omega)|exact zk (by omega)|exact RX.bneB _|rfl) rfl));(focus (simp only[zA,zB,zC,zD];rfl))));refine hR _ _ ?_;clear hR R)
       refine zeX (fun R hR=>?_)
       refine zgX (by first|rfl|(rw[HO.out];rfl)) rfl (fun K hK=>?_)
       go_wp2_with fail
       refine (sea_any rk HRD.out.2 w3).mono ?_
       rintro e w4 ⟨rfl,hb4⟩
       rw[hmk]
       have hS4:RptAt w4 bb (o+i*8) ri∧RptAt w4 bb (o+k*8) rk:=⟨hS3.1.below hb4,hS3.2.below hb4⟩
       have HB4:=zN (HB3.out.trans (hb4.mono HB3.out.size))
       clear hb4 hS3
       refine hK _ _ ⟨hS4,hR _ _ ?_⟩;clear hK K hR R
       repeat (refine zeX (fun R hR=>?_);(first|refine zaX (by first|rfl|(rw[HO.out];rfl)) (by simp only[zA,zB,zC,zD];rfl) ?_|refine zbX (by first|rfl|(rw[HO.out];rfl)) rfl (by first|exact .inl rfl|exact .inr rfl) (by simp only[zE,zF,zG,zH];rfl) (by simp only[zA,zB,zC,zD];rfl) ?_|refine zcX (by first|rfl|(rw[HO.out];rfl)) rfl rfl (by simp only[zE,zF,zG,zH];rfl) (by simp only[zA,zB,zC,zD];rfl) ?_|(refine zdX (by first|rfl|(rw[HO.out];rfl)) rfl rfl rfl ?_;apply zEx;apply zEx;refine⟨fun w' hS K hK=>?_,?_,?_⟩;(focus (obtain⟨⟨x0,x1,x2,x3,x4,x5,x6,x7,_⟩,⟨y0,y1,y2,y3,y4,y5,y6,y7,_⟩⟩:=hS;go_wp2;exact hK _ _ (by simp only[zl,zG,zH];first|exact zf (by omega)|exact zg (by omega)|exact zh (by omega)|exact zi (by omega)|exact zj (by omega)|exact zk (by omega)|exact RX.bneB _|rfl) rfl));(focus (simp only[zA,zB,zC,zD];rfl))));refine hR _ _ ?_;clear hR R)
       refine RX.wpL_nil (hQR _ _ (hS4) ?_);clear hQR QR HO OPS
       go_wp2
       go_ret2
       refine⟨.slice none 0 0,?_,?_,HB4.out⟩
       ·rw[HE.out.1];rfl
       ·rw[HE.out.2];exact RdI.nil _
      ·have hdk:decide ((k:Int) < (i:Int))=false:=zDf (by omega)
       have HB3:=zN hb
       have HK2:Hid (∀ a k,a < i+1→k < a→¬ dupP l a k):=zN (fun a k' ha hk'=>by
        by_cases e:a=i
        ·subst e;exact HK.out k' (by omega)
        ·exact HI.out a k' (by omega) hk')
       clear hb HK HI
       go_wp2
       go_roundw
       case rel=>exact⟨i+1,by omega,by go_num,HK2,HB3.out⟩
       case measure=>simp[intOf]<;>omega
    ·have hdi2:decide ((i:Int) < (M:Int))=false:=zDf (by omega)
     have HND:Hid (¬ (rsOf l).Dup):=zN (dup_not (fun a k ha hk=>HI.out a k (by have:=HM.out;omega) hk))
     have HB2:=zN hb
     clear hb HI
     have hmk:=run_make_row' (P:=Tryz.prog) 44 4 (.bool false) 1 Tryz.underlying44 (by kernel_rfl) rfl .i64 .i64 M (by omega) (by omega)
     go_wp2
     clear hmk
     obtain⟨BB,hBB⟩:∃ BB,BB=wr.heap.size:=⟨_,rfl⟩
     obtain⟨W3,hW3⟩:∃ W3,W3=wr.alloc (.cells (madeCells #[.bool false] M) 4):=⟨_,rfl⟩
     have hs3:W3.heap.size=BB+1:=by rw[hW3,hBB];simp
     have n3:BRow W3 BB M (fun _=>false):=by rw[hW3,hBB];exact World.rowIs_made wr (.bool false) M 4
     have m4:BRow (W3.alloc (.cells (madeCells #[.bool false] M) 4)) (BB+1) M (fun _=>false):=by rw[←hs3];exact World.rowIs_made W3 (.bool false) M 4
     have b4:Below BB wr (W3.alloc (.cells (madeCells #[.bool false] M) 4)):=by
      rw[hW3,hBB];exact (((zBr wr.heap.size wr).alloc (Nat.le_refl _) _).alloc (by simp) _)
     have n4:BRow (W3.alloc (.cells (madeCells #[.bool false] M) 4)) BB M (fun _=>false):=n3.of_block (Go.Deep.blk_alloc_lt _ _ _ (by omega))
     rw[←hW3,←hBB]
     generalize W3.alloc (.cells (madeCells #[.bool false] M) 4)=W4 at *
     have HBB:=zN hBB
     have HN0:=zN (n4.congr (g:=(rsOf l).badB (relP n l) 0) (fun j _=>(Rs.badB_zero _ _ j).symm))
     have HM0:=zN (m4.congr (g:=(rsOf l).doneB 0) (fun j _=>(Rs.doneB_zero _ j).symm))
     have HB4:=zN b4
     have hBl:BB+1 < W4.heap.size:=m4.lt
     have hsw:w.heap.size≤BB:=by rw[hBB];exact HB2.out.size
     clear hW3 n3 m4 b4 n4 hBB hs3
     generalize wr=W5 at *
     generalize i=i9 at *
     go_loopw [11] (fun v11 wr=>∃ i:Nat,i≤M∧v11=.int .i64 (i:Int)∧BRow wr BB M ((rsOf l).badB (relP n l) i)∧BRow wr (BB+1) M ((rsOf l).doneB i)∧Below BB W5 wr) (fun v11 _=>M-(intOf v11).toNat)
     case atStart=>exact⟨0,by omega,rfl,HN0.out,HM0.out,HB4.out⟩
     case round=>
      clear HN0 HM0 HB4
      obtain⟨i,hiM,rfl,hbad,hdone,hb⟩:=hrel
      by_cases hi:i < M
      ·have hdi3:decide ((i:Int) < (M:Int))=true:=zDt (by omega)
       have hi0:(0:Int)≤(i:Int):=by omega
       have hi1:(i:Int) < (M:Int):=by omega
       have hil:i < l.length:=by rw[HM.out];exact hi
       have hVw:=HV.out.below (HB2.out.trans (hb.mono hsw))
       have HVW:=zN hVw
       obtain⟨bb,o,hpe,hbbl,hrp⟩:=hVw.cell (by omega)
       have hbb:bb < w.heap.size:=HPB.out ⟨bb,o,none⟩ hpe (by omega)
       have hri:=hrp i hil
       obtain⟨ei1,ei2,ei3⟩:=rs_at hil
       obtain⟨ri,hrie⟩:∃ r,r=l[i]:=⟨_,rfl⟩
       rw[←hrie] at hri ei1 ei2 ei3
       have HEI:=zN (And.intro ei1 (And.intro ei2 ei3))
       have HRIE:=zN hrie
       have hrd:=hri.rd
       obtain⟨x0,x1,x2,x3,x4,x5,x6,x7,_⟩:=hri
       have HBAD:=zN hbad
       have HDONE:=zN hdone
       have HB:=zN hb
       have hdl:=hdone.lt
       subst hpe
       clear hrp hrie hbad hdone hb hVw ei1 ei2 ei3
       go_wp2_with fail
       refine (sea_any ri hrd _).mono ?_
       rintro e w6 ⟨rfl,hb6⟩
       clear x0 x1 x2 x3 x4 x5 x6 x7
       have hsz6:=hb6.size
       have hBAD6:=HBAD.out.below hb6
       have hDONE6:=HDONE.out.below hb6
       have HB6:=zN (HB.out.trans (hb6.mono (by omega)))
       have HVW6:=zN (HVW.out.below hb6)
       cases hm:movB ri
       ·have hmv:(rsOf l).mv i=false:=by rw[HEI.out.1];exact hm
        have HBAD7:=zN (hBAD6.congr (g:=(rsOf l).badB (relP n l) (i+1)) (fun j _=>(Rs.badB_skip (.inl hmv) j).symm))
        have HDONE7:=zN (hDONE6.congr (g:=(rsOf l).doneB (i+1)) (fun j _=>(Rs.doneB_skip (.inl hmv) j).symm))
        clear hBAD6 hDONE6 hm hmv hb6
        go_wp2
        go_roundw
        case rel=>exact⟨i+1,by omega,by go_num,HBAD7.out,HDONE7.out,HB6.out⟩
        case measure=>simp[intOf]<;>omega
       ·have hmv:(rsOf l).mv i=true:=by rw[HEI.out.1];exact hm
        have HMVI:=zN hmv
        have cd:=hDONE6.cell hi
        have HBAD6:=zN hBAD6
        have HDONE6:=zN hDONE6
        cases hdn:(rsOf l).doneB i i
        ·rw[hdn] at cd
         have HDN:=zN hdn
         clear hBAD6 hDONE6 hm hmv hb6 hdn
         go_wp2
         have hdl6:BB+1 < w6.heap.size:=HDONE6.out.lt
         go_loopw [12,13] (fun v12 v13 wr=>∃ (k:Nat) (T:List Nat),i≤k∧k≤M∧v13=.int .i64 (k:Int)∧QRow wr w6.heap.size v12 T∧(rsOf l).IsT ((rsOf l).nm i) k T∧BRow wr (BB+1) M ((rsOf l).doneK i k)∧w6.grownBy wr (some (BB+1))) (fun _ v13 _=>M-(intOf v13).toNat)
         case atStart=>exact⟨i,[],Nat.le_refl _,by omega,rfl,QRow.nil _ _,Rs.IsT.start HMVI.out HDN.out,HDONE6.out.congr (fun j _=>(Rs.doneK_start HMVI.out HDN.out j).symm),grw_refl _ _⟩
         case round=>
          obtain⟨k,T,hik,hkM,rfl,hq,hT,hdk,hg⟩:=hrel
          obtain⟨A,cap',rfl,hcap⟩:=own_slice hq
          have hTl:=hT.len
          have HQ:=zN hq
          have HT:=zN hT
          have HDK:=zN hdk
          have HG:=zN hg
          have HCAP:=zN hcap
          by_cases hk:k < M
          ·have hdkk:decide ((k:Int) < (M:Int))=true:=zDt (by omega)
           have hk0:(0:Int)≤(k:Int):=by omega
           have hk1:(k:Int) < (M:Int):=by omega
           have hkl:k < l.length:=by rw[HM.out];exact hk
           have hgs:=hg.size
           have hdks:=hdk.lt
           obtain⟨bx,ox,ex,_,hrp⟩:=(HVW6.out.gr hg (fun a ha _=>by injection ha with ha;rw[←ha];show bb≠BB+1;omega)).cell (by omega)
           obtain⟨rfl,rfl⟩:bb=bx∧o=ox:=by injection ex with ex;injection ex with e5 e6;exact⟨e5,e6⟩
           have hri:=hrp i hil
           have hrk:=hrp k hkl
           rw[←HRIE.out] at hri
           have hek:=rs_at hkl
           obtain⟨rk,hrke⟩:∃ r,r=l[k]:=⟨_,rfl⟩
           rw[←hrke] at hrk hek
           have HRK:=zN hrke
           have HEK:=zN hek
           have HRD:=zN hrk.rd
           have hSS:RptAt wr.drew bb (o+k*8) rk∧RptAt wr.drew bb (o+i*8) ri:=⟨hrk.of_block rfl,hri.of_block rfl⟩
           clear hrp ex hri hrk hrke hek hq hT hdk hg hcap
           cases hmk:movB rk
           ·have HNO:Hid (((rsOf l).mv k && decide ((rsOf l).nm k=(rsOf l).nm i))=false):=zN (by rw[HEK.out.1,hmk];rfl)
            go_wp2_with fail
            refine RX.region RX.fN (fun w'=>RptAt w' bb (o+k*8) rk∧RptAt w' bb (o+i*8) ri) (by kernel_rfl) (by kernel_rfl) (hSS) (fun OPS HO QR hQR=>?_)
            repeat (refine zeX (fun R hR=>?_);(first|refine zaX (by first|rfl|(rw[HO.out];rfl)) (by simp only[zA,zB,zC,zD];rfl) ?_|refine zbX (by first|rfl|(rw[HO.out];rfl)) rfl (by first|exact .inl rfl|exact .inr rfl) (by simp only[zE,zF,zG,zH];rfl) (by simp only[zA,zB,zC,zD];rfl) ?_|refine zcX (by first|rfl|(rw[HO.out];rfl)) rfl rfl (by simp only[zE,zF,zG,zH];rfl) (by simp only[zA,zB,zC,zD];rfl) ?_|(refine zdX (by first|rfl|(rw[HO.out];rfl)) rfl rfl rfl ?_;apply zEx;apply zEx;refine⟨fun w' hS K hK=>?_,?_,?_⟩;(focus (obtain⟨⟨x0,x1,x2,x3,x4,x5,x6,x7,_⟩,⟨y0,y1,y2,y3,y4,y5,y6,y7,_⟩⟩:=hS;go_wp2;exact hK _ _ (by simp only[zl,zG,zH];first|exact zf (by omega)|exact zg (by omega)|exact zh (by omega)|exact zi (by omega)|exact zj (by omega)|exact zk (by omega)|exact RX.bneB _|rfl) rfl));(focus (simp only[zA,zB,zC,zD];rfl))));refine hR _ _ ?_;clear hR R)
            refine zeX (fun R hR=>?_)
            refine zgX (by first|rfl|(rw[HO.out];rfl)) rfl (fun K hK=>?_)
            go_wp2_with fail
            refine (sea_any rk HRD.out wr.drew).mono ?_
            rintro e w7 ⟨rfl,hb7⟩
            rw[hmk]
            have hS7:RptAt w7 bb (o+k*8) rk∧RptAt w7 bb (o+i*8) ri:=⟨hSS.1.below hb7,hSS.2.below hb7⟩
            have HB7:=zN (show Below wr.heap.size wr w7 from (zBd (zBr _ _)).trans hb7)
            clear hb7 hSS
            refine hK _ _ ⟨hS7,hR _ _ ?_⟩;clear hK K hR R
            repeat (refine zeX (fun R hR=>?_);(first|refine zaX (by first|rfl|(rw[HO.out];rfl)) (by simp only[zA,zB,zC,zD];rfl) ?_|refine zbX (by first|rfl|(rw[HO.out];rfl)) rfl (by first|exact .inl rfl|exact .inr rfl) (by simp only[zE,zF,zG,zH];rfl) (by simp only[zA,zB,zC,zD];rfl) ?_|refine zcX (by first|rfl|(rw[HO.out];rfl)) rfl rfl (by simp only[zE,zF,zG,zH];rfl) (by simp only[zA,zB,zC,zD];rfl) ?_|(refine zdX (by first|rfl|(rw[HO.out];rfl)) rfl rfl rfl ?_;apply zEx;apply zEx;refine⟨fun w' hS K hK=>?_,?_,?_⟩;(focus (obtain⟨⟨x0,x1,x2,x3,x4,x5,x6,x7,_⟩,⟨y0,y1,y2,y3,y4,y5,y6,y7,_⟩⟩:=hS;go_wp2;exact hK _ _ (by simp only[zl,zG,zH];first|exact zf (by omega)|exact zg (by omega)|exact zh (by omega)|exact zi (by omega)|exact zj (by omega)|exact zk (by omega)|exact RX.bneB _|rfl) rfl));(focus (simp only[zA,zB,zC,zD];rfl))));refine hR _ _ ?_;clear hR R)
            refine RX.wpL_nil (hQR _ _ (hS7) ?_);clear hQR QR HO OPS
            have HQ7:=zN (own_bl HQ.out HB7.out)
            have HD7:=zN ((HDK.out.below HB7.out).congr (g:=(rsOf l).doneK i (k+1)) (fun j _=>(Rs.doneK_no HNO.out j).symm))
            have HG7:=zN (HG.out.trans (grw_below HB7.out _))
            clear hS7
            go_wp2
            go_roundw
            case rel=>exact⟨k+1,T,by omega,by omega,by go_num,HQ7.out,HT.out.no HNO.out,HD7.out,HG7.out⟩
            case measure=>simp[intOf]<;>omega
           by_cases hnm:rk.name=ri.name
           rotate_left
           ·have HNO:Hid (((rsOf l).mv k && decide ((rsOf l).nm k=(rsOf l).nm i))=false):=zN (by rw[HEK.out.2.1,HEI.out.2.1,zDf hnm,Bool.and_false])
            have hnb:=(str_ne hnm).1
            have hnt:=(str_ne hnm).2
            have hnb':(rk.name != ri.name)=true:=by unfold bne;rw[hnb];rfl
            have hnt':(rk.name.toList != ri.name.toList)=true:=by unfold bne;rw[hnt];rfl
            go_wp2_with fail
            refine RX.region RX.fN (fun w'=>RptAt w' bb (o+k*8) rk∧RptAt w' bb (o+i*8) ri) (by kernel_rfl) (by kernel_rfl) (hSS) (fun OPS HO QR hQR=>?_)
            repeat (refine zeX (fun R hR=>?_);(first|refine zaX (by first|rfl|(rw[HO.out];rfl)) (by simp only[zA,zB,zC,zD];rfl) ?_|refine zbX (by first|rfl|(rw[HO.out];rfl)) rfl (by first|exact .inl rfl|exact .inr rfl) (by simp only[zE,zF,zG,zH];rfl) (by simp only[zA,zB,zC,zD];rfl) ?_|refine zcX (by first|rfl|(rw[HO.out];rfl)) rfl rfl (by simp only[zE,zF,zG,zH];rfl) (by simp only[zA,zB,zC,zD];rfl) ?_|(refine zdX (by first|rfl|(rw[HO.out];rfl)) rfl rfl rfl ?_;apply zEx;apply zEx;refine⟨fun w' hS K hK=>?_,?_,?_⟩;(focus (obtain⟨⟨x0,x1,x2,x3,x4,x5,x6,x7,_⟩,⟨y0,y1,y2,y3,y4,y5,y6,y7,_⟩⟩:=hS;go_wp2;exact hK _ _ (by simp only[zl,zG,zH];first|exact zf (by omega)|exact zg (by omega)|exact zh (by omega)|exact zi (by omega)|exact zj (by omega)|exact zk (by omega)|exact RX.bneB _|rfl) rfl));(focus (simp only[zA,zB,zC,zD];rfl))));refine hR _ _ ?_;clear hR R)
            refine zeX (fun R hR=>?_)
            refine zgX (by first|rfl|(rw[HO.out];rfl)) rfl (fun K hK=>?_)
            go_wp2_with fail
            refine (sea_any rk HRD.out wr.drew).mono ?_
            rintro e w7 ⟨rfl,hb7⟩
            rw[hmk]
            have hS7:RptAt w7 bb (o+k*8) rk∧RptAt w7 bb (o+i*8) ri:=⟨hSS.1.below hb7,hSS.2.below hb7⟩
            have HB7:=zN (show Below wr.heap.size wr w7 from (zBd (zBr _ _)).trans hb7)
            clear hb7 hSS
            refine hK _ _ ⟨hS7,hR _ _ ?_⟩;clear hK K hR R
            repeat (refine zeX (fun R hR=>?_);(first|refine zaX (by first|rfl|(rw[HO.out];rfl)) (by simp only[zA,zB,zC,zD];rfl) ?_|refine zbX (by first|rfl|(rw[HO.out];rfl)) rfl (by first|exact .inl rfl|exact .inr rfl) (by simp only[zE,zF,zG,zH];rfl) (by simp only[zA,zB,zC,zD];rfl) ?_|refine zcX (by first|rfl|(rw[HO.out];rfl)) rfl rfl (by simp only[zE,zF,zG,zH];rfl) (by simp only[zA,zB,zC,zD];rfl) ?_|(refine zdX (by first|rfl|(rw[HO.out];rfl)) rfl rfl rfl ?_;apply zEx;apply zEx;refine⟨fun w' hS K hK=>?_,?_,?_⟩;(focus (obtain⟨⟨x0,x1,x2,x3,x4,x5,x6,x7,_⟩,⟨y0,y1,y2,y3,y4,y5,y6,y7,_⟩⟩:=hS;go_wp2;exact hK _ _ (by simp only[zl,zG,zH];first|exact zf (by omega)|exact zg (by omega)|exact zh (by omega)|exact zi (by omega)|exact zj (by omega)|exact zk (by omega)|exact RX.bneB _|rfl) rfl));(focus (simp only[zA,zB,zC,zD];rfl))));refine hR _ _ ?_;clear hR R)
            refine RX.wpL_nil (hQR _ _ (hS7) ?_);clear hQR QR HO OPS
            have HQ7:=zN (own_bl HQ.out HB7.out)
            have HD7:=zN ((HDK.out.below HB7.out).congr (g:=(rsOf l).doneK i (k+1)) (fun j _=>(Rs.doneK_no HNO.out j).symm))
            have HG7:=zN (HG.out.trans (grw_below HB7.out _))
            clear hS7
            go_wp2
            go_roundw
            case rel=>exact⟨k+1,T,by omega,by omega,by go_num,HQ7.out,HT.out.no HNO.out,HD7.out,HG7.out⟩
            case measure=>simp[intOf]<;>omega
           have HYES:Hid (((rsOf l).mv k && decide ((rsOf l).nm k=(rsOf l).nm i))=true):=zN (by rw[HEK.out.1,hmk,HEK.out.2.1,HEI.out.2.1,zDt hnm];rfl)
           have hnb:=(str_eq hnm).1
           have hnt:=(str_eq hnm).2
           have hnb':(rk.name != ri.name)=false:=by unfold bne;rw[hnb];rfl
           have hnt':(rk.name.toList != ri.name.toList)=false:=by unfold bne;rw[hnt];rfl
           clear hnm
           go_wp2_with fail
           refine RX.region RX.fN (fun w'=>RptAt w' bb (o+k*8) rk∧RptAt w' bb (o+i*8) ri) (by kernel_rfl) (by kernel_rfl) (hSS) (fun OPS HO QR hQR=>?_)
           repeat (refine zeX (fun R hR=>?_);(first|refine zaX (by first|rfl|(rw[HO.out];rfl)) (by simp only[zA,zB,zC,zD];rfl) ?_|refine zbX (by first|rfl|(rw[HO.out];rfl)) rfl (by first|exact .inl rfl|exact .inr rfl) (by simp only[zE,zF,zG,zH];rfl) (by simp only[zA,zB,zC,zD];rfl) ?_|refine zcX (by first|rfl|(rw[HO.out];rfl)) rfl rfl (by simp only[zE,zF,zG,zH];rfl) (by simp only[zA,zB,zC,zD];rfl) ?_|(refine zdX (by first|rfl|(rw[HO.out];rfl)) rfl rfl rfl ?_;apply zEx;apply zEx;refine⟨fun w' hS K hK=>?_,?_,?_⟩;(focus (obtain⟨⟨x0,x1,x2,x3,x4,x5,x6,x7,_⟩,⟨y0,y1,y2,y3,y4,y5,y6,y7,_⟩⟩:=hS;go_wp2;exact hK _ _ (by simp only[zl,zG,zH];first|exact zf (by omega)|exact zg (by omega)|exact zh (by omega)|exact zi (by omega)|exact zj (by omega)|exact zk (by omega)|exact RX.bneB _|rfl) rfl));(focus (simp only[zA,zB,zC,zD];rfl))));refine hR _ _ ?_;clear hR R)
           refine zeX (fun R hR=>?_)
           refine zgX (by first|rfl|(rw[HO.out];rfl)) rfl (fun K hK=>?_)
           go_wp2_with fail
           refine (sea_any rk HRD.out wr.drew).mono ?_
           rintro e w7 ⟨rfl,hb7⟩
           rw[hmk]
           have hS7:RptAt w7 bb (o+k*8) rk∧RptAt w7 bb (o+i*8) ri:=⟨hSS.1.below hb7,hSS.2.below hb7⟩
           have HB7:=zN (show Below wr.heap.size wr w7 from (zBd (zBr _ _)).trans hb7)
           clear hb7 hSS
           refine hK _ _ ⟨hS7,hR _ _ ?_⟩;clear hK K hR R
           repeat (refine zeX (fun R hR=>?_);(first|refine zaX (by first|rfl|(rw[HO.out];rfl)) (by simp only[zA,zB,zC,zD];rfl) ?_|refine zbX (by first|rfl|(rw[HO.out];rfl)) rfl (by first|exact .inl rfl|exact .inr rfl) (by simp only[zE,zF,zG,zH];rfl) (by simp only[zA,zB,zC,zD];rfl) ?_|refine zcX (by first|rfl|(rw[HO.out];rfl)) rfl rfl (by simp only[zE,zF,zG,zH];rfl) (by simp only[zA,zB,zC,zD];rfl) ?_|(refine zdX (by first|rfl|(rw[HO.out];rfl)) rfl rfl rfl ?_;apply zEx;apply zEx;refine⟨fun w' hS K hK=>?_,?_,?_⟩;(focus (obtain⟨⟨x0,x1,x2,x3,x4,x5,x6,x7,_⟩,⟨y0,y1,y2,y3,y4,y5,y6,y7,_⟩⟩:=hS;go_wp2;exact hK _ _ (by simp only[zl,zG,zH];first|exact zf (by omega)|exact zg (by omega)|exact zh (by omega)|exact zi (by omega)|exact zj (by omega)|exact zk (by omega)|exact RX.bneB _|rfl) rfl));(focus (simp only[zA,zB,zC,zD];rfl))));refine hR _ _ ?_;clear hR R)
           refine RX.wpL_nil (hQR _ _ (hS7) ?_);clear hQR QR HO OPS
           clear hS7 hnb hnt hnb' hnt'
           have hdk7:=HDK.out.below HB7.out
           have c27:=hdk7.cell hk
           have f27:=World.rowIs.frozen hdk7 k
           have hg8:w6.grownBy (w7.setCell ⟨BB+1,k,none⟩ (.bool true)) (some (BB+1)):=grw_set (HG.out.trans (grw_below HB7.out _)) (.inl rfl)
           have HG8:=zN hg8
           have HD8:=zN ((hdk7.set k true).congr (g:=(rsOf l).doneK i (k+1)) (fun j _=>(Rs.doneK_yes HYES.out j).symm))
           have HQ8:Hid (QRow (w7.setCell ⟨BB+1,k,none⟩ (.bool true)) w6.heap.size (.slice A T.length cap') T):=zN (own_gr (own_bl HQ.out HB7.out) (grw_set (grw_refl w7 _) (.inl rfl)) hdl6)
           have HV8:=zN (HVW6.out.gr hg8 (fun a ha _=>by injection ha with ha;rw[←ha];show bb≠BB+1;omega))
           clear hdk7 hg8
           go_wp2
           clear c27 f27
           generalize w7.setCell ⟨BB+1,k,none⟩ (.bool true)=w8 at *
           go_loopw [14] (fun v14 wx=>∃ m:Nat,m≤T.length∧v14=.int .i64 (m:Int)∧Hid (∀ j (h:j < T.length),j < m→(rsOf l).tm T[j] < (rsOf l).tm k)∧Below w8.heap.size w8 wx) (fun v14 _=>T.length-(intOf v14).toNat)
           case atStart=>exact⟨0,by omega,rfl,zN (fun j _ h=>by omega),zBr _ _⟩
           case round=>
            obtain⟨m,hmT,rfl,HLT,hb⟩:=hrel
            by_cases hm:m < T.length
            ·have hdm:decide ((m:Int) < (T.length:Int))=true:=zDt (by omega)
             obtain⟨b',cq,e1,_,hgq1,hgq2,hqc⟩:=QRow.at_ (own_bl HQ8.out hb) (List.getElem?_eq_getElem hm)
             injection e1 with e1 _ e3
             subst e1 e3
             obtain⟨t,ht⟩:∃ t,t=T[m]:=⟨_,rfl⟩
             have htk:=HT.out.mem.1 (List.getElem_mem hm)
             rw[←ht] at hqc htk
             have htl:t < l.length:=by omega
             obtain⟨bx,ox,ex,_,hrp⟩:=(HV8.out.below hb).cell (by omega)
             obtain⟨rfl,rfl⟩:bb=bx∧o=ox:=by injection ex with ex;injection ex with e5 e6;exact⟨e5,e6⟩
             have x2:=(hrp t htl).c2
             have y2:=(hrp k hkl).c2
             rw[←HRK.out] at y2
             have ett:=(rs_at htl).2.2
             obtain⟨tt,htt⟩:∃ tt,tt=l[t].time:=⟨_,rfl⟩
             rw[←htt] at x2 ett
             have HTT:=zN (And.intro ht ett)
             have hm0:(0:Int)≤(m:Int):=by omega
             have hm1:(m:Int) < (T.length:Int):=by omega
             have ht0:(0:Int)≤(t:Int):=by omega
             have ht1:(t:Int) < (M:Int):=by have:=HM.out;omega
             clear hrp ex ht htt ett htk htl
             by_cases hlt:tt < rk.time
             ·have hdl:decide (tt < rk.time)=true:=zDt hlt
              have HBX:=zN (hb.trans (zBd (zBr _ _)))
              clear hb
              go_wp2_with fail
              refine RX.region RX.fN (fun w'=>w'=_) (by kernel_rfl) (by kernel_rfl) rfl (fun OPS HO QR hQR=>?_)
              repeat (refine zeX (fun R hR=>?_);(first|refine zaX (by first|rfl|(rw[HO.out];rfl)) (by simp only[zA,zB,zC,zD];rfl) ?_|refine zbX (by first|rfl|(rw[HO.out];rfl)) rfl (by first|exact .inl rfl|exact .inr rfl) (by simp only[zE,zF,zG,zH];rfl) (by simp only[zA,zB,zC,zD];rfl) ?_|refine zcX (by first|rfl|(rw[HO.out];rfl)) rfl rfl (by simp only[zE,zF,zG,zH];rfl) (by simp only[zA,zB,zC,zD];rfl) ?_|(refine zdX (by first|rfl|(rw[HO.out];rfl)) rfl rfl rfl ?_;apply zEx;apply zEx;refine⟨fun w' hS K hK=>?_,?_,?_⟩;(focus (subst hS;go_wp2;exact hK _ _ (by simp only[zl,zG,zH];first|exact zf (by omega)|exact zg (by omega)|exact zh (by omega)|exact zi (by omega)|exact zj (by omega)|exact zk (by omega)|exact RX.bneB _|rfl) rfl));(focus (simp only[zA,zB,zC,zD];rfl))));refine hR _ _ ?_;clear hR R)
              refine RX.wpL_nil (hQR _ _ rfl ?_);clear hQR QR HO OPS
              go_wp2
              go_roundw
              case rel=>exact⟨m+1,by omega,by go_num,zN (fun j hj hjm=>by
               by_cases e:j=m
               ·subst e
                rw[←HTT.out.1,HTT.out.2,HEK.out.2.2]
                exact hlt
               ·exact HLT.out j hj (by omega)),HBX.out⟩
              case measure=>simp[intOf]<;>omega
             ·have hdl:decide (tt < rk.time)=false:=zDf hlt
              have HGE:Hid (∀ (hj:m < T.length),¬ (rsOf l).tm T[m] < (rsOf l).tm k):=zN (fun _=>by
               rw[←HTT.out.1,HTT.out.2,HEK.out.2.2]
               exact hlt)
              have hcap:=HCAP.out
              have HQ9:=zN (own_bl HQ8.out (hb.trans (zBd (zBr _ _))))
              have HD9:=zN (HD8.out.below (hb.trans (zBd (zBr _ _))))
              have HG9:=zN (HG8.out.trans (grw_below (hb.trans (zBd (zBr _ _))) _))
              have hs9:w6.heap.size≤wr.drew.heap.size:=by have:=HG9.out.size;omega
              clear hb
              go_wp2_with fail
              refine RX.region RX.fN (fun w'=>w'=_) (by kernel_rfl) (by kernel_rfl) rfl (fun OPS HO QR hQR=>?_)
              repeat (refine zeX (fun R hR=>?_);(first|refine zaX (by first|rfl|(rw[HO.out];rfl)) (by simp only[zA,zB,zC,zD];rfl) ?_|refine zbX (by first|rfl|(rw[HO.out];rfl)) rfl (by first|exact .inl rfl|exact .inr rfl) (by simp only[zE,zF,zG,zH];rfl) (by simp only[zA,zB,zC,zD];rfl) ?_|refine zcX (by first|rfl|(rw[HO.out];rfl)) rfl rfl (by simp only[zE,zF,zG,zH];rfl) (by simp only[zA,zB,zC,zD];rfl) ?_|(refine zdX (by first|rfl|(rw[HO.out];rfl)) rfl rfl rfl ?_;apply zEx;apply zEx;refine⟨fun w' hS K hK=>?_,?_,?_⟩;(focus (subst hS;go_wp2;exact hK _ _ (by simp only[zl,zG,zH];first|exact zf (by omega)|exact zg (by omega)|exact zh (by omega)|exact zi (by omega)|exact zj (by omega)|exact zk (by omega)|exact RX.bneB _|rfl) rfl));(focus (simp only[zA,zB,zC,zD];rfl))));refine hR _ _ ?_;clear hR R)
              refine RX.wpL_nil (hQR _ _ rfl ?_);clear hQR QR HO OPS
              generalize wr.drew=W9 at *
              have hq1:=HQ9.out
              clear HQ9
              have hb1:Below W9.heap.size W9 (W9.alloc (.cells #[.int .i64 (k:Int)] 3)):=(zBr _ _).alloc (Nat.le_refl _) _
              have hT100:T.length≤100:=by omega
              have hkk:(0:Int)≤(m:Int):=by omega
              clear hdl hlt hdm hqc x2 y2 hm0 hm1 ht0 ht1
              have hq1a:=World.ownsRow.alloc hq1 (.cells #[.int .i64 (k:Int)] 3)
              by_cases hkl:cap'=m
              ·exfalso
               omega
              ·have hsrc:RX.SrcAt (W9.alloc (.cells #[.int .i64 (k:Int)] 3)) (some ⟨b',m,none⟩) (T.length-m) (qV (T.drop m)):=by
                have h9:=(RX.SrcAt.of_own hq1a).cut (k:=m) (cap:=cap') (size:=1) (by omega) hcap
                rw[if_neg hkl,Nat.mul_one,qV_drop] at h9
                simpa[Addr.add_lit] using h9
               have hkl2:¬ m=cap':=fun e=>hkl e.symm
               go_wp2_with (first
                |(refine RX.wpl_apr (by rfl) elIn _ _ (by rfl) W9.heap.size #[.int .i64 (k:Int)] (by rfl) (heap_alloc_new _ _) (by rfl) (some ⟨b',m,none⟩) (T.length-m) _ (qV (T.drop m)) (by rfl) (by rw[qV_len,List.length_drop,Nat.mul_one]) hsrc (qV_one _) (by omega) (by omega) ?_;intro v2 w2 hown1 hg2 hat2;have hb2:Below W9.heap.size W9 w2:=hb1.grown hg2 (by simp) (fun k' hk'=>by injection hk' with hk';omega);have hs2:=(RX.SrcAt.of_own (own_bl hq1 hb2)).take (k:=m) (size:=1) (by omega);rw[Nat.mul_one,qV_take] at hs2;clear hg2 hat2;have hb2s:=hb2.size)
                |(refine RX.wpl_apg (by rfl) elIn _ _ (by rfl) (some ⟨b',0,none⟩) m (qV (T.take m)) (by rfl) (fun e=>by cases e) (by rw[qV_len,List.length_take,Nat.mul_one];omega) hs2 W9.heap.size (1+(T.length-m)) v2 _ (by rfl) hown1 (by omega) (by intro u hu;rcases List.mem_append.1 hu with hu|hu;(simp at hu;subst hu;rfl);exact qV_one _ u hu) (by omega) (by omega) ?_;intro v3 w3 hown3 hg3))
               have hb3:Below W9.heap.size W9 w3:=hb2.grown hg3 hb2.size (fun k' hk'=>by cases hk')
               have HQ3:Hid (QRow w3 w6.heap.size v3 (T.take m ++ ([k] ++ T.drop m))):=zN (QRow.ins (D:=T) (k:=m) hmT hown3 (by omega))
               have HB3:=zN hb3
               clear hown1 hown3 hg3 hb1 hb2 hb3 hq1 hq1a hsrc
               go_wp2
               go_roundw
               case rel=>exact⟨k+1,_,by omega,by omega,by go_num,HQ3.out,HT.out.yes HYES.out hmT HLT.out (fun hj=>by have:=HGE.out hj;omega),HD9.out.below HB3.out,HG9.out.trans (grw_below HB3.out _)⟩
               case measure=>simp[intOf]<;>omega
            ·have hdm:decide ((m:Int) < (T.length:Int))=false:=zDf (by omega)
             have HGE:Hid (∀ (hj:m < T.length),¬ (rsOf l).tm T[m] < (rsOf l).tm k):=zN (fun hj=>absurd hj hm)
             have hcap:=HCAP.out
             have HQ9:=zN (own_bl HQ8.out (hb.trans (zBd (zBr _ _))))
             have HD9:=zN (HD8.out.below (hb.trans (zBd (zBr _ _))))
             have HG9:=zN (HG8.out.trans (grw_below (hb.trans (zBd (zBr _ _))) _))
             have hs9:w6.heap.size≤wr.drew.heap.size:=by have:=HG9.out.size;omega
             clear hb
             go_wp2_with fail
             refine RX.region RX.fN (fun w'=>w'=_) (by kernel_rfl) (by kernel_rfl) rfl (fun OPS HO QR hQR=>?_)
             repeat (refine zeX (fun R hR=>?_);(first|refine zaX (by first|rfl|(rw[HO.out];rfl)) (by simp only[zA,zB,zC,zD];rfl) ?_|refine zbX (by first|rfl|(rw[HO.out];rfl)) rfl (by first|exact .inl rfl|exact .inr rfl) (by simp only[zE,zF,zG,zH];rfl) (by simp only[zA,zB,zC,zD];rfl) ?_|refine zcX (by first|rfl|(rw[HO.out];rfl)) rfl rfl (by simp only[zE,zF,zG,zH];rfl) (by simp only[zA,zB,zC,zD];rfl) ?_|(refine zdX (by first|rfl|(rw[HO.out];rfl)) rfl rfl rfl ?_;apply zEx;apply zEx;refine⟨fun w' hS K hK=>?_,?_,?_⟩;(focus (subst hS;go_wp2;exact hK _ _ (by simp only[zl,zG,zH];first|exact zf (by omega)|exact zg (by omega)|exact zh (by omega)|exact zi (by omega)|exact zj (by omega)|exact zk (by omega)|exact RX.bneB _|rfl) rfl));(focus (simp only[zA,zB,zC,zD];rfl))));refine hR _ _ ?_;clear hR R)
             refine RX.wpL_nil (hQR _ _ rfl ?_);clear hQR QR HO OPS
             generalize wr.drew=W9 at *
             have hq1:=HQ9.out
             clear HQ9
             have hb1:Below W9.heap.size W9 (W9.alloc (.cells #[.int .i64 (k:Int)] 3)):=(zBr _ _).alloc (Nat.le_refl _) _
             have hT100:T.length≤100:=by omega
             have hkk:(0:Int)≤(m:Int):=by omega
             clear hdm
             cases A with
             |none=>
              have hD0:T=[]:=by
               rcases Nat.eq_zero_or_pos T.length with h0|h0
               ·exact List.eq_nil_of_length_eq_zero h0
               ·obtain⟨g',c',e,_⟩:=hq1.form h0
                cases e
              subst hD0
              have hk0':m=0:=by simpa using hmT
              subst hk0'
              simp only[List.length_nil] at *
              have hown1:(W9.alloc (.cells #[.int .i64 (k:Int)] 3)).ownsRow W9.heap.size 3 1 (.slice (some ⟨W9.heap.size,0,none⟩) 1 1) 1 #[Value.int .i64 (k:Int)].toList:=RX.own_new (heap_alloc_new _ _) rfl
              have hb2:=hb1
              go_wp2_with (refine RX.wpl_apg (by rfl) elIn _ _ (by rfl) none 0 [] (by rfl) (fun _=>rfl) rfl (RX.SrcAt.none _ _ _) W9.heap.size 1 _ _ (by rfl) hown1 (by omega) (by intro u hu;simp at hu;subst hu;rfl) (by omega) (by omega) ?_;intro v3 w3 hown3 hg3)
              have hb3:Below W9.heap.size W9 w3:=hb2.grown hg3 hb2.size (fun k' hk'=>by cases hk')
              have HQ3:Hid (QRow w3 w6.heap.size v3 (([]:List Nat).take 0 ++ ([k] ++ ([]:List Nat).drop 0))):=zN (QRow.ins (D:=([]:List Nat)) (k:=0) hmT (by simpa[qV] using hown3) (by omega))
              have HB3:=zN hb3
              clear hown1 hown3 hg3 hb1 hb2 hb3 hq1
              go_wp2
              go_roundw
              case rel=>exact⟨k+1,_,by omega,by omega,by go_num,HQ3.out,HT.out.yes HYES.out hmT HLT.out (fun hj=>by have:=HGE.out hj;omega),HD9.out.below HB3.out,HG9.out.trans (grw_below HB3.out _)⟩
              case measure=>simp[intOf]<;>omega
             |some ad=>
              obtain⟨b',rfl⟩:∃ b',ad=⟨b',0,none⟩:=by
               rcases hq1.2 with ⟨e,_⟩|⟨g',c',cur,e,_⟩
               ·cases e
               ·injection e with e
                injection e with e
                exact⟨g',e⟩
              have hq1a:=World.ownsRow.alloc hq1 (.cells #[.int .i64 (k:Int)] 3)
              by_cases hkl:cap'=m
              ·have hDk:T.length=m:=by omega
               have hsrc:RX.SrcAt (W9.alloc (.cells #[.int .i64 (k:Int)] 3)) (some ⟨b',0,none⟩) (T.length-m) (qV (T.drop m)):=by rw[hDk,Nat.sub_self];exact RX.SrcAt.none _ _ _
               clear hDk
               subst hkl
               have hz:T.length-cap'=0:=by omega
               rw[hz] at hsrc
               have HZ:=zN hz
               clear hz
               go_wp2_with (first
                |(refine RX.wpl_apr (by rfl) elIn _ _ (by rfl) W9.heap.size #[.int .i64 (k:Int)] (by rfl) (heap_alloc_new _ _) (by rfl) (some ⟨b',0,none⟩) 0 _ (qV (T.drop cap')) (by rfl) (by rw[qV_len,List.length_drop,Nat.mul_one];exact HZ.out) hsrc (qV_one _) (by omega) (by omega) ?_;intro v2 w2 hown1 hg2 hat2;have hb2:Below W9.heap.size W9 w2:=hb1.grown hg2 (by simp) (fun k' hk'=>by injection hk' with hk';omega);have hs2:=(RX.SrcAt.of_own (own_bl hq1 hb2)).take (k:=cap') (size:=1) (by omega);rw[Nat.mul_one,qV_take] at hs2;clear hg2 hat2;have hb2s:=hb2.size)
                |(refine RX.wpl_apg (by rfl) elIn _ _ (by rfl) (some ⟨b',0,none⟩) cap' (qV (T.take cap')) (by rfl) (fun e=>by cases e) (by rw[qV_len,List.length_take,Nat.mul_one];omega) hs2 W9.heap.size (1+0) v2 _ (by rfl) hown1 (by omega) (by intro u hu;rcases List.mem_append.1 hu with hu|hu;(simp at hu;subst hu;rfl);exact qV_one _ u hu) (by omega) (by omega) ?_;intro v3 w3 hown3 hg3))
               have hb3:Below W9.heap.size W9 w3:=hb2.grown hg3 hb2.size (fun k' hk'=>by cases hk')
               have HQ3:Hid (QRow w3 w6.heap.size v3 (T.take cap' ++ ([k] ++ T.drop cap'))):=zN (QRow.ins (D:=T) (k:=cap') hmT (by rw[HZ.out];exact hown3) (by omega))
               have HB3:=zN hb3
               clear hown1 hown3 hg3 hb1 hb2 hb3 hq1 hq1a hsrc
               go_wp2
               go_roundw
               case rel=>exact⟨k+1,_,by omega,by omega,by go_num,HQ3.out,HT.out.yes HYES.out hmT HLT.out (fun hj=>by have:=HGE.out hj;omega),HD9.out.below HB3.out,HG9.out.trans (grw_below HB3.out _)⟩
               case measure=>simp[intOf]<;>omega
              ·have hsrc:RX.SrcAt (W9.alloc (.cells #[.int .i64 (k:Int)] 3)) (some ⟨b',m,none⟩) (T.length-m) (qV (T.drop m)):=by
                have h9:=(RX.SrcAt.of_own hq1a).cut (k:=m) (cap:=cap') (size:=1) (by omega) hcap
                rw[if_neg hkl,Nat.mul_one,qV_drop] at h9
                simpa[Addr.add_lit] using h9
               have hkl2:¬ m=cap':=fun e=>hkl e.symm
               go_wp2_with (first
                |(refine RX.wpl_apr (by rfl) elIn _ _ (by rfl) W9.heap.size #[.int .i64 (k:Int)] (by rfl) (heap_alloc_new _ _) (by rfl) (some ⟨b',m,none⟩) (T.length-m) _ (qV (T.drop m)) (by rfl) (by rw[qV_len,List.length_drop,Nat.mul_one]) hsrc (qV_one _) (by omega) (by omega) ?_;intro v2 w2 hown1 hg2 hat2;have hb2:Below W9.heap.size W9 w2:=hb1.grown hg2 (by simp) (fun k' hk'=>by injection hk' with hk';omega);have hs2:=(RX.SrcAt.of_own (own_bl hq1 hb2)).take (k:=m) (size:=1) (by omega);rw[Nat.mul_one,qV_take] at hs2;clear hg2 hat2;have hb2s:=hb2.size)
                |(refine RX.wpl_apg (by rfl) elIn _ _ (by rfl) (some ⟨b',0,none⟩) m (qV (T.take m)) (by rfl) (fun e=>by cases e) (by rw[qV_len,List.length_take,Nat.mul_one];omega) hs2 W9.heap.size (1+(T.length-m)) v2 _ (by rfl) hown1 (by omega) (by intro u hu;rcases List.mem_append.1 hu with hu|hu;(simp at hu;subst hu;rfl);exact qV_one _ u hu) (by omega) (by omega) ?_;intro v3 w3 hown3 hg3))
               have hb3:Below W9.heap.size W9 w3:=hb2.grown hg3 hb2.size (fun k' hk'=>by cases hk')
               have HQ3:Hid (QRow w3 w6.heap.size v3 (T.take m ++ ([k] ++ T.drop m))):=zN (QRow.ins (D:=T) (k:=m) hmT hown3 (by omega))
               have HB3:=zN hb3
               clear hown1 hown3 hg3 hb1 hb2 hb3 hq1 hq1a hsrc
               go_wp2
               go_roundw
               case rel=>exact⟨k+1,_,by omega,by omega,by go_num,HQ3.out,HT.out.yes HYES.out hmT HLT.out (fun hj=>by have:=HGE.out hj;omega),HD9.out.below HB3.out,HG9.out.trans (grw_below HB3.out _)⟩
               case measure=>simp[intOf]<;>omega
          ·have hdkk:decide ((k:Int) < (M:Int))=false:=zDf (by omega)
           have hkM':k=M:=by omega
           have hRn:(rsOf l).n=M:=HM.out
           have HTG:Hid ((rsOf l).IsG ((rsOf l).nm i) T):=zN (by
            have h:=HT.out
            rw[hkM',←hRn] at h
            exact h.fin)
           have HD5:Hid (BRow wr (BB+1) M ((rsOf l).doneB (i+1))):=zN (HDK.out.congr (fun j hj=>by
            rw[hkM',←hRn]
            exact Rs.doneK_end HMVI.out (by rw[hRn];exact hj)))
           have hT30:T.length≤30:=by omega
           have hTd:decide ((T.length:Int) > 30)=false:=zDf (by omega)
           have hgs:=hg.size
           have HBAD8:=zN ((HBAD6.out.of_block (hg.block BB (by omega) (by simp))).congr (g:=(rsOf l).badT (relP n l) i T 0) (fun j _=>(Rs.badT_zero j).symm))
           have HV8:=zN (HVW6.out.gr hg (fun a ha _=>by injection ha with ha;rw[←ha];show bb≠BB+1;omega))
           have hBl8:BB < wr.heap.size:=by omega
           clear hkM' hRn hq hT hdk hg hcap
           go_wp2
           generalize wr=W8 at *
           go_loopw [16,189] (fun v16 v189 wr=>∃ q:Nat,q≤T.length∧v189=.int .i64 (q:Int)∧RepRow wr W8.heap.size v16 (partL l (T.take q))∧BRow wr BB M ((rsOf l).badT (relP n l) i T q)∧W8.grownBy wr (some BB)) (fun _ v189 _=>T.length-(intOf v189).toNat)
           case atStart=>exact⟨0,by omega,rfl,RepRow.nil _ _,HBAD8.out,grw_refl _ _⟩
           case round=>
            obtain⟨q,hqT,rfl,hrow,hbt,hg⟩:=hrel
            obtain⟨pl,hple⟩:∃ pl,pl=partL l (T.take q):=⟨_,rfl⟩
            have hpl:pl.length=q:=by rw[hple];unfold partL;rw[List.length_map,List.length_take];omega
            rw[←hple] at hrow
            by_cases hqq:q < T.length
            ·have hdq:decide ((q:Int) < (T.length:Int))=true:=zDt (by omega)
             obtain⟨py,cy,rfl,hcy⟩:=own_slice hrow
             obtain⟨b',cq,e1,_,hgq1,hgq2,hqc⟩:=QRow.at_ (own_gr HQ.out hg (by omega)) (List.getElem?_eq_getElem hqq)
             injection e1 with e1 _ e3
             subst e1 e3
             obtain⟨t,ht⟩:∃ t,t=T[q]:=⟨_,rfl⟩
             have htk:=HTG.out.mem.1 (List.getElem_mem hqq)
             rw[←ht] at hqc htk
             have htl:t < l.length:=htk.1
             obtain⟨bx,ox,ex,_,hrp⟩:=(HV8.out.gr hg (fun a ha _=>by injection ha with ha;rw[←ha];show bb≠BB;omega)).cell (by omega)
             obtain⟨rfl,rfl⟩:bb=bx∧o=ox:=by injection ex with ex;injection ex with e5 e6;exact⟨e5,e6⟩
             have hra:=hrp t htl
             have HPT:Hid (partL l (T.take (q+1))=pl ++ [l[t]]):=zN (by
              unfold partL
              rw[List.take_succ_eq_append_getElem hqq,List.map_append,hple,←ht,List.map_singleton,getD_rep htl];rfl)
             have HBT1:Hid (∀ j,(rsOf l).badT (relP n l) i T (q+1) j=if j=t then true else (rsOf l).badT (relP n l) i T q j):=zN (fun j=>by rw[ht];exact Rs.badT_step hqq j)
             generalize l[t]=r at *
             obtain⟨qr,nq,cq',hrd⟩:=hra.rd
             obtain⟨c0,c1,c2,c3,c4,c5,c6',c7',_⟩:=hra
             rw[hrd] at c7'
             have hrpc:rpc r=[.int .i64 r.kind,.string r.name,.int .i64 r.time,.int .i64 r.f,.int .i64 r.a,.int .i64 r.b,.int .i64 r.c,.slice qr nq cq']:=by unfold rpc;rw[hrd]
             have HRPC:=zN hrpc
             have hown:(wr.alloc (.cells #[.int .i64 r.kind,.string r.name,.int .i64 r.time,.int .i64 r.f,.int .i64 r.a,.int .i64 r.b,.int .i64 r.c,.slice qr nq cq'] 35)).ownsRow W8.heap.size 35 8 (.slice py pl.length cy) pl.length (pl.flatMap rpc):=World.ownsRow.alloc hrow _
             have ht0:(0:Int)≤(t:Int):=by omega
             have htM:t < M:=by have:=HM.out;omega
             have ht1:(t:Int) < (M:Int):=by omega
             have hj0:(0:Int)≤(q:Int):=by omega
             have hjI:(q:Int) < (T.length:Int):=by omega
             have hpl30:pl.length≤30:=by omega
             have hsz:=hg.size
             have HG7:=zN hg
             have HBT:=zN hbt
             clear hrp ex ht htl htk hrd hrpc hpl hg hrow hple hbt
             go_wp2_with (refine RX.wpl_apq (by rfl) elRep _ _ (by rfl) W8.heap.size _ _ _ hown (by rfl) wr.heap.size _ 1 (by rfl) (heap_alloc_new _ _) (by rfl) (by simp[Value.oneCell']) (by omega) (by omega) (by simp;omega) ?_;intro v' w8 hown2 hb8 hg8 hat8;have hbw:Below W8.heap.size wr w8:=((zBr W8.heap.size wr).alloc hsz _).trans hb8;have hbt8:=HBT.out.of_block (hbw.block BB hBl8);have c8:=hbt8.cell htM;have f8:=World.rowIs.frozen hbt8 t)
             have HR8:Hid (RepRow (w8.setCell ⟨BB,t,none⟩ (.bool true)) W8.heap.size v' (pl ++ [r])):=zN (own_gr (g:=BB) (RepRow.snoc (by rw[HRPC.out];exact hown2)) (grw_set (grw_refl w8 _) (.inl rfl)) hBl8)
             have HG8:Hid (W8.grownBy (w8.setCell ⟨BB,t,none⟩ (.bool true)) (some BB)):=zN (grw_set (grw_own2 HG7.out hbw) (.inl rfl))
             have HBT8:=zN ((hbt8.set t true).congr (g:=(rsOf l).badT (relP n l) i T (q+1)) (fun j _=>(HBT1.out j).symm))
             clear hown2 hb8 hg8 hat8 hown c0 c1 c2 c3 c4 c5 c6' c7' hqc hbw hbt8
             go_wp2
             go_roundw
             case rel=>first|exact⟨q+1,by omega,by go_num,by rw[HPT.out];exact HR8.out,HBT8.out,HG8.out⟩|exact⟨_,_,.int .i64 ((q+1:Nat):Int),⟨q+1,by omega,rfl,by rw[HPT.out];exact HR8.out,HBT8.out,HG8.out⟩,rfl,rfl,by go_num⟩
             case measure=>simp[intOf]<;>omega
            ·have hdq:decide ((q:Int) < (T.length:Int))=false:=zDf (by omega)
             have hqT':q=T.length:=by omega
             rw[hqT',List.take_length] at hple
             rw[hqT'] at hbt hpl
             have hPR:∀ r∈pl,RdOk r∧ValR r:=fun r hr=>by
              rw[hple] at hr
              unfold partL at hr
              obtain⟨t,ht,rfl⟩:=List.mem_map.1 hr
              obtain⟨h1,h2,_⟩:=HTG.out.mem.1 ht
              have h1':t < l.length:=h1
              rw[(rs_at h1').1] at h2
              rw[getD_rep h1']
              obtain⟨bx,ox,ex,_,hrp⟩:=HV8.out.cell (by omega)
              exact⟨(hrp t h1').rd,HMV.out _ (List.getElem_mem h1') h2⟩
             obtain⟨pp,cp,rfl,hcp,hvp,_⟩:=hrow.form (fun r hr=>(hPR r hr).1)
             rw[hpl] at hcp ⊢
             have HCH:=zN (rchain_any n hn0 hn1 pp cp T.length pl hpl (fun r hr=>(hPR r hr).2) hT30 wr hvp)
             rw[hple,part_chain] at HCH
             obtain⟨ch,hch⟩:∃ ch,ch=chainP (fun a b=>relP n l (T.getD a 0) (T.getD b 0)) T.length:=⟨_,rfl⟩
             have hcl:ch.length≤T.length:=by rw[hch];exact chain_len _ _
             have hclt:∀ c∈ch,c < T.length:=by rw[hch];exact chain_lt _ _
             rw[←hch] at HCH
             have HCHE:=zN hch
             have HCLT:=zN hclt
             have HQ9:=zN (own_gr HQ.out hg (by omega))
             have HD9:=zN (HD5.out.of_block (hg.block (BB+1) (by omega) (by simp)))
             have HBT9:=zN (hbt.congr (g:=(rsOf l).badC (relP n l) i T ch 0) (fun j _=>(Rs.badC_zero j).symm))
             have HGW:Hid (Below BB w6 wr):=zN (by
              have h1:Below BB w6 W8:=(zBr BB w6).grown HG.out (by omega) (fun k' hk'=>by injection hk' with hk';omega)
              exact h1.grown hg (by omega) (fun k' hk'=>by injection hk' with hk';omega))
             have hgs9:=hg.size
             clear hqT' hple hbt hpl hPR hrow hvp hch hclt hg
             go_wp2_with fail
             refine HCH.out.mono ?_
             rintro e w9 ⟨v9,rfl,hq9,hb9⟩
             obtain⟨nc,hnc⟩:∃ nc,nc=ch.length:=⟨_,rfl⟩
             obtain⟨pc,cc,rfl,hcc⟩:=own_slice hq9
             have HNC:=zN hnc
             rw[←hnc] at hcl hcc ⊢
             have HC9:=zN hq9
             have hbs9:=hb9.size
             have HQ10:=zN (own_bl HQ9.out hb9)
             have HD10:=zN (HD9.out.below hb9)
             have HBT10:=zN (HBT9.out.below hb9)
             have HGW9:=zN (HGW.out.trans (hb9.mono (by omega)))
             clear hnc hq9 hb9 HCH
             go_wp2
             go_loopw [208] (fun v208 wr=>∃ q:Nat,q≤nc∧v208=.int .i64 (q:Int)∧BRow wr BB M ((rsOf l).badC (relP n l) i T ch q)∧w9.grownBy wr (some BB)) (fun v208 _=>nc-(intOf v208).toNat)
             case atStart=>exact⟨0,by omega,rfl,HBT10.out,grw_refl _ _⟩
             case round=>
              obtain⟨q,hqc,rfl,hbt,hg⟩:=hrel
              by_cases hqq:q < nc
              ·have hdq2:decide ((q:Int) < (nc:Int))=true:=zDt (by omega)
               have hqch:q < ch.length:=by rw[←HNC.out];exact hqq
               obtain⟨bc,cq,e1,_,hgc1,hgc2,hcc1⟩:=QRow.at_ (own_gr HC9.out hg (by omega)) (List.getElem?_eq_getElem hqch)
               rw[←HNC.out] at e1
               injection e1 with e1 _ e3
               subst e1 e3
               obtain⟨c,hc⟩:∃ c,c=ch[q]:=⟨_,rfl⟩
               have hcT:c < T.length:=by rw[hc];exact HCLT.out _ (List.getElem_mem hqch)
               rw[←hc] at hcc1
               obtain⟨b',cq',e1,_,hgq1,hgq2,hqc1⟩:=QRow.at_ (own_gr HQ10.out hg (by omega)) (List.getElem?_eq_getElem hcT)
               injection e1 with e1 _ e3
               subst e1 e3
               have HBC1:Hid (∀ j,(rsOf l).badC (relP n l) i T ch (q+1) j=if j=T[c] then false else (rsOf l).badC (relP n l) i T ch q j):=zN (fun j=>by rw[Rs.badC_step hqch j,←hc,getD_nat hcT])
               have htk:=HTG.out.mem.1 (List.getElem_mem hcT)
               generalize T[c]=t at *
               have htM:t < M:=by have h1:=htk.1;have h2:(rsOf l).n=M:=HM.out;omega
               have ht0:(0:Int)≤(t:Int):=by omega
               have ht1:(t:Int) < (M:Int):=by omega
               have hc0:(0:Int)≤(c:Int):=by omega
               have hc1:(c:Int) < (T.length:Int):=by omega
               have hj0:(0:Int)≤(q:Int):=by omega
               have hjI:(q:Int) < (nc:Int):=by omega
               have c8:=hbt.cell htM
               have f8:=World.rowIs.frozen hbt t
               have HG8:Hid (w9.grownBy (wr.setCell ⟨BB,t,none⟩ (.bool false)) (some BB)):=zN (grw_set hg (.inl rfl))
               have HBT8:=zN ((hbt.set t false).congr (g:=(rsOf l).badC (relP n l) i T ch (q+1)) (fun j _=>(HBC1.out j).symm))
               clear hc htk hbt hg
               go_wp2
               go_roundw
               case rel=>first|exact⟨q+1,by omega,by go_num,HBT8.out,HG8.out⟩|exact⟨_,.int .i64 ((q+1:Nat):Int),⟨q+1,by omega,rfl,HBT8.out,HG8.out⟩,rfl,by go_num⟩
               case measure=>simp[intOf]<;>omega
              ·have hdq2:decide ((q:Int) < (nc:Int))=false:=zDf (by omega)
               have hqn:q=ch.length:=by rw[←HNC.out];omega
               rw[hqn] at hbt
               have hRn:(rsOf l).n=M:=HM.out
               have HBX:=zN (hbt.congr (g:=(rsOf l).badB (relP n l) (i+1)) (fun j hj=>Rs.badC_end HND.out HMVI.out HTG.out HCHE.out HCLT.out (by rw[hRn];exact hj)))
               have HDX:=zN (HD10.out.of_block (hg.block (BB+1) (by omega) (by simp)))
               have HBX2:Hid (Below BB W5 wr):=zN (HB6.out.trans (HGW9.out.grown hg (by omega) (fun k' hk'=>by injection hk' with hk';omega)))
               clear hqn hbt hRn hg
               go_wp2
               go_roundw
               case rel=>exact⟨i+1,by omega,by go_num,HBX.out,HDX.out,HBX2.out⟩
               case measure=>simp[intOf]<;>omega
        ·rw[hdn] at cd
         have HBAD7:=zN (hBAD6.congr (g:=(rsOf l).badB (relP n l) (i+1)) (fun j _=>(Rs.badB_skip (.inr hdn) j).symm))
         have HDONE7:=zN (hDONE6.congr (g:=(rsOf l).doneB (i+1)) (fun j _=>(Rs.doneB_skip (.inr hdn) j).symm))
         clear hBAD6 hDONE6 hm hmv hb6 hdn HBAD6 HDONE6
         go_wp2
         go_roundw
         case rel=>exact⟨i+1,by omega,by go_num,HBAD7.out,HDONE7.out,HB6.out⟩
         case measure=>simp[intOf]<;>omega
      ·have hdi3:decide ((i:Int) < (M:Int))=false:=zDf (by omega)
       have hiM':i=M:=by omega
       rw[hiM'] at hbad
       have HBAD:=zN hbad
       have HB:=zN hb
       have hbs:=hb.size
       have hBl9:=hbad.lt
       clear hiM' hbad hdone hb
       go_wp2
       generalize wr=W9 at *
       generalize i=i8 at *
       go_loopw [21,22] (fun v21 v22 wr=>∃ k:Nat,k≤M∧v22=.int .i64 (k:Int)∧QRow wr W9.heap.size v21 ((List.range k).filter (fun j=>(rsOf l).badB (relP n l) M j))∧Below W9.heap.size W9 wr) (fun _ v22 _=>M-(intOf v22).toNat)
       case atStart=>exact⟨0,by omega,rfl,QRow.nil _ _,zBr _ _⟩
       case round=>
        obtain⟨k,hkM,rfl,hq,hb⟩:=hrel
        obtain⟨D,hD⟩:∃ D,D=(List.range k).filter (fun j=>(rsOf l).badB (relP n l) M j):=⟨_,rfl⟩
        have hDl:D.length≤k:=by
         rw[hD]
         have:=List.length_filter_le (fun j=>(rsOf l).badB (relP n l) M j) (List.range k)
         rw[List.length_range] at this
         exact this
        rw[←hD] at hq
        have hwr:=hb.size
        by_cases hk:k < M
        ·have hdk9:decide ((k:Int) < (M:Int))=true:=zDt (by omega)
         have hk0:(0:Int)≤(k:Int):=by omega
         have hk1:(k:Int) < (M:Int):=by omega
         obtain⟨pd,cd,rfl,hcd⟩:=own_slice hq
         have cb:=(HBAD.out.of_block (hb.block BB (by omega))).cell hk
         have hD30:D.length≤30:=by omega
         have HSE:Hid ((List.range (k+1)).filter (fun j=>(rsOf l).badB (relP n l) M j)=D ++ [k].filter (fun j=>(rsOf l).badB (relP n l) M j)):=zN (by rw[List.range_succ,List.filter_append,hD])
         cases hbk:(rsOf l).badB (relP n l) M k
         ·rw[hbk] at cb
          have HSE2:Hid ((List.range (k+1)).filter (fun j=>(rsOf l).badB (relP n l) M j)=D):=zN (by rw[HSE.out];simp only[List.filter_cons,hbk];simp)
          have HQ:=zN hq
          have HBB2:=zN hb
          clear hq hb hcd hD hbk
          go_wp2
          go_roundw
          case rel=>exact⟨k+1,by omega,by go_num,by rw[HSE2.out];exact HQ.out,HBB2.out⟩
          case measure=>simp[intOf]<;>omega
         ·rw[hbk] at cb
          have HSE2:Hid ((List.range (k+1)).filter (fun j=>(rsOf l).badB (relP n l) M j)=D ++ [k]):=zN (by rw[HSE.out];simp only[List.filter_cons,hbk];simp)
          have hown:(wr.alloc (.cells #[.int .i64 (k:Int)] 3)).ownsRow W9.heap.size 3 1 (.slice pd D.length cd) D.length (qV D):=World.ownsRow.alloc hq _
          have HBB2:=zN hb
          clear hq hb hcd hD hbk
          go_wp2_with (refine RX.wpl_apq (by rfl) elIn _ _ (by rfl) W9.heap.size _ _ _ hown (by rfl) wr.heap.size _ 1 (by rfl) (heap_alloc_new _ _) (by rfl) (by simp[Value.oneCell']) (by omega) (by omega) (by simp;omega) ?_;intro v' w2' hown2 hb2 hg2 hat2)
          have HQ2:Hid (QRow w2' W9.heap.size v' (D ++ [k])):=zN (QRow.snoc hown2)
          have HB22:Hid (Below W9.heap.size W9 w2'):=zN ((HBB2.out.alloc hwr _).trans hb2)
          clear hown2 hb2 hg2 hat2 hown
          go_wp2
          go_roundw
          case rel=>exact⟨k+1,by omega,by go_num,by rw[HSE2.out];exact HQ2.out,HB22.out⟩
          case measure=>simp[intOf]<;>omega
        ·have hdk9:decide ((k:Int) < (M:Int))=false:=zDf (by omega)
         have hkM':k=M:=by omega
         obtain⟨e1,e2⟩:=suE_ok (n:=n) (l:=l) ⟨HH.out,HMV.out⟩ HND.out
         have hRn:(rsOf l).n=M:=HM.out
         have hDe:D=suL n l:=by rw[hD,e2,hkM',←hRn];exact Rs.badB_end
         rw[hDe] at hq
         have HQ:=zN hq.rd
         have HE:=zN e1
         have HBF:Hid (Below w.heap.size w wr):=zN (HB2.out.trans ((HB.out.trans (hb.mono (by omega))).mono hsw))
         clear hkM' hq hb hD e1 e2 hDe hRn
         go_wp2
         go_ret2
         refine⟨_,?_,HQ.out,HBF.out⟩
         rw[HE.out];rfl
end Go.Proofs.YtbomggfklfbnkaaGreatDoor
