import Derived.Test.YtbomggfklfbnkaaGreatDoorKChain
import Derived.Test.YtbomggfklfbnkaaGreatDoorKTrkN
import Derived.Test.YtbomggfklfbnkaaGreatDoorTrkR
set_option maxRecDepth 100000
set_option maxHeartbeats 8000000
set_option linter.unusedSimpArgs false
set_option linter.unusedVariables false
namespace Go.Chain
def setOf (b k:Nat):List Nat:=(List.range k).filter (fun i=>b.testBit i)
def okB (P:Nat→Nat→Bool):List Nat→Bool
 |[]=>true
 |[_]=>true
 |i :: j :: s=>P i j && okB P (j :: s)
theorem ok_of {P:Nat→Nat→Bool} {n:Nat}:∀ s,Valid P n s→okB P s=true∧s.Pairwise (· < ·)
 |[],_=>⟨rfl,List.Pairwise.nil⟩
 |[a],_=>⟨rfl,by simp⟩
 |a :: b :: s,h=>by
  obtain⟨_,⟨h2,h3⟩,h4⟩:=h
  obtain⟨i1,i2⟩:=ok_of (b :: s) h4
  refine⟨?_,?_⟩
  ·show (P a b && okB P (b :: s))=true
   rw[h3,i1];rfl
  ·rw[List.pairwise_cons]
   refine⟨fun x hx=>?_,i2⟩
   rcases List.mem_cons.1 hx with rfl|hx
   ·exact h2
   ·have:=(List.pairwise_cons.1 i2).1 x hx
    omega
def FoundAt (P:Nat→Nat→Bool) (M:Nat) (c:List Nat) (bits:Nat):Prop:=(M=0∧c=[])∨∃ b,1≤b∧b < bits∧okB P (setOf b M)=true∧setOf b M=c
noncomputable instance (P:Nat→Nat→Bool) (M:Nat) (c:List Nat) (bits:Nat):Decidable (FoundAt P M c bits):=Classical.propDecidable _
noncomputable def foundB (P:Nat→Nat→Bool) (M:Nat) (c:List Nat) (bits:Nat):Bool:=decide (FoundAt P M c bits)
end Go.Chain
namespace Go.Proofs.YtbomggfklfbnkaaGreatDoor
open Go.RowKit Go.Grid Go.Maps Go.Sort Go.Shelf Go.Chain
def matC (NB M:Nat) (R:Nat→Nat) (k:Nat):Nat→Value:=fun i=>if i < k then .slice (some ⟨R i,0,none⟩) M M else .slice none 0 0
def MatAt (w:World) (NB M:Nat) (Q:Nat→Nat→Bool) (k:Nat):Prop:=∃ R:Nat→Nat,w.rowIs NB 44 M (matC NB M R k)∧∀ i,i < k→w.rowIs (R i) 4 M (fun j=>.bool (decide (i < j) && Q i j))
theorem MatAt.made (w:World) (M:Nat) (Q:Nat→Nat→Bool):MatAt (w.alloc (.cells (madeCells #[.slice none 0 0] M) 44)) w.heap.size M Q 0:=
 ⟨fun _=>0,(World.rowIs_made w _ M _).congr (fun i _=>by unfold matC;rw[if_neg (by omega)]),fun i hi=>by omega⟩
theorem MatAt.below {w w':World} {NB M k:Nat} {Q:Nat→Nat→Bool} (h:MatAt w NB M Q k) (hb:Below w.heap.size w w'):MatAt w' NB M Q k:=by
 obtain⟨R,h1,h2⟩:=h
 exact⟨R,h1.of_block (hb.block _ h1.lt),fun i hi=>(h2 i hi).of_block (hb.block _ (h2 i hi).lt)⟩
theorem MatAt.lt {w:World} {NB M k:Nat} {Q:Nat→Nat→Bool} (h:MatAt w NB M Q k):NB < w.heap.size:=by
 obtain⟨R,h1,_⟩:=h
 exact h1.lt
theorem MatAt.row {w:World} {NB M k:Nat} {Q:Nat→Nat→Bool} (h:MatAt w NB M Q k) {i:Nat} (hi:i < k) (hk:k≤M):∃ R,w.cell? ⟨NB,i,none⟩=some (.slice (some ⟨R,0,none⟩) M M)∧∀ j,j < M→w.cell? ⟨R,j,none⟩=some (.bool (decide (i < j) && Q i j)):=by
 obtain⟨R,h1,h2⟩:=h
 refine⟨R i,?_,fun j hj=>(h2 i hi).cell hj⟩
 have:=h1.cell (i:=i) (by omega)
 rw[this]
 unfold matC
 rw[if_pos hi]
theorem MatAt.soft {w:World} {NB M k:Nat} {Q:Nat→Nat→Bool} (h:MatAt w NB M Q k) (i:Nat):w.frozen? ⟨NB,i,none⟩=false:=by
 obtain⟨R,h1,_⟩:=h
 exact h1.frozen i
theorem MatAt.cell {w:World} {NB M k:Nat} {Q:Nat→Nat→Bool} (h:MatAt w NB M Q k) {i:Nat} (hi:i < M):∃ v,w.cell? ⟨NB,i,none⟩=some v:=by
 obtain⟨R,h1,_⟩:=h
 exact⟨_,h1.cell hi⟩
theorem MatAt.next {w w':World} {NB M k R:Nat} {Q:Nat→Nat→Bool} (h:MatAt w NB M Q k) (h1:w'.heap[NB]?=(w.setCell ⟨NB,k,none⟩ (.slice (some ⟨R,0,none⟩) M M)).heap[NB]?) (h2:∀ b,b < w.heap.size→b≠NB→w'.heap[b]?=w.heap[b]?)
  (h3:w'.rowIs R 4 M (fun j=>.bool (decide (k < j) && Q k j))) (h4:∀ j i,j < w.heap.size→w.frozen? ⟨j,i,none⟩=w.frozen? ⟨j,i,none⟩) (hne:∀ (R0:Nat→Nat) i,i < k→w.rowIs (R0 i) 4 M (fun j=>.bool (decide (i < j) && Q i j))→w.rowIs NB 44 M (matC NB M R0 k)→R0 i≠NB):MatAt w' NB M Q (k+1):=by
 obtain⟨R0,g1,g2⟩:=h
 refine⟨fun i=>if i=k then R else R0 i,((g1.set k (.slice (some ⟨R,0,none⟩) M M)).of_block h1).congr (fun i hi=>?_),fun i hi=>?_⟩
 ·unfold matC
  by_cases e:i=k
  ·subst e
   rw[if_pos rfl,if_pos (Nat.lt_succ_self _)];dsimp only;rw[if_pos rfl]
  ·rw[if_neg e]
   by_cases e2:i < k
   ·rw[if_pos e2,if_pos (by omega)];dsimp only;rw[if_neg e]
   ·rw[if_neg e2,if_neg (by omega)]
 ·by_cases e:i=k
  ·subst e
   dsimp only
   rw[if_pos rfl]
   exact h3
  ·dsimp only
   rw[if_neg e]
   exact (g2 i (by omega)).of_block (h2 _ (g2 i (by omega)).lt (hne R0 i (by omega) (g2 i (by omega)) g1))
theorem brow_ne {w:World} {NB M:Nat} {f g:Nat→Value} {R:Nat} (h:w.rowIs R 4 M f) (h2:w.rowIs NB 44 M g):R≠NB:=by
 rintro rfl
 obtain⟨c,h1,_⟩:=h
 obtain⟨d,h3,_⟩:=h2
 rw[h1] at h3
 have e:=Option.some.inj h3
 injection e with _ e
 exact absurd e (by decide)
theorem MatAt.step {w w':World} {NB M k R:Nat} {Q:Nat→Nat→Bool} (h:MatAt w NB M Q k) (h1:w'.heap[NB]?=(w.setCell ⟨NB,k,none⟩ (.slice (some ⟨R,0,none⟩) M M)).heap[NB]?) (h2:∀ b,b < w.heap.size→b≠NB→w'.heap[b]?=w.heap[b]?)
  (h3:w'.rowIs R 4 M (fun j=>.bool (decide (k < j) && Q k j))):MatAt w' NB M Q (k+1):=
 h.next h1 h2 h3 (fun _ _ _=>rfl) (fun _ _ _ g1 g2=>brow_ne g1 g2)
end Go.Proofs.YtbomggfklfbnkaaGreatDoor
