import Derived.Test.YtednaajanciabaaGreatDoorKBAwk
import Derived.Test.YtednaajanciabaaGreatDoorKBCtl
import Derived.Test.YtednaajanciabaaGreatDoorBOrdP
import Derived.Test.YtednaajanciabaaGreatDoorKBFl
set_option maxRecDepth 100000
set_option maxHeartbeats 8000000
set_option linter.unusedSimpArgs false
set_option linter.unusedVariables false
namespace Go.Proofs.YtednaajanciabaaGreatDoor
open Go.RowKit Go.Grid Go.Buddy
theorem AroAt.rdG {w:World} {N M a:Nat} {ls:Nat→List Int} (h:AroAt w N M ls) (ha:a < M):∃ p cap,w.cell? ⟨N,a,none⟩=some (.slice p (ls a).length cap)∧RdI w (.slice p (ls a).length cap) (ls a):=by
 obtain⟨p,cap,b,h1,h2,h3,h4,h5,_⟩:=h.row ha
 exact⟨p,cap,h1,p,cap,rfl,h3,b,0,fun h0=>(h4 h0).1,fun j hj=>by rw[Nat.zero_add];exact h5 j hj⟩
structure GreS (w9 w:World) (LB m g b N:Nat) (S:Nat→Bool) (ls:Nat→List Int):Prop where
 left:BOwn w LB (.slice (some ⟨LB,0,none⟩) m m) m S
 near:NextAt w (LB+1) m (LB+1+1) ls
 bl:Below w9.heap.size w9 w
 src:∃ j,SrcAt w g b N j
 gl:w9.heap.size≤g∧g < LB∧(0 < N→b < LB)
theorem GreS.below {w9 w w':World} {LB m g b N:Nat} {S:Nat→Bool} {ls:Nat→List Int} (h:GreS w9 w LB m g b N S ls) (hb:Below w.heap.size w w'):GreS w9 w' LB m g b N S ls:=by
 obtain⟨j,hj⟩:=h.src
 exact⟨h.left.below hb,h.near.kept (row:=none) (grw_below hb none) (fun k e=>by cases e) h.near.lt,h.bl.trans (hb.mono h.bl.size),⟨j,hj.below hb⟩,h.gl⟩
theorem GreS.congr {w9 w:World} {LB m g b N:Nat} {S T:Nat→Bool} {ls ls':Nat→List Int} (h:GreS w9 w LB m g b N S ls) (e:∀ i,i < m→S i=T i) (e2:∀ i,i < m→ls i=ls' i):GreS w9 w LB m g b N T ls':=
 ⟨h.left.congr e,h.near.congr e2,h.bl,h.src,h.gl⟩
theorem GreS.made {w9 w:World} {m g b N:Nat} (hm:m≤100000) (hb:Below w9.heap.size w9 w) (hs:∃ j,SrcAt w g b N j) (h1:w9.heap.size≤g):GreS w9 ((w.alloc (.cells (madeCells #[.bool false] m) 4)).alloc (.cells (madeCells #[.slice none 0 0] m) 22)) w.heap.size m g b N (fun _=>false) (fun _=>[]):=by
 obtain⟨j,hj⟩:=hs
 have hb1:Below w.heap.size w (w.alloc (.cells (madeCells #[.bool false] m) 4)):=(zBr _ _).alloc (Nat.le_refl _) _
 have hb2:Below w.heap.size w ((w.alloc (.cells (madeCells #[.bool false] m) 4)).alloc (.cells (madeCells #[.slice none 0 0] m) 22)):=hb1.alloc (by simp) _
 refine⟨(BOwn.made w m hm).below ((zBr _ _).alloc (Nat.le_refl _) _),?_,hb.trans (hb2.mono hb.size),⟨j,hj.below hb2⟩,h1,hj.lt,fun h0=>hj.ltb h0⟩
 have h:=NextAt.made (w.alloc (.cells (madeCells #[.bool false] m) 4)) m (w.heap.size+1+1)
 rw[show (w.alloc (.cells (madeCells #[.bool false] m) 4)).heap.size=w.heap.size+1 by simp] at h
 exact h
theorem GreS.set {w9 w:World} {LB m g b N:Nat} {S:Nat→Bool} {ls:Nat→List Int} (h:GreS w9 w LB m g b N S ls) {i:Nat} (hi:i < m) (x:Bool):GreS w9 (w.setCell ⟨LB,i,none⟩ (.bool x)) LB m g b N (fun k=>if k=i then x else S k) ls:=by
 obtain⟨j,hj⟩:=h.src
 have hg:w.grownBy (w.setCell ⟨LB,i,none⟩ (.bool x)) (some LB):=grw_set (grw_refl _ _) (.inl rfl)
 refine⟨h.left.set i hi x,h.near.kept hg (fun k hk=>by injection hk with hk;omega) h.near.lt,h.bl.grown hg h.bl.size (fun k hk=>by injection hk with hk;have:=h.gl;omega),⟨j,hj.kept (hg.block _ hj.lt (fun e=>by injection e with e;have:=h.gl;omega)) (fun h0=>hg.block _ (hj.ltb h0) (fun e=>by injection e with e;have:=h.gl.2.2 h0;omega))⟩,h.gl⟩
theorem GreS.push {w9 w w':World} {LB m g b N a:Nat} {S:Nat→Bool} {ls:Nat→List Int} (h:GreS w9 w LB m g b N S ls) {vs:Nat→Value} (q1:w.rowIs (LB+1) 22 m vs) (q2:∀ i,i < m→w.ownsRow (LB+1+1) 3 1 (vs i) (ls i).length ((ls i).map (Value.int .i64)))
  (q3:∀ i j,i < m→j < m→i≠j→(vs i).ownBlock=none∨(vs i).ownBlock≠(vs j).ownBlock) (ha:a < m) {x:Int} {v':Value} {b0:Nat} (hg:w.grownBy w' (vs a).ownBlock)
  (hown:w'.ownsRow (LB+1+1) 3 1 v' ((ls a).length+1) ((ls a).map (Value.int .i64) ++ [.int .i64 x])) (hat:v'.ownBlock=(vs a).ownBlock∨v'.ownBlock=some b0) (hb0:w.heap.size≤b0) (hb:Below (LB+1+1) w w'):GreS w9 (w'.setCell ⟨LB+1,a,none⟩ v') LB m g b N S (addTo ls a x):=by
 obtain⟨j,hj⟩:=h.src
 have hgl:=h.gl
 have hg2:(w').grownBy (w'.setCell ⟨LB+1,a,none⟩ v') (some (LB+1)):=grw_set (grw_refl _ _) (.inl rfl)
 have hkey:∀ k,k < LB+1→(w'.setCell ⟨LB+1,a,none⟩ v').heap[k]?=w.heap[k]?:=fun k hk=>
  (Below.heap_setCell _ _ _ k (fun e=>by simp only at e;omega)).trans (hb.block k (by omega))
 refine⟨ownsRow_setCell_other (World.ownsRow.kept h.left hg (.inr (fun e=>by
  have e2:=((q2 a ha).lt LB e.symm).1;omega))) (fun e=>by
  have e2:some LB=some (LB+1):=e
  injection e2 with e2;omega) _,NextAt.push q1 q2 q3 ha hg hown hat hb0 (by omega),(h.bl.trans (hb.mono (by omega))).setCell (by show w9.heap.size≤LB+1;omega) _,⟨j,hj.kept (hkey _ (by omega)) (fun h0=>hkey _ (by have:=hgl.2.2 h0;omega))⟩,h.gl⟩
theorem GreS.pick {w9 w w':World} {LB m g b N:Nat} {S:Nat→Bool} {ls:Nat→List Int} (h:GreS w9 w LB m g b N S ls) (hg:w.grownBy w' (some g)) (hs:∃ j,SrcAt w' g b N j):GreS w9 w' LB m g b N S ls:=
 ⟨h.left.gr hg h.gl.2.1,h.near.kept hg (fun k hk=>by injection hk with hk;have:=h.gl;omega) h.near.lt,h.bl.grown hg h.bl.size (fun k hk=>by injection hk with hk;have:=h.gl;omega),hs,h.gl⟩
end Go.Proofs.YtednaajanciabaaGreatDoor
