import Derived.Test.YtednaajanciabaaGreatDoorKRegion
import Derived.Laws.CopyRow
import Derived.Laws.CopyOwn
import Derived.Deep.DeepCutAuto
import Derived.Test.YtednaajanciabaaGreatDoorKRefA
import Derived.Deep.OwnRows
set_option maxRecDepth 100000
set_option maxHeartbeats 8000000
set_option linter.unusedSimpArgs false
set_option linter.unusedVariables false
namespace Go.RX
open Go.RowKit
end Go.RX
namespace Go.Proofs.YtednaajanciabaaGreatDoor
open Go.RowKit Go.Grid
theorem own_below {w w':World} {base:Nat} {e:TypeId} {size:Nat} {v:Value} {n:Nat} {xs:List Value} (h:w.ownsRow base e size v n xs) (hb:Below w.heap.size w w'):w'.ownsRow base e size v n xs:=
 World.ownsRow.kept (row:=none) h ⟨hb.os,hb.tape,hb.output,hb.size,fun k hk _=>hb.block k hk⟩ (by
  cases v.ownBlock with
  |none=>exact .inl rfl
  |some k=>exact .inr (by simp))
def RdI (w:World) (v:Value) (zs:List Int):Prop:=∃ p cap,v=.slice p zs.length cap∧zs.length≤cap∧VecAt w p zs
theorem RdI.nil (w:World):RdI w (.slice none 0 0) []:=⟨none,0,rfl,Nat.le_refl _,0,0,fun h=>by simp at h,fun j h=>by simp at h⟩
theorem RdI.below {w w':World} {v:Value} {zs:List Int} (h:RdI w v zs) (hb:Below w.heap.size w w'):RdI w' v zs:=by
 obtain⟨p,cap,h1,h2,h3⟩:=h
 exact⟨p,cap,h1,h2,h3.below hb⟩
theorem own_cells {w:World} {base:Nat} {e:TypeId} {v:Value} {n:Nat} {xs:List Value} (h:w.ownsRow base e 1 v n xs) (hn:0 < n):∃ g cap,v=.slice (some ⟨g,0,none⟩) n cap∧n≤cap∧base≤g∧g < w.heap.size∧∀ j,j < n→w.cell? ⟨g,j,none⟩=xs[j]?:=by
 rcases h.2 with ⟨_,h2⟩|⟨g,cap,cur,h1,h2,h3,h4,_⟩
 ·omega
 ·have hlt:=(World.ownsRow.lt h g (by rw[h1];rfl)).2
  refine⟨g,cap,h1,h4,h2,hlt,fun j hj=>?_⟩
  subst h1
  exact World.ownsRow.cellAt h j (by omega)
def RowsRd (w:World) (N M:Nat) (ls:Nat→List Int):Prop:=∀ a,a < M→∃ v,w.cell? ⟨N,a,none⟩=some v∧RdI w v (ls a)
theorem RowsRd.below {w w':World} {N M:Nat} {ls:Nat→List Int} (h:RowsRd w N M ls) (hb:Below w.heap.size w w'):RowsRd w' N M ls:=fun a ha=>by
 obtain⟨v,h1,h2⟩:=h a ha
 exact⟨v,zP hb h1,h2.below hb⟩
def FRow (w:World) (b N:Nat) (D:Nat→Int):Prop:=∀ k,k < N→w.cell? ⟨b,k,none⟩=some (.int .i64 (D k))∧w.frozen? ⟨b,k,none⟩=false
theorem FRow.kept {w w':World} {b N:Nat} {D:Nat→Int} (h:FRow w b N D) (hb:w'.heap[b]?=w.heap[b]?):FRow w' b N D:=fun k hk=>⟨(World.cell?_of_block hb).trans (h k hk).1,(zFb hb).trans (h k hk).2⟩
theorem FRow.ext {w:World} {b N:Nat} {D D':Nat→Int} (h:FRow w b N D) (he:∀ k,k < N→D k=D' k):FRow w b N D':=fun k hk=>by rw[←he k hk];exact h k hk
theorem FRow.set {w:World} {b N:Nat} {D:Nat→Int} (h:FRow w b N D) (a:Nat) (v:Int):FRow (w.setCell ⟨b,a,none⟩ (.int .i64 v)) b N (fun k=>if k=a then v else D k):=fun k hk=>by
 refine⟨?_,by rw[World.frozen?_setCell];exact (h k hk).2⟩
 dsimp only
 by_cases hka:k=a
 ·subst hka
  rw[if_pos rfl]
  exact zL _ _ _ (by rw[(h k hk).1];rfl)
 ·rw[if_neg hka]
  refine (zK _ _ _ _ ?_).trans (h k hk).1
  simp[hka]
theorem FRow.made (w:World) (n:Nat):FRow (w.alloc (.cells (madeCells #[.int .i64 0] n) 3)) w.heap.size n (fun _=>0):=fun k hk=>by
 have h:=World.rowIs_made w (.int .i64 0) n 3
 exact⟨h.cell hk,h.frozen k⟩
end Go.Proofs.YtednaajanciabaaGreatDoor
