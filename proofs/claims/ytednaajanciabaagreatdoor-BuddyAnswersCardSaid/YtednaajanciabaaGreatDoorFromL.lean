import Derived.Test.YtednaajanciabaaGreatDoorKCopy
import Derived.Test.YtednaajanciabaaGreatDoorBfs
import Derived.Test.YtednaajanciabaaGreatDoorKRefB
set_option maxRecDepth 100000
set_option maxHeartbeats 8000000
set_option linter.unusedSimpArgs false
set_option linter.unusedVariables false
namespace Go.Bfs
def Lt (s:St):Prop:=∀ v,s.1 v < s.2.length
theorem Lt.step1 {s:St} (h:Lt s) (u v:Nat):Lt (step u s v):=by
 unfold step
 split
 ·intro j
  dsimp only
  rw[List.length_append,List.length_singleton]
  have h1:=h u
  have h2:=h j
  push_cast
  split<;>omega
 ·exact h
theorem Lt.row {u:Nat}:∀ (row:List Nat) {s:St},Lt s→Lt (row.foldl (step u) s)
 |[],_,h=>h
 |x :: row,s,h=>Lt.row row (h.step1 u x)
theorem Lt.start (nb:Nat→List Nat) (a:Nat):Lt (st nb a 0):=fun v=>by
 simp only[st,List.length_singleton]
 split<;>omega
theorem Inv.part {nb:Nat→List Nat} {a N i u m:Nat} {s:St} (h:Inv nb a N i s) (hu:s.2[i]?=some u) (hr:∀ v∈nb u,v < N):Inv nb a N i (((nb u).take m).foldl (Bfs.step u) s)∧(((nb u).take m).foldl (Bfs.step u) s).2[i]?=some u:=by
 obtain⟨h1,h2,_⟩:=Inv.row ((nb u).take m) h hu (fun v hv=>⟨List.mem_of_mem_take hv,hr v (List.mem_of_mem_take hv)⟩)
 exact⟨h1,h2⟩
end Go.Bfs
namespace Go.Proofs.YtednaajanciabaaGreatDoor
open Go.RowKit Go.Grid
def nbN (ls:Nat→List Int) (u:Nat):List Nat:=(ls u).map Int.toNat
def qV (l:List Nat):List Value:=l.map (fun u:Nat=>Value.int .i64 u)
def QRow (w:World) (base:Nat) (v:Value) (l:List Nat):Prop:=w.ownsRow base 3 1 v l.length (qV l)
theorem QRow.snoc {w:World} {base:Nat} {v:Value} {l:List Nat} {u:Nat} (h:w.ownsRow base 3 1 v (l.length+1) (qV l ++ [.int .i64 u])):QRow w base v (l ++ [u]):=by
 unfold QRow qV at *;rw[List.map_append,List.length_append];exact h
theorem QRow.at_ {w:World} {base i u:Nat} {v:Value} {l:List Nat} (h:QRow w base v l) (hu:l[i]?=some u):∃ g cap,v=.slice (some ⟨g,0,none⟩) l.length cap∧l.length≤cap∧base≤g∧g < w.heap.size∧w.cell? ⟨g,i,none⟩=some (.int .i64 u):=by
 have hi:i < l.length:=by rw[List.getElem?_eq_some_iff] at hu;exact hu.1
 obtain⟨g,cap,h1,h2,h3,h4,h5⟩:=own_cells h (by omega)
 refine⟨g,cap,h1,h2,h3,h4,?_⟩
 rw[h5 i hi]
 unfold qV
 rw[List.getElem?_map,hu];rfl
theorem elIn:RX.ElemOf Tryz.prog 22 3 (.int .i64 0) 1 8:=⟨Tryz.underlying22,by kernel_rfl,rfl,by decide⟩
end Go.Proofs.YtednaajanciabaaGreatDoor
