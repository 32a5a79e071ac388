import Derived.Test.YtbomggfklfbnkaaGreatDoorKPlainG
import Derived.Test.YtbomggfklfbnkaaGreatDoorDist
import Derived.Test.YtbomggfklfbnkaaGreatDoorKLists
import Derived.Test.YtbomggfklfbnkaaGreatDoorKRegion
set_option maxRecDepth 100000
set_option maxHeartbeats 8000000
set_option linter.unusedSimpArgs false
set_option linter.unusedVariables false
namespace Go.Proofs.YtbomggfklfbnkaaGreatDoor
open Go.RowKit Go.Grid Go.Maps Go.Sort Go.Shelf
theorem NextR.rd {w:World} {N M base:Nat} {ls:Nat→List Int} (h:NextR w N M base ls):RowsRd w N M ls:=fun a ha=>NextR.row h ha
theorem AroAt.rds {w:World} {N M:Nat} {ls:Nat→List Int} (h:AroAt w N M ls):RowsRd w N M ls:=fun a ha=>AroAt.rd h ha
def Searched (n a:Nat):Prop:=∃ i,(Bfs.st (nbG n) a i).2.length=i
def HopsI (n a b:Int):Prop:=NodeI n a∧NodeI n b
instance (n a b:Int):Decidable (HopsI n a b):=by unfold HopsI;infer_instance
noncomputable def hopV (n a b:Int):Int:=if HopsI n a b then hop n.toNat a.toNat b.toNat else 0
def hopE (n a b:Int):Int:=if HopsI n a b then 0 else 1
theorem hop_bd {n a b:Nat} (h1:1≤n) (h8:n≤8) (ha:a < (nodesL n).length) (hb:b < (nodesL n).length) (hex:Searched n a):0≤hop n a b∧hop n a b < 642:=by
 refine⟨hop_nonneg h1 h8 ha hb hex,?_⟩
 obtain⟨i,hi⟩:=hex
 rw[←hop_eq h1 h8 ha hi b]
 have hI:=Bfs.st_inv ha (nbG_lt h1 h8) i (by omega)
 have hl:=Bfs.nodup_le hI.nodup hI.lt
 have hlt:Bfs.Lt (Bfs.st (nbG n) a i):=by
  clear hi hI hl
  induction i with
  |zero=>exact Bfs.Lt.start _ _
  |succ i ih=>
   show Bfs.Lt (match (Bfs.st (nbG n) a i).2[i]? with
    |some u=>((nbG n) u).foldl (Bfs.step u) (Bfs.st (nbG n) a i)
    |none=>Bfs.st (nbG n) a i)
   split
   ·exact ih.row _
   ·exact ih
 have:=hlt b
 have:=nodes_max h1 h8
 omega
end Go.Proofs.YtbomggfklfbnkaaGreatDoor
