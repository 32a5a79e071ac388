import Derived.Test.YtednaajanciabaaGreatDoorKPlace
import Derived.Test.YtednaajanciabaaGreatDoorGrid
set_option maxRecDepth 100000
set_option maxHeartbeats 8000000
set_option linter.unusedSimpArgs false
set_option linter.unusedVariables false
namespace Go.Proofs.YtednaajanciabaaGreatDoor
open Go.RowKit Go.Grid
def freqB (n:Int):Bool:=decide (1≤n∧n≤8)
def countI (n:Int):Int:=if 1≤n∧n≤8 then 10*n*n+2 else 0
end Go.Proofs.YtednaajanciabaaGreatDoor
namespace Go.Grid
theorem nodes_len_all:∀ n:Fin 9,1≤n.val→(nodesL n.val).length=10*n.val*n.val+2:=by decide +kernel
theorem nodes_len {n:Nat} (h1:1≤n) (h2:n≤8):(nodesL n).length=10*n*n+2:=nodes_len_all ⟨n,by omega⟩ h1
end Go.Grid
