import Derived.Test.YtednaajanciabaaGreatDoorKBAwk
set_option maxRecDepth 100000
set_option maxHeartbeats 8000000
set_option linter.unusedSimpArgs false
set_option linter.unusedVariables false
set_option linter.unusedSectionVars false
namespace Go.Proofs.YtednaajanciabaaGreatDoor
open Go.RowKit Go.Grid Go.Buddy
theorem mem_chkL {k:Ctl} {L:List BR} (h:chkE k L=0) {v:I2}:v∈chkL k L↔∃ i e:Nat,i < L.length∧e < 12∧badF k.fr.toNat L k.bd e i=true∧v=((i:Int),(e:Int)):=by
 unfold chkL
 rw[if_pos h]
 unfold sort2
 rw[(List.mergeSort_perm _ _).mem_iff,mem_outC]
section
variable {n m:Nat} {L:List BR} {O:List Nat} (hL:L.length=m) (hO:O.Perm (List.range m))
include hL hO
omit hL in
end
end Go.Proofs.YtednaajanciabaaGreatDoor
