import Derived.Test.YtojkamfabapcoaaGreatDoorKRegion
set_option maxRecDepth 100000
set_option maxHeartbeats 8000000
set_option linter.unusedSimpArgs false
set_option linter.unusedVariables false
namespace Go.RX
open Go.RowKit
def cov2 (val:Nat→Bool) (bit:Nat→Nat→Bool):Nat→List Nat→List (List Nat)→Bool
 |0,rem,_=>rem.isEmpty
 |m+1,rem,πs=>rem.all fun j=>rem.any (fun i=>i != j && bit i j) || (!((πs.filterMap fun π=>if π.head?=some j then some π.tail else none).isEmpty) && (val j || decide ((πs.filterMap fun π=>if π.head?=some j then some π.tail else none).length=1)) && cov2 val bit m (rem.filter (· != j)) (πs.filterMap fun π=>if π.head?=some j then some π.tail else none))
section
variable {P:Program} {ops:Array Oper} {S:World→Prop}
end
def chkF2 (flo:Oper→Bool) (l:List Oper) (πs:List (List Nat)):Bool:=
 let m:=masksFrom #[] l
 Region.noSelect l.toArray && (l.zipIdx.all fun (o,j)=>o.after.all fun e=>!Region.binds .any e || decide (e.on < j)) &&
  ((List.range l.length).all fun j=>(List.range j).all fun i=>(m.getD j 0).testBit i || ((!flo (nth l i) && !flo (nth l j)) || (nth l i).apart l.toArray (nth l j))) &&
  !πs.isEmpty && πs.all (fun π=>π.length == l.length && topoOk l [] π && (List.range l.length).all (fun i=>π.contains i)) &&
  cov2 (fun j=>valueOp (nth l j)) (fun i j=>(m.getD j 0).testBit i) l.length ((List.range l.length).filter fun j=>!flo (nth l j)) (πs.map fun π=>chs (flagsAt flo l π))
section
variable {S:World→Prop}
end
end Go.RX
