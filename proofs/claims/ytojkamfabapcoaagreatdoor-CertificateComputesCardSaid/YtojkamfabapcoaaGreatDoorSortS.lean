import Derived.Test.YtojkamfabapcoaaGreatDoorKSort
import Derived.Test.YtojkamfabapcoaaGreatDoorKLoc
import Derived.Test.YtojkamfabapcoaaGreatDoorKEdges
set_option maxRecDepth 100000
set_option maxHeartbeats 8000000
set_option linter.unusedSimpArgs false
set_option linter.unusedVariables false
namespace Go.Proofs.YtojkamfabapcoaaGreatDoor
open Go.RowKit Go.Sort Go.Shelf Go.Grid
abbrev Sh:=Fin 100000 × Int
def encS (x:Sh):List Value:=[.int .i64 (x.1.val:Int),.int .i64 x.2]
def cfS (x y:Sh):Int:=(x.1.val:Int)-(y.1.val:Int)
def SharesAt (w:World) (b:Nat) (S:List (Nat × Nat)):Prop:=∀ k (h:k < S.length),w.cell? ⟨b,k*2,none⟩=some (.int .i64 (S[k].1:Int))∧w.cell? ⟨b,k*2+1,none⟩=some (.int .i64 (S[k].2:Int))
def toSh (x:Nat × Nat):Sh:=(⟨x.1 % 100000,Nat.mod_lt _ (by omega)⟩,(x.2:Int))
def ofSh (x:Sh):Nat × Nat:=(x.1.val,x.2.toNat)
def encN (x:Nat × Nat):List Value:=[.int .i64 (x.1:Int),.int .i64 (x.2:Int)]
end Go.Proofs.YtojkamfabapcoaaGreatDoor
