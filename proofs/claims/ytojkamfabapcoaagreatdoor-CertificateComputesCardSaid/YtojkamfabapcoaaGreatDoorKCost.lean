import Derived.Test.YtojkamfabapcoaaGreatDoorKLinV
import Derived.Test.YtojkamfabapcoaaGreatDoorKTerms
import Derived.Test.YtojkamfabapcoaaGreatDoorRing
import Derived.Test.YtojkamfabapcoaaGreatDoorKCSys
import Derived.Test.YtojkamfabapcoaaGreatDoorKLaw23
set_option maxRecDepth 100000
set_option maxHeartbeats 8000000
set_option linter.unusedSimpArgs false
set_option linter.unusedVariables false
namespace Go.Proofs.YtojkamfabapcoaaGreatDoor
open Go.RowKit Go.Grid Go.Maps Go.Sort Go.Shelf
def K2 (W wr:World) (g o:Nat):Prop:=W.heap.size≤wr.heap.size∧∀ j,j < W.heap.size→j≠g→j≠o→wr.heap[j]?=W.heap[j]?
theorem K2.refl (W:World) (g o:Nat):K2 W W g o:=⟨Nat.le_refl _,fun _ _ _ _=>rfl⟩
theorem K2.cell {W wr:World} {g o b k:Nat} {v:Value} (h:K2 W wr g o) (hc:W.cell? ⟨b,k,none⟩=some v) (h1:b≠g) (h2:b≠o):wr.cell? ⟨b,k,none⟩=some v:=
 (World.cell?_of_block (h.2 b (zM _ _ hc) h1 h2)).trans hc
theorem K2.grown {W wr w':World} {g o k:Nat} (h:K2 W wr g o) (hg:wr.grownBy w' (some k)) (hk:k=g∨k=o):K2 W w' g o:=
 ⟨Nat.le_trans h.1 hg.size,fun j hj h1 h2=>(hg.block j (Nat.lt_of_lt_of_le hj h.1) (fun e=>by injection e with e;rcases hk with hk|hk<;>omega)).trans (h.2 j hj h1 h2)⟩
theorem K2.set {W wr:World} {g o i:Nat} {v:Value} (h:K2 W wr g o):K2 W (wr.setCell ⟨o,i,none⟩ v) g o:=
 ⟨by simpa[World.setCell] using h.1,fun j hj h1 h2=>(Below.heap_setCell _ _ _ j h2).trans (h.2 j hj h1 h2)⟩
theorem K2.below {W wr w':World} {g o:Nat} (h:K2 W wr g o) (hb:Below wr.heap.size wr w'):K2 W w' g o:=
 ⟨Nat.le_trans h.1 hb.size,fun j hj h1 h2=>(hb.block j (Nat.lt_of_lt_of_le hj h.1)).trans (h.2 j hj h1 h2)⟩
open Go.RowKit Go.Grid
def misL (S:Sy) (x:List Int) (k:Nat):Int:=S.targets.getD k 0-valL (S.rows.getD k ⟨[],0,0,0⟩).sh x
def costTo (S:Sy) (x:List Int):Nat→Int
 |0=>energyL S.s S.a x (edgesL S.f.toNat)
 |k+1=>costTo S x k+(S.rows.getD k ⟨[],0,0,0⟩).weight*misL S x k*misL S x k
def costL (S:Sy) (x:List Int):Int:=costTo S x S.rows.length
def qc (P:List (Rw × Int)) (x:List Int):Int:=(P.map (fun p=>p.1.weight*(p.2-dotT p.1.sh x)*(p.2-dotT p.1.sh x))).sum
def qm (P:List (Rw × Int)) (x h:List Int):Int:=(P.map (fun p=>p.1.weight*(p.2-dotT p.1.sh x)*dotT p.1.sh h)).sum
def qt (P:List (Rw × Int)) (h:List Int):Int:=(P.map (fun p=>p.1.weight*p.2*dotT p.1.sh h)).sum
def qd (P:List (Rw × Int)) (x h:List Int):Int:=(P.map (fun p=>p.1.weight*dotT p.1.sh x*dotT p.1.sh h)).sum
def subL (x y:List Int):List Int:=List.zipWith (fun a b=>a-b) x y
end Go.Proofs.YtojkamfabapcoaaGreatDoor
