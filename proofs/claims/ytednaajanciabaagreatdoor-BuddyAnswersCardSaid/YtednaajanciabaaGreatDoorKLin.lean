import Derived.Test.YtednaajanciabaaGreatDoorApply
set_option maxRecDepth 100000
set_option maxHeartbeats 8000000
set_option linter.unusedSimpArgs false
set_option linter.unusedVariables false
namespace Go.Proofs.YtednaajanciabaaGreatDoor
open Go.RowKit Go.Grid Go.Maps Go.Sort Go.Shelf
def dotL:List Int→List Int→Int
 |a :: x,b :: y=>a*b+dotL x y
 |_,_=>0
def qf (x u:List Int):List I2→Int
 |[]=>0
 |e :: D=>(x.getD e.1.toNat 0-x.getD e.2.toNat 0)*(u.getD e.1.toNat 0-u.getD e.2.toNat 0)+qf x u D
def InR (n:Nat) (D:List I2):Prop:=∀ e∈D,e.1.toNat < n∧e.2.toNat < n
def sumL:List Int→Int
 |[]=>0
 |a :: x=>a+sumL x
def addL (x y:List Int):List Int:=List.zipWith (·+·) x y
def Tied (n:Nat) (D:List I2):Prop:=∀ i,0 < i→i < n→∃ e∈D,e.2.toNat=i∧e.1.toNat < i
theorem mem_comp_of {d:List I2}:∀ {j:Nat} (hj:j < d.length),d[j]∈comp d d.length:=by
 intro j
 induction j with
 |zero=>exact fun hj=>List.mem_map.2 ⟨0,List.mem_filter.2 ⟨List.mem_range.2 hj,by simp[newAt]⟩,by simp[List.getD,List.getElem?_eq_getElem hj]⟩
 |succ j ih=>
  intro hj
  by_cases hn:newAt d (j+1)=true
  ·exact List.mem_map.2 ⟨j+1,List.mem_filter.2 ⟨List.mem_range.2 hj,hn⟩,by simp[List.getD,List.getElem?_eq_getElem hj]⟩
  ·have h1:d[j+1]?=d[j]?:=by simpa[newAt] using hn
   rw[List.getElem?_eq_getElem hj,List.getElem?_eq_getElem (show j < d.length by omega)] at h1
   rw[Option.some.inj h1];exact ih (by omega)
theorem eds_in {n:Nat} {c:I3} (hc:c∈cells3 n) {e:I2} (he:e∈eds c):e∈edgesL n:=by
 have h1:c∈cellsS n:=List.mem_mergeSort.2 hc
 have h2:e∈edRaw n:=by unfold edRaw edTo;rw[List.take_length];exact List.mem_flatMap.2 ⟨c,h1,he⟩
 have h3:e∈sort2 (edRaw n):=List.mem_mergeSort.2 h2
 obtain⟨j,hj,rfl⟩:=List.getElem_of_mem h3
 exact mem_comp_of hj
def FlatE (n:Nat) (x:List Int):Prop:=∀ e∈edgesL n,x.getD e.1.toNat 0=x.getD e.2.toNat 0
def xAt (n:Nat) (x:List Int) (p:Pl):Int:=x.getD (atL n p) 0
def cor (f:Nat):Nat→Pl
 |0=>⟨f,840,0,0⟩
 |1=>⟨f,0,840,0⟩
 |_=>⟨f,0,0,840⟩
def energyL (s a:Int) (x:List Int) (D:List I2):Int:=a*dotL x x+s*qf x x D
end Go.Proofs.YtednaajanciabaaGreatDoor
