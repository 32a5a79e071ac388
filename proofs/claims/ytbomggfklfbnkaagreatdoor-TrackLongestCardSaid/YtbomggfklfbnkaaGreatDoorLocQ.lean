import Derived.Test.YtbomggfklfbnkaaGreatDoorGridL
import Derived.Test.YtbomggfklfbnkaaGreatDoorKRefA
import Derived.Test.YtbomggfklfbnkaaGreatDoorListP
import Derived.Test.YtbomggfklfbnkaaGreatDoorKLin
set_option maxRecDepth 100000
set_option maxHeartbeats 8000000
set_option linter.unusedSimpArgs false
set_option linter.unusedVariables false
namespace Go.Grid
def upAt (h:Nat) (p:Pl) (f u:Nat):Pl:=
 ⟨f,wt p (tab f).1-wt p (tab f).1 % h+(if u=(tab f).1 then h else 0),wt p (tab f).2.1-wt p (tab f).2.1 % h+(if u=(tab f).2.1 then h else 0),wt p (tab f).2.2-wt p (tab f).2.2 % h+(if u=(tab f).2.2 then h else 0)⟩
def OnF (p:Pl) (f:Nat):Prop:=∀ v,v < 12→v≠(tab f).1→v≠(tab f).2.1→v≠(tab f).2.2→wt p v=0
def entry (n:Nat) (p:Pl) (f u:Nat):Option (Nat × Nat):=if 0 < wt p u % hh n*n then some (atL n (upAt (hh n) p f u),wt p u % hh n*n) else none
def corners (f:Nat):List Nat:=[(tab f).1,(tab f).2.1,(tab f).2.2]
theorem locRaw_at {n:Nat} {p:Pl} (hx:p.a % hh n*n+p.b % hh n*n+p.c % hh n*n=0):locRaw n p=[(atL n p,840)]:=by
 unfold locRaw locAll;dsimp only;rw[if_pos hx];simp
def wdot (n:Nat) (v:Nat) (S:List (Nat × Nat)):Nat:=(S.map (fun c=>c.2*wt ((nodesL n).getD c.1 ⟨0,0,0,0⟩) v)).sum
end Go.Grid
namespace Go.Proofs.YtbomggfklfbnkaaGreatDoor
open Go.RowKit Go.Grid Go.Maps Go.Sort Go.Shelf
theorem cell_adj {n:Nat} (h1:1≤n) (h8:n≤8) {u v z:Nat} (hc:sorted [(u:Int),(v:Int),(z:Int)]∈cellsRaw n) {x y:Nat} (hx:x=u∨x=v∨x=z) (hy:y=u∨y=v∨y=z) (hne:x≠y):(y:Int)∈nextL n x:=by
 have hp:=sorted_perm [(u:Int),(v:Int),(z:Int)]
 have hl:=hp.length_eq
 generalize hs:sorted [(u:Int),(v:Int),(z:Int)]=c at *
 match c,hl with
 |[c0,c1,c2],_=>
  have hm:(c0,c1,c2)∈cells3 n:=List.mem_map.2 ⟨_,hc,rfl⟩
  have e1:=eds_in hm (e:=(c0,c1)) (by simp[eds])
  have e2:=eds_in hm (e:=(c0,c2)) (by simp[eds])
  have e3:=eds_in hm (e:=(c1,c2)) (by simp[eds])
  have hxm:(x:Int)∈[c0,c1,c2]:=hp.mem_iff.2 (by simp;omega)
  have hym:(y:Int)∈[c0,c1,c2]:=hp.mem_iff.2 (by simp;omega)
  simp only[List.mem_cons,List.not_mem_nil,or_false] at hxm hym
  rw[mem_next]
  rcases hxm with hxm|hxm|hxm<;>rcases hym with hym|hym|hym
  ·exact absurd (hxm.trans hym.symm) (by omega)
  ·exact⟨_,e1,.inl ⟨by dsimp only;omega,hym⟩⟩
  ·exact⟨_,e2,.inl ⟨by dsimp only;omega,hym⟩⟩
  ·exact⟨_,e1,.inr ⟨by dsimp only;omega,hym⟩⟩
  ·exact absurd (hxm.trans hym.symm) (by omega)
  ·exact⟨_,e3,.inl ⟨by dsimp only;omega,hym⟩⟩
  ·exact⟨_,e2,.inr ⟨by dsimp only;omega,hym⟩⟩
  ·exact⟨_,e3,.inr ⟨by dsimp only;omega,hym⟩⟩
  ·exact absurd (hxm.trans hym.symm) (by omega)
theorem cell_in {n f a b:Nat} (hf:f < 20) (hab:a+b < n) {c:List Int} (hc:c∈cellsAt (nodesL n) (hh n) (cpos n f a b)):c∈cellsRaw n:=by
 simp only[cellsRaw,cF,cA,cB,List.mem_flatMap,List.mem_range]
 exact⟨f,hf,a,by omega,b,by omega,hc⟩
end Go.Proofs.YtbomggfklfbnkaaGreatDoor
