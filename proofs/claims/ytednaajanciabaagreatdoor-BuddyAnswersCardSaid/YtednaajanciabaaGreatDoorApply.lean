import Derived.Test.YtednaajanciabaaGreatDoorKPrec
set_option maxRecDepth 100000
set_option maxHeartbeats 8000000
set_option linter.unusedSimpArgs false
set_option linter.unusedVariables false
namespace Go.Proofs.YtednaajanciabaaGreatDoor
open Go.RowKit Go.Grid Go.Maps Go.Sort Go.Shelf
def stepE (sm:Int) (x out:List Int) (e:I2):List Int:=
 (out.set e.1.toNat (out.getD e.1.toNat 0+sm*(x.getD e.1.toNat 0-x.getD e.2.toNat 0))).set e.2.toNat
  ((out.set e.1.toNat (out.getD e.1.toNat 0+sm*(x.getD e.1.toNat 0-x.getD e.2.toNat 0))).getD e.2.toNat 0-sm*(x.getD e.1.toNat 0-x.getD e.2.toNat 0))
def applyTo (sm an:Int) (x:List Int) (D:List I2) (k:Nat):List Int:=(D.take k).foldl (stepE sm x) (x.map (an*·))
def applyL (sm an:Int) (x:List Int) (D:List I2):List Int:=applyTo sm an x D D.length
def Bd (B:Int) (zs:List Int):Prop:=∀ y∈zs,-B≤y∧y≤B
theorem Bd.get {B:Int} {zs:List Int} (h:Bd B zs) (hB:0≤B) (i:Nat):-B≤zs.getD i 0∧zs.getD i 0≤B:=by
 by_cases hi:i < zs.length
 ·rw[show zs.getD i 0=zs[i] by simp[List.getD,List.getElem?_eq_getElem hi]]
  exact h _ (List.getElem_mem _)
 ·rw[show zs.getD i 0=0 by simp[List.getD,List.getElem?_eq_none (Nat.le_of_not_lt hi)]];omega
theorem Bd.set {B:Int} {zs:List Int} (h:Bd B zs) (i:Nat) {v:Int} (hv:-B≤v∧v≤B):Bd B (zs.set i v):=by
 intro y hy
 rcases List.mem_or_eq_of_mem_set hy with hy|rfl
 ·exact h y hy
 ·exact hv
theorem Bd.mono {B B':Int} {zs:List Int} (h:Bd B zs) (hB:B≤B'):Bd B' zs:=fun y hy=>by have:=h y hy;omega
theorem mul_bd {s d:Int} (h1:0≤s) (h2:s≤1000000) (h3:-2097152≤d) (h4:d≤2097152):-2097152000000≤s*d∧s*d≤2097152000000:=by
 by_cases hd:0≤d
 ·have a:=Int.mul_le_mul h2 h4 hd (by omega)
  have:=Int.mul_nonneg h1 hd
  omega
 ·have c:=Int.mul_le_mul h2 (show -d≤2097152 by omega) (by omega) (by omega)
  have e:s * -d=-(s*d):=Int.mul_neg s d
  have f:=Int.mul_nonneg h1 (show 0≤-d by omega)
  omega
theorem Bd.step {B sm:Int} {x out:List Int} {e:I2} (hs:0≤sm∧sm≤1000000) (hx:Small x) (hB:0≤B) (h:Bd B out):Bd (B+4194304000000) (stepE sm x out e):=by
 have hx':Bd 1048576 x:=hx
 have x1:=hx'.get (by omega) e.1.toNat
 have x2:=hx'.get (by omega) e.2.toNat
 have hd:=mul_bd hs.1 hs.2 (show -2097152≤x.getD e.1.toNat 0-x.getD e.2.toNat 0 by omega) (by omega)
 unfold stepE
 generalize sm*(x.getD e.1.toNat 0-x.getD e.2.toNat 0)=d at *
 have o1:=h.get hB e.1.toNat
 have h1:Bd (B+2097152000000) (out.set e.1.toNat (out.getD e.1.toNat 0+d)):=(h.mono (by omega)).set _ (by omega)
 have o2:=h1.get (by omega) e.2.toNat
 exact (h1.mono (by omega)).set _ (by omega)
def fillTo (an:Int) (x:List Int) (k:Nat):List Int:=(x.take k).map (an*·) ++ List.replicate (x.length-k) 0
theorem IntsAt.set {w:World} {b o:Nat} {zs:List Int} (h:IntsAt w b o zs) (i:Nat) (v:Int):IntsAt (w.setCell ⟨b,o+i,none⟩ (.int .i64 v)) b o (zs.set i v):=by
 intro j hj
 have hj':j < zs.length:=by simpa using hj
 rw[World.frozen?_setCell]
 refine⟨?_,(h j hj').2⟩
 by_cases hij:i=j
 ·subst hij
  rw[zL _ _ _ (by rw[(h i hj').1];rfl)];simp
 ·rw[zK _ _ _ _ (by first|(simp;done)|(simp;omega)),(h j hj').1,List.getElem_set_ne hij]
theorem IntsAt.made (w:World) (n:Nat):IntsAt (w.alloc (.cells (madeCells #[.int .i64 0] n) 3)) w.heap.size 0 (List.replicate n 0):=by
 intro j hj
 have h:=World.rowIs_made w (.int .i64 0) n 3
 rw[Nat.zero_add]
 exact⟨by rw[h.cell (by simpa using hj)];simp,h.frozen j⟩
end Go.Proofs.YtednaajanciabaaGreatDoor
