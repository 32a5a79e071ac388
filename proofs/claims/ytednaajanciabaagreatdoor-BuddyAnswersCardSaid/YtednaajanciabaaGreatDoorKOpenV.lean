import Derived.Test.YtednaajanciabaaGreatDoorKRegion
import Derived.Test.YtednaajanciabaaGreatDoorKPoints
import Derived.ProofKit
import Derived.OpenShut
import Derived.Lib.SmallJoins
import Derived.Deep.Slices
set_option maxRecDepth 100000
set_option maxHeartbeats 8000000
set_option linter.unusedSimpArgs false
set_option linter.unusedVariables false
namespace Go.Proofs.YtednaajanciabaaGreatDoor
open Go.ChangeShapes Go.WideShapes Go.ChangeAt Go.RowKit Go.Joins Go.Deep
theorem open_vec {H:Type} {enc:TypeId × Value→H} {W:World} {r:Reach} {base:Nat} {v:Value} {d:DataW H} {p:List MemPlace} (hval:Value.okWide Tryz.prog W r base 22 v) (h:DataW.Trod enc Tryz.prog W 0 (fun _=>true) true 22 v d p) :
  ∃ (pc:Option Addr) (cap:Nat) (L:List Int),v=.slice pc L.length cap∧VecAt W pc L∧I64L L∧L.length≤cap∧cap≤9223372036854775807:=by
 obtain⟨a0,len,cap,rfl⟩:=okWide_slice Tryz.underlying22 hval
 obtain⟨fuel,hf⟩:=h
 rcases open_ints Tryz.underlying22 Tryz.underlying3 cellsInt hf with ⟨hcs,hx⟩|⟨a,len',cap',zs,hcs,_,hl,hm,hz,hx,hcell,hwz⟩
 ·simp[Value.cells] at hcs
  obtain⟨rfl,rfl,rfl⟩:=hcs
  exact⟨none,0,[],rfl,⟨0,0,by simp,fun k hk=>absurd hk (by simp)⟩,fun x hx=>absurd hx (by simp),by simp,by omega⟩
 ·simp[Value.cells] at hcs
  obtain⟨rfl,rfl,rfl⟩:=hcs
  simp only[if_true] at hz
  have hlen:(zs.take len).length=len:=by simp;omega
  have hmax:maxLen≤9223372036854775807:=by decide
  refine⟨some a,cap,zs.take len,by rw[hlen],⟨a.block,a.off,fun h0=>?_,fun k hk=>?_⟩,fun x hx=>?_,by omega,by omega⟩
  ·rw[hlen] at h0
   obtain⟨ab,ao,spot⟩:=a
   have hspot:spot=none:=by simpa[Addr.add] using World.cell?_spot (hcell 0 (by omega))
   subst hspot
   rfl
  ·rw[hlen] at hk
   have hc:=hcell k (by omega)
   obtain⟨ab,ao,spot⟩:=a
   have hspot:spot=none:=by simpa[Addr.add] using World.cell?_spot (hcell 0 (by omega))
   subst hspot
   have hk2:k < zs.length:=by omega
   have ha:(⟨ab,ao,none⟩:Addr).add k=⟨ab,ao+k,none⟩:=by
    unfold Addr.add
    by_cases h0:k=0<;>simp[h0]
   rw[ha] at hc
   have hg:zs.getD k 0=zs[k]:=by simp[List.getD,hk2]
   rw[List.getElem_take,hc,hg]
  ·have:=bounds_i64 (hwz x (List.mem_of_mem_take hx))
   omega
open Go.ChangeShapes Go.WideShapes Go.ChangeAt Go.RowKit Go.Joins Go.Deep
end Go.Proofs.YtednaajanciabaaGreatDoor
