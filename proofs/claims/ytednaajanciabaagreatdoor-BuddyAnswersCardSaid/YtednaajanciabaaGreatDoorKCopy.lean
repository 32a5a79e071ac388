import Derived.Test.YtednaajanciabaaGreatDoorKRegion
import Derived.Laws.CopyRow
import Derived.Laws.CopyOwn
import Derived.Deep.DeepCutAuto
import Derived.Test.YtednaajanciabaaGreatDoorKRefA
import Derived.Deep.OwnRows
set_option maxRecDepth 100000
set_option maxHeartbeats 8000000
set_option linter.unusedSimpArgs false
set_option linter.unusedVariables false
namespace Go.RX
open Go.RowKit
theorem run_copyK {P:Program} (w:World) (dT sT ty elem:TypeId) (size g o dLen dCap:Nat) (D A:Option Addr) (sLen sCap:Nat) (cur:Array Value) (t:TypeId) (cs:List Value) (m:Nat)
  (hu:P.underlying dT=some (.slice elem)) (hs:(P.info? elem).map (·.size)=some size) (hg:w.heap[g]?=some (.cells cur t (0,0))) (hm:m=Nat.min sLen dLen) (hn:cs.length=m*size)
  (hD:0 < m→D=some ⟨g,o,none⟩) (hA:0 < m→∃ a,A=some a∧∀ j v,cs[j]?=some v→w.cell? (a.add j)=some v) (hfit:o+cs.length≤cur.size) (h1:∀ v∈cs,v.oneCell'=true) :
  (Builtin.copy_ #[dT,sT] ty #[.slice D dLen dCap,.slice A sLen sCap]).run P w=.ok (goInt m) (w.setRow g (cur.toList.take o ++ cs ++ cur.toList.drop (o+cs.length)).toArray):=by
 cases hq:P.info? elem with
 |none=>simp[hq] at hs
 |some i=>
  have hi:i.size=size:=by simpa[hq] using hs
  rcases Nat.eq_zero_or_pos m with h0|h0
  ·obtain rfl:cs=[]:=List.eq_nil_of_length_eq_zero (by rw[hn,h0,Nat.zero_mul])
   have e:w.setRow g (cur.toList.take o ++ [] ++ cur.toList.drop (o+0)).toArray=w:=by
    rw[List.append_nil,Nat.add_zero,List.take_append_drop];exact setRow_self w g cur t (0,0) hg
   have hl:∀ (x:Addr),(loadCells x 0).run P w=.ok #[] w:=fun x=>by simpa using run_loadCells_list (P:=P) w x [] (by simp)
   subst h0
   simp only[List.length_nil]
   rw[e]
   cases D<;>cases A<;>simp[Builtin.copy_,run_underlying hu,Builtin.lenOf,Builtin.firstCells,sizeOf,typeInfo,hq,←hm,storeCells,hl]
  ·obtain rfl:=hD h0
   obtain⟨a,rfl,hc⟩:=hA h0
   have hl:=run_loadCells_list (P:=P) w a cs hc
   rw[hn] at hl
   have hst:=run_storeCells_at P g o t cs 0 cur w hg (by simpa using hfit) h1
   simp[Builtin.copy_,run_underlying hu,Builtin.lenOf,Builtin.firstCells,sizeOf,typeInfo,hq,hi,←hm,hl,hst]
theorem wp_copyK {P:Program} {o:Oper} {a:Act} {w:World} {K:Act→World→Prop} {Q:Exit→Act→World→Prop} (d s:Operand) (dT sT elem:TypeId)
  (ho:o.op=.call { callee:=.builtin .copy,args:=#[d,s],argTypes:=#[dT,sT] }) (size:Nat) (hu:P.underlying dT=some (.slice elem)) (hs:(P.info? elem).map (·.size)=some size)
  (g off:Nat) (D A:Option Addr) (dLen dCap sLen sCap:Nat) (hd:a.eval d=.slice D dLen dCap) (hsr:a.eval s=.slice A sLen sCap) (cur:Array Value) (t:TypeId) (hg:w.heap[g]?=some (.cells cur t (0,0)))
  (cs:List Value) (m:Nat) (hm:m=Nat.min sLen dLen) (hn:cs.length=m*size) (hD:0 < m→D=some ⟨g,off,none⟩) (hA:0 < m→∃ a,A=some a∧∀ j v,cs[j]?=some v→w.cell? (a.add j)=some v)
  (hfit:off+cs.length≤cur.size) (h1:∀ v∈cs,v.oneCell'=true)
  (h:K (a.put o.dst (goInt m)) (w.setRow g (cur.toList.take off ++ cs ++ cur.toList.drop (off+cs.length)).toArray)):o.wp P a w K Q:=by
 have hrun:=run_copyK (P:=P) w dT sT o.type elem size g off dLen dCap D A sLen sCap cur t cs m hu hs hg hm hn hD hA hfit h1
 unfold Oper.wp execOp
 simp only[ho,resolve,invoke,builtin,Sem.run_bind,Sem.run_pure,Result.andThen_ok,List.map_toArray,List.map_cons,List.map_nil,hd,hsr,hrun]
 exact h
end Go.RX
namespace Go.Proofs.YtednaajanciabaaGreatDoor
open Go.RowKit Go.Grid
theorem own_below {w w':World} {base:Nat} {e:TypeId} {size:Nat} {v:Value} {n:Nat} {xs:List Value} (h:w.ownsRow base e size v n xs) (hb:Below w.heap.size w w'):w'.ownsRow base e size v n xs:=
 World.ownsRow.kept (row:=none) h ⟨hb.os,hb.tape,hb.output,hb.size,fun k hk _=>hb.block k hk⟩ (by
  cases v.ownBlock with
  |none=>exact .inl rfl
  |some k=>exact .inr (by simp))
def RdI (w:World) (v:Value) (zs:List Int):Prop:=∃ p cap,v=.slice p zs.length cap∧zs.length≤cap∧VecAt w p zs
theorem RdI.nil (w:World):RdI w (.slice none 0 0) []:=⟨none,0,rfl,Nat.le_refl _,0,0,fun h=>by simp at h,fun j h=>by simp at h⟩
theorem RdI.below {w w':World} {v:Value} {zs:List Int} (h:RdI w v zs) (hb:Below w.heap.size w w'):RdI w' v zs:=by
 obtain⟨p,cap,h1,h2,h3⟩:=h
 exact⟨p,cap,h1,h2,h3.below hb⟩
theorem own_cells {w:World} {base:Nat} {e:TypeId} {v:Value} {n:Nat} {xs:List Value} (h:w.ownsRow base e 1 v n xs) (hn:0 < n):∃ g cap,v=.slice (some ⟨g,0,none⟩) n cap∧n≤cap∧base≤g∧g < w.heap.size∧∀ j,j < n→w.cell? ⟨g,j,none⟩=xs[j]?:=by
 rcases h.2 with ⟨_,h2⟩|⟨g,cap,cur,h1,h2,h3,h4,_⟩
 ·omega
 ·have hlt:=(World.ownsRow.lt h g (by rw[h1];rfl)).2
  refine⟨g,cap,h1,h4,h2,hlt,fun j hj=>?_⟩
  subst h1
  exact World.ownsRow.cellAt h j (by omega)
def RowsRd (w:World) (N M:Nat) (ls:Nat→List Int):Prop:=∀ a,a < M→∃ v,w.cell? ⟨N,a,none⟩=some v∧RdI w v (ls a)
theorem RowsRd.below {w w':World} {N M:Nat} {ls:Nat→List Int} (h:RowsRd w N M ls) (hb:Below w.heap.size w w'):RowsRd w' N M ls:=fun a ha=>by
 obtain⟨v,h1,h2⟩:=h a ha
 exact⟨v,zP hb h1,h2.below hb⟩
def FRow (w:World) (b N:Nat) (D:Nat→Int):Prop:=∀ k,k < N→w.cell? ⟨b,k,none⟩=some (.int .i64 (D k))∧w.frozen? ⟨b,k,none⟩=false
theorem FRow.kept {w w':World} {b N:Nat} {D:Nat→Int} (h:FRow w b N D) (hb:w'.heap[b]?=w.heap[b]?):FRow w' b N D:=fun k hk=>⟨(World.cell?_of_block hb).trans (h k hk).1,(zFb hb).trans (h k hk).2⟩
theorem FRow.ext {w:World} {b N:Nat} {D D':Nat→Int} (h:FRow w b N D) (he:∀ k,k < N→D k=D' k):FRow w b N D':=fun k hk=>by rw[←he k hk];exact h k hk
theorem FRow.set {w:World} {b N:Nat} {D:Nat→Int} (h:FRow w b N D) (a:Nat) (v:Int):FRow (w.setCell ⟨b,a,none⟩ (.int .i64 v)) b N (fun k=>if k=a then v else D k):=fun k hk=>by
 refine⟨?_,by rw[World.frozen?_setCell];exact (h k hk).2⟩
 dsimp only
 by_cases hka:k=a
 ·subst hka
  rw[if_pos rfl]
  exact zL _ _ _ (by rw[(h k hk).1];rfl)
 ·rw[if_neg hka]
  refine (zK _ _ _ _ ?_).trans (h k hk).1
  simp[hka]
theorem FRow.made (w:World) (n:Nat):FRow (w.alloc (.cells (madeCells #[.int .i64 0] n) 3)) w.heap.size n (fun _=>0):=fun k hk=>by
 have h:=World.rowIs_made w (.int .i64 0) n 3
 exact⟨h.cell hk,h.frozen k⟩
end Go.Proofs.YtednaajanciabaaGreatDoor
