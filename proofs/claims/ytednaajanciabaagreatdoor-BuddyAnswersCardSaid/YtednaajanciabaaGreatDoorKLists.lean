import Derived.Test.YtednaajanciabaaGreatDoorKPrec
import Derived.Test.YtednaajanciabaaGreatDoorGridL
import Derived.Test.YtednaajanciabaaGreatDoorKRefB
import Derived.Test.YtednaajanciabaaGreatDoorKPlainG
import Derived.Test.YtednaajanciabaaGreatDoorKCopy
import Derived.Test.YtednaajanciabaaGreatDoorKRLists
set_option maxRecDepth 100000
set_option maxHeartbeats 8000000
set_option linter.unusedSimpArgs false
set_option linter.unusedVariables false
namespace Go.Proofs.YtednaajanciabaaGreatDoor
open Go.RowKit Go.Grid Go.Maps Go.Sort Go.Shelf
def NodeI (n i:Int):Prop:=0≤i∧i < countI n
instance (n i:Int):Decidable (NodeI n i):=by unfold NodeI;infer_instance
def nodeB (n i:Int):Bool:=decide (NodeI n i)
theorem next_in {n i:Nat} (h1:1≤n) (h8:n≤8) {x:Int} (h:x∈nextL n i):0≤x∧x < (nodesL n).length:=by
 obtain⟨e,he,h⟩:=mem_next.1 h
 have h5:=edges_in h1 h8 e he
 rcases h with ⟨_,rfl⟩|⟨_,rfl⟩<;>omega
theorem strict_len:∀ {l:List Int} {a b:Int},l.Pairwise (· < ·)→(∀ x∈l,a≤x∧x < b)→a≤b→(l.length:Int)≤b-a
 |[],a,b,_,_,h=>by simp;omega
 |x :: l,a,b,hp,hb,h=>by
  have h3:=hb x (by simp)
  have h4:=strict_len (l:=l) (a:=x+1) (b:=b) (List.pairwise_cons.1 hp).2 (fun y hy=>⟨by have:=(List.pairwise_cons.1 hp).1 y hy;omega,(hb y (by simp[hy])).2⟩) (by omega)
  simp only[List.length_cons];push_cast;omega
theorem next_len {n:Nat} (h1:1≤n) (h8:n≤8) (i:Nat):(nextL n i).length≤700:=by
 have h3:=strict_len (next_strict h1 h8 i) (fun x hx=>next_in h1 h8 hx) (by omega)
 have h4:(nodesL n).length≤642:=by
  rw[nodes_len h1 h8]
  have:=Nat.mul_le_mul (show 10*n≤80 by omega) h8
  omega
 omega
theorem RdI.of_row {w:World} {v:Value} {zs:List Int} (h:RowI w v zs):RdI w v zs:=by
 obtain⟨p,cap,b,h1,h2,h3,h4⟩:=h
 exact⟨p,cap,h1,h2,b,0,fun h=>(h3 h).1,fun j hj=>(h4 j hj).1⟩
theorem NextR.row {w:World} {N M base a:Nat} {ls:Nat→List Int} (h:NextR w N M base ls) (ha:a < M):∃ v,w.cell? ⟨N,a,none⟩=some v∧RdI w v (ls a):=by
 obtain⟨vs,h1,h2,_⟩:=h
 exact⟨vs a,h1.cell ha,RdI.of_row (h2 a ha).1⟩
theorem RdI.of_own {w:World} {base:Nat} {v:Value} {zs:List Int} (h:w.ownsRow base 3 1 v zs.length (zs.map (Value.int .i64))):RdI w v zs:=RdI.of_row (RowI.of_own h)
theorem AroAt.rd {w:World} {N M a:Nat} {ls:Nat→List Int} (h:AroAt w N M ls) (ha:a < M):∃ v,w.cell? ⟨N,a,none⟩=some v∧RdI w v (ls a):=by
 obtain⟨vs,h1,h2⟩:=h
 exact⟨vs a,h1.cell ha,RdI.of_own (h2 a ha)⟩
def EdRow (w:World) (base:Nat) (v:Value) (E:List I2):Prop:=w.ownsRow base 139 2 v E.length (E.flatMap enc2)
theorem EdRow.nil (w:World) (base:Nat):EdRow w base (.slice none 0 0) []:=World.ownsRow_nil _ _ _ _
theorem EdRow.kept {w w':World} {base:Nat} {v:Value} {E:List I2} (h:EdRow w base v E) (hb:Below w.heap.size w w'):EdRow w' base v E:=own_below h hb
theorem EdRow.mono {w:World} {base base':Nat} {v:Value} {E:List I2} (h:EdRow w base v E) (hb:base'≤base):EdRow w base' v E:=own_mono h hb
theorem EdRow.snoc {w:World} {base:Nat} {v:Value} {E:List I2} {a b:Int} (h:w.ownsRow base 139 2 v (E.length+1) (E.flatMap enc2 ++ [.int .i64 a,.int .i64 b])):EdRow w base v (E ++ [(a,b)]):=by
 unfold EdRow;rw[List.flatMap_append,List.length_append];exact h
theorem enc2_get:∀ (C:List I2) (m:Nat) (h:m < C.length) (j:Nat),j < 2→(C.flatMap enc2)[m*2+j]?=(enc2 C[m])[j]?
 |p :: L,0,h,j,hj=>by
  simp only[List.flatMap_cons,Nat.zero_mul,Nat.zero_add]
  rw[List.getElem?_append_left (by simp[enc2];omega)];rfl
 |p :: L,m+1,h,j,hj=>by
  have ih:=enc2_get L m (by simpa using h) j hj
  simp only[List.flatMap_cons]
  rw[List.getElem?_append_right (by simp[enc2];omega),show (m+1)*2+j-(enc2 p).length=m*2+j by simp[enc2];omega,ih];rfl
def EdsAt (w:World) (b:Nat) (C:List I2):Prop:=∀ k (h:k < C.length),w.cell? ⟨b,k*2,none⟩=some (.int .i64 C[k].1)∧w.cell? ⟨b,k*2+1,none⟩=some (.int .i64 C[k].2)
theorem EdRow.form {w:World} {base:Nat} {v:Value} {C:List I2} (h:EdRow w base v C):∃ p cap b,v=.slice p C.length cap∧C.length≤cap∧(0 < C.length→p=some ⟨b,0,none⟩∧base≤b∧b < w.heap.size)∧EdsAt w b C:=by
 rcases Nat.eq_zero_or_pos C.length with h0|h0
 ·obtain⟨p,cap,rfl,hc⟩:=own_slice h
  exact⟨p,cap,0,rfl,hc,fun hh=>by omega,fun j hj=>by omega⟩
 ·obtain⟨g,cap,cur,rfl,hc,hb,hg⟩:=own_some h h0
  refine⟨_,cap,g,rfl,hc,fun _=>⟨rfl,hb,(World.ownsRow.lt h g rfl).2⟩,fun j hj=>?_⟩
  have key:∀ i,i < 2→w.cell? ⟨g,j*2+i,none⟩=(enc2 C[j])[i]?:=fun i hi=>by
   rw[World.ownsRow.cellAt h (j*2+i) (by omega),←enc2_get C j hj i hi]
  exact⟨key 0 (by omega),key 1 (by omega)⟩
def eSo (ls:Nat→List Int) (a m:Nat):List I2:=eTo ls a ++ (((ls a).take m).filter (fun b=>decide ((a:Int) < b))).map (fun b=>((a:Int),b))
def fErr (x:Int):Int:=if 1≤x∧x≤8 then 0 else 1
def onF {α:Type} (x:Int) (L:Nat→List α):List α:=if 1≤x∧x≤8 then L x.toNat else []
def RdPl (w:World) (v:Value) (L:List Pl):Prop:=∃ p cap b,v=.slice p L.length cap∧L.length≤cap∧(0 < L.length→p=some ⟨b,0,none⟩)∧PlsAt w b L
def RdCe (w:World) (v:Value) (C:List I3):Prop:=∃ p cap b,v=.slice p C.length cap∧C.length≤cap∧(0 < C.length→p=some ⟨b,0,none⟩)∧CesAt w b C
def RdEd (w:World) (v:Value) (E:List I2):Prop:=∃ p cap b,v=.slice p E.length cap∧E.length≤cap∧(0 < E.length→p=some ⟨b,0,none⟩)∧EdsAt w b E
theorem RdPl.nil (w:World):RdPl w (.slice none 0 0) []:=⟨none,0,0,rfl,Nat.le_refl _,fun h=>by simp at h,fun k hk=>by simp at hk⟩
theorem RdCe.nil (w:World):RdCe w (.slice none 0 0) []:=⟨none,0,0,rfl,Nat.le_refl _,fun h=>by simp at h,fun k hk=>by simp at hk⟩
theorem RdEd.nil (w:World):RdEd w (.slice none 0 0) []:=⟨none,0,0,rfl,Nat.le_refl _,fun h=>by simp at h,fun k hk=>by simp at hk⟩
theorem RdPl.below {w w':World} {v:Value} {L:List Pl} (h:RdPl w v L) (hb:Below w.heap.size w w'):RdPl w' v L:=by
 obtain⟨p,cap,b,h1,h2,h3,h4⟩:=h
 exact⟨p,cap,b,h1,h2,h3,fun k hk=>⟨zP hb (h4 k hk).1,zP hb (h4 k hk).2.1,zP hb (h4 k hk).2.2.1,zP hb (h4 k hk).2.2.2⟩⟩
theorem RdCe.below {w w':World} {v:Value} {L:List I3} (h:RdCe w v L) (hb:Below w.heap.size w w'):RdCe w' v L:=by
 obtain⟨p,cap,b,h1,h2,h3,h4⟩:=h
 exact⟨p,cap,b,h1,h2,h3,fun k hk=>⟨zP hb (h4 k hk).1,zP hb (h4 k hk).2.1,zP hb (h4 k hk).2.2⟩⟩
theorem RdEd.below {w w':World} {v:Value} {L:List I2} (h:RdEd w v L) (hb:Below w.heap.size w w'):RdEd w' v L:=by
 obtain⟨p,cap,b,h1,h2,h3,h4⟩:=h
 exact⟨p,cap,b,h1,h2,h3,fun k hk=>⟨zP hb (h4 k hk).1,zP hb (h4 k hk).2⟩⟩
theorem RdPl.of_row {w:World} {base:Nat} {v:Value} {L:List Pl} (h:PlRow w base v L):RdPl w v L:=by
 obtain⟨p,cap,b,h1,h2,h3,h4⟩:=h.form
 exact⟨p,cap,b,h1,h2,fun h=>(h3 h).1,h4⟩
theorem RdCe.of_row {w:World} {base:Nat} {v:Value} {L:List I3} (h:CeRow w base v L):RdCe w v L:=by
 obtain⟨p,cap,b,h1,h2,h3,h4⟩:=h.form
 exact⟨p,cap,b,h1,h2,fun h=>(h3 h).1,h4⟩
theorem RdEd.of_row {w:World} {base:Nat} {v:Value} {L:List I2} (h:EdRow w base v L):RdEd w v L:=by
 obtain⟨p,cap,b,h1,h2,h3,h4⟩:=h.form
 exact⟨p,cap,b,h1,h2,fun h=>(h3 h).1,h4⟩
def nErr (n i:Int):Int:=if NodeI n i then 0 else 1
def nbL (n i:Int):List Int:=if NodeI n i then nextL n.toNat i.toNat else []
end Go.Proofs.YtednaajanciabaaGreatDoor
