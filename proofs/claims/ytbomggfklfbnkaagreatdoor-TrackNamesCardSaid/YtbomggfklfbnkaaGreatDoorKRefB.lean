import Derived.Test.YtbomggfklfbnkaaGreatDoorKRefA
import Derived.Test.YtbomggfklfbnkaaGreatDoorKFreq
import Derived.Test.YtbomggfklfbnkaaGreatDoorKRegion
import Derived.ArgAppend
import Derived.Test.YtbomggfklfbnkaaGreatDoorSortS
import Derived.Test.YtbomggfklfbnkaaGreatDoorLocate
import Derived.Test.YtbomggfklfbnkaaGreatDoorGridL
set_option maxRecDepth 100000
set_option maxHeartbeats 8000000
set_option linter.unusedSimpArgs false
set_option linter.unusedVariables false
namespace Go.Proofs.YtbomggfklfbnkaaGreatDoor
open Go.RowKit Go.Grid
def AtMul (i:Value) (h k:Nat):Prop:=∃ x:Nat,x=k*h∧i=.int .i64 x
theorem AtMul.next {h k y:Nat} (hy:y=k*h):AtMul (.int .i64 ((y:Int)+(h:Int))) h (k+1):=⟨y+h,by rw[Nat.succ_mul,hy],by rw[Int.natCast_add]⟩
theorem AtMul.zero (h:Nat):AtMul (.int .i64 0) h 0:=⟨0,by simp,rfl⟩
def foundI (L:List Pl) (p:Pl):Int:=match ix L p with
 |some i=>(i:Int)
 |none=>-1
structure Corner (n:Nat) (q:Pl):Prop where
 ok:q.Ok
 found:foundI (nodesL n) (normal q)=(atL n q:Int)
 le:atL n q≤100000
end Go.Proofs.YtbomggfklfbnkaaGreatDoor
namespace Go.RX
open Go.RowKit
theorem own_new {w:World} {B:Nat} {cs:Array Value} {e:TypeId} {size:Nat} (hB:w.heap[B]?=some (.cells cs e (0,0))) (hc:cs.size=size):w.ownsRow B e size (.slice (some ⟨B,0,none⟩) 1 1) 1 cs.toList:=by
 refine⟨by simpa using hc,.inr ⟨B,1,cs,rfl,Nat.le_refl _,hB,Nat.le_refl _,by unfold maxLen;omega,by omega,?_⟩⟩
 rw[Nat.one_mul,List.take_of_length_le (by simpa using Nat.le_of_eq hc)]
def SrcAt (w:World) (A:Option Addr) (m:Nat) (news:List Value):Prop:=0 < m→∃ ad,A=some ad∧∀ j u,news[j]?=some u→w.cell? (ad.add j)=some u
theorem SrcAt.of_own {w:World} {base:Nat} {e:TypeId} {size n c:Nat} {A:Option Addr} {xs:List Value} (h:w.ownsRow base e size (.slice A n c) n xs):SrcAt w A n xs:=fun hn=>by
 obtain⟨g,cap,hv,_,hlt⟩:=h.form hn
 have hA:A=some ⟨g,0,none⟩:=by injection hv
 subst hA
 exact⟨_,rfl,h.cells (g:=g) rfl⟩
theorem SrcAt.take {w:World} {A:Option Addr} {n k size:Nat} {xs:List Value} (h:SrcAt w A n xs) (hk:k≤n):SrcAt w A k (xs.take (k*size)):=fun hm=>by
 obtain⟨ad,e,hc⟩:=h (by omega)
 refine⟨ad,e,fun j u hu=>hc j u ?_⟩
 rw[List.getElem?_take] at hu
 split at hu
 ·exact hu
 ·cases hu
theorem SrcAt.none (w:World) (A:Option Addr) (xs:List Value):SrcAt w A 0 xs:=fun h=>by omega
theorem SrcAt.keep {w w':World} {A:Option Addr} {m:Nat} {news:List Value} (h:SrcAt w A m news) (hb:∀ p v,w.cell? p=some v→w'.cell? p=some v):SrcAt w' A m news:=fun hm=>by
 obtain⟨ad,e,hc⟩:=h hm
 exact⟨ad,e,fun j u hu=>hb _ _ (hc j u hu)⟩
end Go.RX
namespace Go.Proofs.YtbomggfklfbnkaaGreatDoor
open Go.RowKit Go.Grid
def ShRow (w:World) (base:Nat) (v:Value) (S:List (Nat × Nat)):Prop:=w.ownsRow base 81 2 v S.length (S.flatMap encN)
theorem ShRow.nil (w:World) (base:Nat):ShRow w base (.slice none 0 0) []:=World.ownsRow_nil _ _ _ _
theorem ShRow.kept {w w':World} {base:Nat} {v:Value} {S:List (Nat × Nat)} (h:ShRow w base v S) (hb:Below w.heap.size w w'):ShRow w' base v S:=
 World.ownsRow.kept (row:=none) h ⟨hb.os,hb.tape,hb.output,hb.size,fun k hk _=>hb.block k hk⟩ (by
  cases v.ownBlock with
  |none=>exact .inl rfl
  |some k=>exact .inr (by simp))
theorem ShRow.mono {w:World} {base base':Nat} {v:Value} {S:List (Nat × Nat)} (h:ShRow w base v S) (hb:base'≤base):ShRow w base' v S:=own_mono h hb
theorem encN_get:∀ (S:List (Nat × Nat)) (m:Nat) (h:m < S.length) (j:Nat),j < 2→(S.flatMap encN)[m*2+j]?=(encN S[m])[j]?
 |p :: L,0,h,j,hj=>by
  simp only[List.flatMap_cons,Nat.zero_mul,Nat.zero_add]
  rw[List.getElem?_append_left (by simp[encN];omega)];rfl
 |p :: L,m+1,h,j,hj=>by
  have ih:=encN_get L m (by simpa using h) j hj
  simp only[List.flatMap_cons]
  rw[List.getElem?_append_right (by simp[encN];omega),show (m+1)*2+j-(encN p).length=m*2+j by simp[encN];omega,ih];rfl
theorem ShRow.form {w:World} {base:Nat} {v:Value} {S:List (Nat × Nat)} (h:ShRow w base v S):∃ p cap b,v=.slice p S.length cap∧S.length≤cap∧(0 < S.length→p=some ⟨b,0,none⟩∧base≤b∧b < w.heap.size)∧SharesAt w b S∧(p=none→cap=0):=by
 rcases h.2 with ⟨h1,h2⟩|⟨g,cap,cur,h1,h2,h3,h4,_⟩
 ·exact⟨none,0,0,by rw[h1,h2],by omega,fun hh=>by omega,fun j hj=>by omega,fun _=>rfl⟩
 ·refine⟨_,cap,g,h1,h4,fun hp=>⟨rfl,h2,(World.ownsRow.lt h g (by rw[h1];rfl)).2⟩,fun j hj=>?_,fun e=>by cases e⟩
  subst h1
  have key:∀ i,i < 2→w.cell? ⟨g,j*2+i,none⟩=(encN S[j])[i]?:=fun i hi=>by
   rw[World.ownsRow.cellAt h (j*2+i) (by omega),←encN_get S j hj i hi]
  exact⟨key 0 (by omega),key 1 (by omega)⟩
theorem ShRow.src {w w':World} {base cap:Nat} {p:Option Addr} {S:List (Nat × Nat)} (h:ShRow w base (.slice p S.length cap) S) (hb:Below w.heap.size w w'):RX.SrcAt w' p S.length (S.flatMap encN):=
 (RX.SrcAt.of_own h).keep (fun _ _ hp=>zP hb hp)
def raw (n:Nat) (C:List (Pl × Nat)):List (Nat × Nat):=(C.filter (fun c=>decide (0 < c.2))).map (fun c=>(atL n c.1,c.2))
def ShInv (w:World) (base:Nat) (v:Value) (n:Nat) (C:List (Pl × Nat)):Prop:=∃ T,ShRow w base v T∧Asc T∧T.Perm (raw n C)∧T.length≤C.length
theorem ShInv.nil (w:World) (base n:Nat):ShInv w base (.slice none 0 0) n []:=⟨[],ShRow.nil _ _,List.Pairwise.nil,List.Perm.refl _,Nat.le_refl _⟩
theorem ShInv.kept {w w':World} {base n:Nat} {v:Value} {C:List (Pl × Nat)} (h:ShInv w base v n C) (hb:Below w.heap.size w w'):ShInv w' base v n C:=by
 obtain⟨T,h1,h2⟩:=h;exact⟨T,h1.kept hb,h2⟩
end Go.Proofs.YtbomggfklfbnkaaGreatDoor
