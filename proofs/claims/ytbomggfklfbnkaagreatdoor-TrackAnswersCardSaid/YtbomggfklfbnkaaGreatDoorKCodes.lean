import Derived.Test.YtbomggfklfbnkaaGreatDoorProg
import Derived.Test.YtbomggfklfbnkaaGreatDoorKRegion
import Derived.WalkKit
import Derived.WalkLawsBesides
import Derived.WalkSpells
import Derived.Lib.Hide
import Derived.Maps.AppendAt
import Derived.Test.YtbomggfklfbnkaaGreatDoorKEdges
set_option maxRecDepth 100000
set_option maxHeartbeats 8000000
set_option linter.unusedSimpArgs false
set_option linter.unusedVariables false
namespace Go.Proofs.YtbomggfklfbnkaaGreatDoor
open Go.RowKit
structure CodesAt (w:World) (g b:Nat) (L:List Int) (i:Nat):Prop where
 hp:∃ p cap o,w.cell? ⟨g,0,none⟩=some (.slice p L.length cap)∧(0 < L.length→p=some ⟨b,o,none⟩)∧∀ k (h:k < L.length),w.cell? ⟨b,o+k,none⟩=some (.int .u8 L[k])
 hi:w.cell? ⟨g,1,none⟩=some (.int .i64 i)
 hf:w.frozen? ⟨g,1,none⟩=false
 hle:i≤L.length
 hlen:L.length≤240
 hval:∀ k (h:k < L.length),0≤L[k]∧L[k] < 256
 hgb:g≠b
theorem CodesAt.kept {w w':World} {g b:Nat} {L:List Int} {i:Nat} (h:CodesAt w g b L i) (hg:w'.heap[g]?=w.heap[g]?) (hb:0 < L.length→w'.heap[b]?=w.heap[b]?):CodesAt w' g b L i where
 hp:=by
  obtain⟨p,cap,o,h1,h2,h3⟩:=h.hp
  exact⟨p,cap,o,(World.cell?_of_block hg).trans h1,h2,fun k hk=>(World.cell?_of_block (hb (by omega))).trans (h3 k hk)⟩
 hi:=(World.cell?_of_block hg).trans h.hi
 hf:=(zFb hg).trans h.hf
 hle:=h.hle
 hlen:=h.hlen
 hval:=h.hval
 hgb:=h.hgb
theorem CodesAt.lt {w:World} {g b:Nat} {L:List Int} {i:Nat} (h:CodesAt w g b L i):g < w.heap.size:=zM w _ h.hi
theorem CodesAt.ltb {w:World} {g b:Nat} {L:List Int} {i:Nat} (h:CodesAt w g b L i) (h0:0 < L.length):b < w.heap.size:=by
 obtain⟨p,cap,o,_,_,h3⟩:=h.hp
 exact zM w _ (h3 0 h0)
theorem CodesAt.below {w w':World} {g b:Nat} {L:List Int} {i:Nat} (h:CodesAt w g b L i) (hb:Below w.heap.size w w'):CodesAt w' g b L i:=
 h.kept (hb.block _ h.lt) (fun h0=>hb.block _ (h.ltb h0))
theorem CodesAt.grown {w w':World} {g b:Nat} {L:List Int} {i:Nat} {row:Option Nat} (h:CodesAt w g b L i) (hb:w.grownBy w' row) (h1:some g≠row) (h2:some b≠row):CodesAt w' g b L i:=
 h.kept (hb.block _ h.lt h1) (fun h0=>hb.block _ (h.ltb h0) h2)
theorem CodesAt.set {w:World} {g b:Nat} {L:List Int} {i:Nat} (h:CodesAt w g b L i) (j:Nat) (hj:j≤L.length):CodesAt (w.setCell ⟨g,1,none⟩ (.int .i64 j)) g b L j where
 hp:=by
  obtain⟨p,cap,o,h1,h2,h3⟩:=h.hp
  exact⟨p,cap,o,(zK _ _ _ _ (by simp)).trans h1,h2,fun k hk=>(zK _ _ _ _ (by have:=h.hgb;simp[Ne.symm this])).trans (h3 k hk)⟩
 hi:=zL _ _ _ (by rw[h.hi];rfl)
 hf:=by rw[World.frozen?_setCell];exact h.hf
 hle:=hj
 hlen:=h.hlen
 hval:=h.hval
 hgb:=h.hgb
def RowV (w:World) (base:Nat) (v:Value) (zs:List Int):Prop:=w.ownsRow base 3 1 v zs.length (zs.map (Value.int .i64))
theorem RowV.nil (w:World) (base:Nat):RowV w base (.slice none 0 0) []:=World.ownsRow_nil _ _ _ _
theorem RowV.snoc {w:World} {base:Nat} {v:Value} {zs:List Int} {x:Int} (h:w.ownsRow base 3 1 v (zs.length+1) (zs.map (Value.int .i64) ++ [.int .i64 x])):RowV w base v (zs ++ [x]):=by
 unfold RowV;simpa using h
theorem RowV.kept {w w':World} {base:Nat} {v:Value} {zs:List Int} {row:Option Nat} (h:RowV w base v zs) (hg:w.grownBy w' row) (hr:∀ k,row=some k→k < base):RowV w' base v zs:=
 World.ownsRow.kept h hg (by
  cases e:v.ownBlock with
  |none=>exact .inl rfl
  |some k=>refine .inr fun hh=>?_;have h1:=(World.ownsRow.lt h k e).1;have h2:=hr k hh.symm;omega)
theorem RowV.mono {w:World} {base base':Nat} {v:Value} {zs:List Int} (h:RowV w base v zs) (hb:base'≤base):RowV w base' v zs:=⟨h.1,h.2.imp id fun ⟨g,cap,cur,e,h1,r⟩=>⟨g,cap,cur,e,Nat.le_trans hb h1,r⟩⟩
theorem RowV.form {w:World} {base:Nat} {v:Value} {zs:List Int} (h:RowV w base v zs):∃ p cap b,v=.slice p zs.length cap∧zs.length≤cap∧(0 < zs.length→p=some ⟨b,0,none⟩∧base≤b∧b < w.heap.size)∧IntsAt w b 0 zs:=by
 rcases Nat.eq_zero_or_pos zs.length with h0|h0
 ·obtain⟨p,cap,rfl,hc⟩:=own_slice h
  exact⟨p,cap,0,rfl,hc,fun hh=>by omega,fun j hj=>by omega⟩
 ·obtain⟨g,cap,cur,rfl,hc,hb,hg⟩:=own_some h h0
  refine⟨_,cap,g,rfl,hc,fun _=>⟨rfl,hb,?_⟩,fun j hj=>?_⟩
  ·exact (World.ownsRow.lt h g rfl).2
  ·rw[Nat.zero_add]
   refine⟨?_,World.ownsRow.frozenAt h j⟩
   rw[World.ownsRow.cellAt h j (by omega)]
   simp[hj]
def Within (m:Nat) (zs:List Int):Prop:=∀ x∈zs,-(m:Int)≤x∧x≤m
theorem CodesAt.own {w w':World} {g b:Nat} {L:List Int} {i:Nat} {row:Option Nat} (h:CodesAt w g b L i) (hg:w.grownBy w' row) (hr:∀ k,row=some k→g≠k∧(0 < L.length→b≠k)):CodesAt w' g b L i:=
 h.kept (hg.block _ h.lt (fun e=>(hr g e.symm).1 rfl)) (fun h0=>hg.block _ (h.ltb h0) (fun e=>(hr b e.symm).2 h0 rfl))
end Go.Proofs.YtbomggfklfbnkaaGreatDoor
