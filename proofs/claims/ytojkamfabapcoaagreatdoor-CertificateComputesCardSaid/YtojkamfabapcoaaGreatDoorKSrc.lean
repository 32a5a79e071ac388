import Derived.Test.YtojkamfabapcoaaGreatDoorProg
import Derived.Test.YtojkamfabapcoaaGreatDoorKRegion
import Derived.WalkKit
import Derived.WalkLawsBesides
import Derived.WalkSpells
import Derived.Lib.Hide
import Derived.Maps.AppendAt
import Derived.Test.YtojkamfabapcoaaGreatDoorKPlace
set_option maxRecDepth 100000
set_option maxHeartbeats 8000000
set_option linter.unusedSimpArgs false
set_option linter.unusedVariables false
namespace Go.Proofs.YtojkamfabapcoaaGreatDoor
open Go.RowKit
structure SrcAt (w:World) (g b n i:Nat):Prop where
 hp:∃ p cap o,w.cell? ⟨g,0,none⟩=some (.slice p n cap)∧(0 < n→p=some ⟨b,o,none⟩)∧∀ k,k < n→∃ x:Int,w.cell? ⟨b,o+k,none⟩=some (.int .i64 x)∧-9223372036854775808≤x∧x≤9223372036854775807
 hi:w.cell? ⟨g,1,none⟩=some (.int .i64 i)
 hf:w.frozen? ⟨g,1,none⟩=false
 hle:i≤n
 hlen:n≤2000
 hgb:g≠b
theorem SrcAt.kept {w w':World} {g b n i:Nat} (h:SrcAt w g b n i) (hg:w'.heap[g]?=w.heap[g]?) (hb:0 < n→w'.heap[b]?=w.heap[b]?):SrcAt w' g b n i where
 hp:=by
  obtain⟨p,cap,o,h1,h2,h3⟩:=h.hp
  exact⟨p,cap,o,(World.cell?_of_block hg).trans h1,h2,fun k hk=>by
   obtain⟨x,hx,h4⟩:=h3 k hk
   exact⟨x,(World.cell?_of_block (hb (by omega))).trans hx,h4⟩⟩
 hi:=(World.cell?_of_block hg).trans h.hi
 hf:=(zFb hg).trans h.hf
 hle:=h.hle
 hlen:=h.hlen
 hgb:=h.hgb
theorem SrcAt.lt {w:World} {g b n i:Nat} (h:SrcAt w g b n i):g < w.heap.size:=zM w _ h.hi
theorem SrcAt.ltb {w:World} {g b n i:Nat} (h:SrcAt w g b n i) (h0:0 < n):b < w.heap.size:=by
 obtain⟨p,cap,o,_,_,h3⟩:=h.hp
 obtain⟨x,hx,_⟩:=h3 0 h0
 exact zM w _ hx
theorem SrcAt.below {w w':World} {g b n i:Nat} (h:SrcAt w g b n i) (hb:Below w.heap.size w w'):SrcAt w' g b n i:=
 h.kept (hb.block _ h.lt) (fun h0=>hb.block _ (h.ltb h0))
theorem SrcAt.grown' {w w':World} {g b n i k:Nat} (h:SrcAt w g b n i) (hb:w.grownBy w' (some k)) (h1:g≠k) (h2:0 < n→b≠k):SrcAt w' g b n i:=
 h.kept (hb.block _ h.lt (by simpa using h1)) (fun h0=>hb.block _ (h.ltb h0) (by simpa using h2 h0))
theorem SrcAt.set {w:World} {g b n i:Nat} (h:SrcAt w g b n i) (j:Nat) (hj:j≤n):SrcAt (w.setCell ⟨g,1,none⟩ (.int .i64 j)) g b n j where
 hp:=by
  obtain⟨p,cap,o,h1,h2,h3⟩:=h.hp
  exact⟨p,cap,o,(zK _ _ _ _ (by simp)).trans h1,h2,fun k hk=>by
   obtain⟨x,hx,h4⟩:=h3 k hk
   exact⟨x,(zK _ _ _ _ (by have:=h.hgb;simp[Ne.symm this])).trans hx,h4⟩⟩
 hi:=zL _ _ _ (by rw[h.hi];rfl)
 hf:=by rw[World.frozen?_setCell];exact h.hf
 hle:=hj
 hlen:=h.hlen
 hgb:=h.hgb
open Go.RowKit Go.Grid
structure PlAt (w:World) (g:Nat) (f a b c:Int):Prop where
 c0:w.cell? ⟨g,0,none⟩=some (.int .i64 f)
 c1:w.cell? ⟨g,1,none⟩=some (.int .i64 a)
 c2:w.cell? ⟨g,2,none⟩=some (.int .i64 b)
 c3:w.cell? ⟨g,3,none⟩=some (.int .i64 c)
 z0:w.frozen? ⟨g,0,none⟩=false
 z1:w.frozen? ⟨g,1,none⟩=false
 z2:w.frozen? ⟨g,2,none⟩=false
 z3:w.frozen? ⟨g,3,none⟩=false
theorem PlAt.block {w w':World} {g:Nat} {f a b c:Int} (h:PlAt w g f a b c) (hb:w'.heap[g]?=w.heap[g]?):PlAt w' g f a b c:=
 ⟨(World.cell?_of_block hb).trans h.c0,(World.cell?_of_block hb).trans h.c1,(World.cell?_of_block hb).trans h.c2,(World.cell?_of_block hb).trans h.c3,(zFb hb).trans h.z0,(zFb hb).trans h.z1,(zFb hb).trans h.z2,(zFb hb).trans h.z3⟩
theorem PlAt.lt {w:World} {g:Nat} {f a b c:Int} (h:PlAt w g f a b c):g < w.heap.size:=zM _ _ h.c0
theorem PlAt.below {w w':World} {g:Nat} {f a b c:Int} (h:PlAt w g f a b c) (hb:Below w.heap.size w w'):PlAt w' g f a b c:=h.block (hb.block _ h.lt)
theorem PlAt.grown {w w':World} {g k:Nat} {f a b c:Int} (h:PlAt w g f a b c) (hb:w.grownBy w' (some k)) (hne:g≠k):PlAt w' g f a b c:=h.block (hb.block _ h.lt (by simpa using hne))
theorem PlAt.set {w:World} {g k i:Nat} {v:Value} {f a b c:Int} (h:PlAt w g f a b c) (hne:g≠k):PlAt (w.setCell ⟨k,i,none⟩ v) g f a b c:=h.block (Below.heap_setCell _ _ _ g hne)
theorem PlAt.new (w:World) (f a b c:Int):PlAt (w.alloc (.cells #[.int .i64 f,.int .i64 a,.int .i64 b,.int .i64 c] 122)) w.heap.size f a b c:=
 ⟨(by simp[zO,zJ,zQ]),(by simp[zO,zJ,zQ]),(by simp[zO,zJ,zQ]),(by simp[zO,zJ,zQ]),by simp[RX.frozen_alloc],by simp[RX.frozen_alloc],by simp[RX.frozen_alloc],by simp[RX.frozen_alloc]⟩
theorem PlAt.set1 {w:World} {g:Nat} {f a b c:Int} (h:PlAt w g f a b c) (x:Int):PlAt (w.setCell ⟨g,1,none⟩ (.int .i64 x)) g f x b c:=
 ⟨(zK _ _ _ _ (by simp)).trans h.c0,zL _ _ _ (by rw[h.c1];rfl),(zK _ _ _ _ (by simp)).trans h.c2,(zK _ _ _ _ (by simp)).trans h.c3,
  by rw[World.frozen?_setCell];exact h.z0,by rw[World.frozen?_setCell];exact h.z1,by rw[World.frozen?_setCell];exact h.z2,by rw[World.frozen?_setCell];exact h.z3⟩
theorem PlAt.set2 {w:World} {g:Nat} {f a b c:Int} (h:PlAt w g f a b c) (x:Int):PlAt (w.setCell ⟨g,2,none⟩ (.int .i64 x)) g f a x c:=
 ⟨(zK _ _ _ _ (by simp)).trans h.c0,(zK _ _ _ _ (by simp)).trans h.c1,zL _ _ _ (by rw[h.c2];rfl),(zK _ _ _ _ (by simp)).trans h.c3,
  by rw[World.frozen?_setCell];exact h.z0,by rw[World.frozen?_setCell];exact h.z1,by rw[World.frozen?_setCell];exact h.z2,by rw[World.frozen?_setCell];exact h.z3⟩
theorem PlAt.set3 {w:World} {g:Nat} {f a b c:Int} (h:PlAt w g f a b c) (x:Int):PlAt (w.setCell ⟨g,3,none⟩ (.int .i64 x)) g f a b x:=
 ⟨(zK _ _ _ _ (by simp)).trans h.c0,(zK _ _ _ _ (by simp)).trans h.c1,(zK _ _ _ _ (by simp)).trans h.c2,zL _ _ _ (by rw[h.c3];rfl),
  by rw[World.frozen?_setCell];exact h.z0,by rw[World.frozen?_setCell];exact h.z1,by rw[World.frozen?_setCell];exact h.z2,by rw[World.frozen?_setCell];exact h.z3⟩
theorem SrcAt.other {w:World} {g b n i k j:Nat} {v:Value} (h:SrcAt w g b n i) (h1:g≠k) (h2:0 < n→b≠k):SrcAt (w.setCell ⟨k,j,none⟩ v) g b n i:=
 h.kept (Below.heap_setCell _ _ _ g h1) (fun h0=>Below.heap_setCell _ _ _ b (h2 h0))
end Go.Proofs.YtojkamfabapcoaaGreatDoor
