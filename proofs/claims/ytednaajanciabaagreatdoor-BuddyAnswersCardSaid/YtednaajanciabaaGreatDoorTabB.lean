import Derived.Test.YtednaajanciabaaGreatDoorCards
import Derived.Test.YtednaajanciabaaGreatDoorTie
import Derived.Test.YtednaajanciabaaGreatDoorKPlace
import Derived.Test.YtednaajanciabaaGreatDoorKBVal
import Derived.Lib.LaidTab
set_option maxRecDepth 100000
set_option maxHeartbeats 8000000
set_option linter.unusedSimpArgs false
set_option linter.unusedVariables false
namespace Go.Proofs.YtednaajanciabaaGreatDoor
open Go.RowKit Go.Grid
theorem tab_rows (f:Nat) (hf:f < 20):(match (Rows.laid_synoptic_place_corners:DataW Unit) with|.agg l=>l[f]?|_=>none)=some (Lib.tabData .i64 [(tab f).1,(tab f).2.1,(tab f).2.2]):=by
 have:f=0∨f=1∨f=2∨f=3∨f=4∨f=5∨f=6∨f=7∨f=8∨f=9∨f=10∨f=11∨f=12∨f=13∨f=14∨f=15∨f=16∨f=17∨f=18∨f=19:=by omega
 rcases this with rfl|rfl|rfl|rfl|rfl|rfl|rfl|rfl|rfl|rfl|rfl|rfl|rfl|rfl|rfl|rfl|rfl|rfl|rfl|rfl<;>rfl
theorem cells_3:Tryz.prog.cellsOf 132=3:=by kernel_rfl
theorem cells_int:Tryz.prog.cellsOf 3=1:=by kernel_rfl
theorem bnd_rows (f:Nat) (hf:f < 11):(match (Rows.laid_synoptic_element_bounds:DataW Unit) with|.agg l=>l[f]?|_=>none)=some (Lib.tabData .i64 [(bnd ((f:Int)+1)).1,(bnd ((f:Int)+1)).2]):=by
 have:f=0∨f=1∨f=2∨f=3∨f=4∨f=5∨f=6∨f=7∨f=8∨f=9∨f=10:=by omega
 rcases this with rfl|rfl|rfl|rfl|rfl|rfl|rfl|rfl|rfl|rfl|rfl<;>rfl
theorem cells_2:Tryz.prog.cellsOf 102=2:=by kernel_rfl
abbrev laid2 {H : Type} : List (String × DataW H) := [("synoptic/place.corners", Rows.laid_synoptic_place_corners), ("synoptic/element.bounds", Rows.laid_synoptic_element_bounds)]
theorem has_tab {W:World} (h:laidMetH Tryz.prog laid2 W):HasTab W:=by
 have h':laidMet Tryz.prog laid2 W:=h
 obtain⟨ps,⟨g,t,cs,fuel,p,q,hg,ht,hvar,hd,_,_⟩,_⟩:=h'
 obtain rfl := Option.some.inj ((show Tryz.prog.globalNamed "synoptic/place.corners" = some 1 by kernel_rfl).symm.trans hg)
 obtain rfl:=Option.some.inj ((show (Tryz.prog.globals[1]?).map (·.type)=some 207 by kernel_rfl).symm.trans ht)
 cases fuel with
 |zero=>simp[DataW.trod] at hd
 |succ fuel=>
  simp only[DataW.trod,Tryz.underlying207,cells_3] at hd
  split at hd
  ·obtain⟨xs,hm,hx⟩:=Option.map_eq_some_iff.1 hd
   intro f hf
   obtain⟨b,hb,hfr⟩:=Lib.mapM_at hm f f (by simp[hf])
   have hrow:=tab_rows f hf
   have hx1:DataW.agg (xs.map (·.1))=(Rows.laid_synoptic_place_corners:DataW Unit):=congrArg Prod.fst hx
   rw[←hx1] at hrow
   simp only[List.getElem?_map,hb,Option.map_some,Option.some.injEq] at hrow
   obtain⟨b1,b2⟩:=b
   simp only at hrow
   subst hrow
   have hc:=Lib.cells_of_tab Tryz.underlying132 Tryz.underlying3 cells_int cells_3 hfr
   have c0:=World.var?_cell hg hvar (f*3)
   have c1:=World.var?_cell hg hvar (f*3+1)
   have c2:=World.var?_cell hg hvar (f*3+2)
   have e0:=congrArg (·[0]?) hc
   have e1:=congrArg (·[1]?) hc
   have e2:=congrArg (·[2]?) hc
   simp[List.getElem?_take,List.getElem?_drop] at e0 e1 e2
   rw[c0,c1,c2]
   simp[e0,e1,e2]
  ·cases hd
theorem has_bnd {W:World} (h:laidMetH Tryz.prog laid2 W):HasBnd W:=by
 have h':laidMet Tryz.prog laid2 W:=h
 obtain⟨ps,⟨_,_,_,_,_,q0,_,_,_,_,⟨g,t,cs,fuel,p,q,hg,ht,hvar,hd,_,_⟩,_⟩,_⟩:=h'
 obtain rfl := Option.some.inj ((show Tryz.prog.globalNamed "synoptic/element.bounds" = some 0 by kernel_rfl).symm.trans hg)
 obtain rfl:=Option.some.inj ((show (Tryz.prog.globals[0]?).map (·.type)=some 183 by kernel_rfl).symm.trans ht)
 cases fuel with
 |zero=>simp[DataW.trod] at hd
 |succ fuel=>
  simp only[DataW.trod,Tryz.underlying183,cells_2] at hd
  split at hd
  ·obtain⟨xs,hm,hx⟩:=Option.map_eq_some_iff.1 hd
   intro f hf
   obtain⟨b,hb,hfr⟩:=Lib.mapM_at hm f f (by simp[hf])
   have hrow:=bnd_rows f hf
   have hx1:DataW.agg (xs.map (·.1))=(Rows.laid_synoptic_element_bounds:DataW Unit):=congrArg Prod.fst hx
   rw[←hx1] at hrow
   simp only[List.getElem?_map,hb,Option.map_some,Option.some.injEq] at hrow
   obtain⟨b1,b2⟩:=b
   simp only at hrow
   subst hrow
   have hc:=Lib.cells_of_tab Tryz.underlying102 Tryz.underlying3 cells_int cells_2 hfr
   have c0:=World.var?_cell hg hvar (f*2)
   have c1:=World.var?_cell hg hvar (f*2+1)
   have e0:=congrArg (·[0]?) hc
   have e1:=congrArg (·[1]?) hc
   simp[List.getElem?_take,List.getElem?_drop] at e0 e1
   rw[c0,c1]
   simp[e0,e1]
  ·cases hd
end Go.Proofs.YtednaajanciabaaGreatDoor
