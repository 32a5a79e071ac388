import Derived.Test.YtblgchhmcifdgaaGreatDoorKSum
import Derived.Test.YtblgchhmcifdgaaGreatDoorKOpenV
import Derived.Test.YtblgchhmcifdgaaGreatDoorKDot
import Derived.ProofKit
import Derived.OpenShut
import Derived.Lib.SmallJoins
import Derived.Deep.Slices
set_option linter.unusedSimpArgs false
set_option linter.unusedVariables false
set_option maxRecDepth 100000
namespace Go.Proofs.YtblgchhmcifdgaaGreatDoor
open Go.ChangeShapes Go.WideShapes Go.ChangeAt Go.RowKit Go.Joins Go.Deep

theorem cellsWide : Tryz.prog.cellsOf 49 = 2 := by kernel_rfl
/-- An integer of 128 bits that came in. -/
theorem open_wide {H : Type} {enc : TypeId × Value → H} {W : World} {r : Reach} {base : Nat} {v : Value} {d : DataW H} {p : List MemPlace} (hval : Value.okWide Tryz.prog W r base 49 v) (h : DataW.Trod enc Tryz.prog W 0 (fun _ => true) true 49 v d p) :
    ∃ q : Int, v = wv q := by
  obtain ⟨c0, c1, y0, y1, m, rfl, rfl, rfl, hy0, hy1⟩ := open_agg2 Tryz.underlying49 (by kernel_rfl) cellsWide hval h
  obtain ⟨a, e0, rfl, wa⟩ := DataW.trod_int Tryz.underlying3 hy0
  obtain ⟨b, e1, rfl, wb⟩ := DataW.trod_int Tryz.underlying47 hy1
  simp at e0 e1
  subst e0 e1
  have ba := bounds_i64 wa
  have bb := bounds_u64 wb
  exact ⟨_, wv_of a b (by omega) (by omega) (by omega) (by omega)⟩

end Go.Proofs.YtblgchhmcifdgaaGreatDoor
