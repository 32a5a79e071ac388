import Derived.Test.YtojkamfabapcoaaGreatDoorKRef
import Derived.Test.YtojkamfabapcoaaGreatDoorRing
import Derived.Test.YtojkamfabapcoaaGreatDoorKLin
import Derived.Test.YtojkamfabapcoaaGreatDoorKRegion
set_option linter.unusedSimpArgs false
set_option linter.unusedVariables false
namespace Go.Proofs.YtojkamfabapcoaaGreatDoor
open Go.RowKit

/-- The sum that a closure keeps in block g. -/
structure SumAt (w : World) (g : Nat) (s : Int) : Prop where
  c0 : w.cell? ⟨g, 0, none⟩ = some (.int .i64 (wrap64 (s / 18446744073709551616)))
  c1 : w.cell? ⟨g, 1, none⟩ = some (.int .u64 (s % 18446744073709551616))
  f0 : w.frozen? ⟨g, 0, none⟩ = false
  f1 : w.frozen? ⟨g, 1, none⟩ = false
theorem SumAt.block {w w' : World} {g : Nat} {s : Int} (h : SumAt w g s) (hb : w'.heap[g]? = w.heap[g]?) : SumAt w' g s :=
  ⟨(World.cell?_of_block hb).trans h.c0, (World.cell?_of_block hb).trans h.c1, (World.frozen?_of_block hb).trans h.f0, (World.frozen?_of_block hb).trans h.f1⟩
theorem SumAt.lt {w : World} {g : Nat} {s : Int} (h : SumAt w g s) : g < w.heap.size := World.block_lt_of_cell? _ _ h.c0

theorem SumAt.set {w : World} {g k i : Nat} {s : Int} {v : Value} (h : SumAt w g s) (hne : g ≠ k) : SumAt (w.setCell ⟨k, i, none⟩ v) g s :=
  h.block (Below.heap_setCell _ _ _ g hne)
theorem SumAt.set2 {w : World} {g k i j : Nat} {s : Int} {u v : Value} (h : SumAt w g s) (hne : g ≠ k) : SumAt ((w.setCell ⟨k, i, none⟩ u).setCell ⟨k, j, none⟩ v) g s := (h.set hne).set hne
theorem SumAt.drew {w : World} {g : Nat} {s : Int} (h : SumAt w g s) : SumAt w.drew g s := h.block rfl
theorem SumAt.below {w w' : World} {g : Nat} {s : Int} (h : SumAt w g s) (hb : Below w.heap.size w w') : SumAt w' g s := h.block (hb.block _ h.lt)
theorem SumAt.grown {w w' : World} {g k : Nat} {s : Int} (h : SumAt w g s) (hb : w.grownBy w' (some k)) (hne : g ≠ k) : SumAt w' g s := h.block (hb.block _ h.lt (by simpa using hne))
theorem SumAt.new (w : World) : SumAt (w.alloc (.cells #[.int .i64 0, .int .u64 0] 56)) w.heap.size 0 := by
  have e1 : wrap64 (0 / 18446744073709551616) = 0 := by unfold wrap64; omega
  exact ⟨by rw [e1]; simp [RX.cell_alloc], by simp [RX.cell_alloc], by simp [RX.frozen_alloc], by simp [RX.frozen_alloc]⟩
end Go.Proofs.YtojkamfabapcoaaGreatDoor

set_option linter.unusedSimpArgs false
set_option linter.unusedVariables false
namespace Go.Proofs.YtojkamfabapcoaaGreatDoor
open Go.RowKit

end Go.Proofs.YtojkamfabapcoaaGreatDoor

set_option linter.unusedSimpArgs false
set_option linter.unusedVariables false
namespace Go.Proofs.YtojkamfabapcoaaGreatDoor
open Go.RowKit

end Go.Proofs.YtojkamfabapcoaaGreatDoor
