import Derived.Test.YtojkamfabapcoaaGreatDoorKPrec
import Derived.Test.YtojkamfabapcoaaGreatDoorKRegion
import Derived.Test.YtojkamfabapcoaaGreatDoorKLists
import Derived.Test.YtojkamfabapcoaaGreatDoorApply
set_option linter.unusedSimpArgs false
set_option linter.unusedVariables false
namespace Go.Proofs.YtojkamfabapcoaaGreatDoor
open Go.RowKit Go.Grid Go.Maps Go.Sort Go.Shelf

/-! ref22.Check, Small, Vector. -/
set_option maxRecDepth 100000
set_option maxHeartbeats 1000000
theorem rpcheck_any (f s a : Int) (w : World) : Calls Tryz.prog 58 #[prv f s a] w fun e w' => e = .returned (.int .i64 (prErr f s a)) ∧ Below w.heap.size w w' := by
  have hpv : Hid (prv f s a = .agg #[.int .i64 f, .int .i64 s, .int .i64 a]) := Lib.hid rfl
  have yes : PrOk f s a → prErr f s a = 0 := fun h => if_pos h
  have no : ¬ PrOk f s a → prErr f s a = 1 := fun h => if_neg h
  rw [hpv.out]
  have hw : (f < 1) ∨ (1 ≤ f ∧ 8 < f) ∨ ((1 ≤ f ∧ f ≤ 8) ∧ s < 0) ∨ ((1 ≤ f ∧ f ≤ 8) ∧ 0 ≤ s ∧ 1000000 < s) ∨ ((1 ≤ f ∧ f ≤ 8) ∧ (0 ≤ s ∧ s ≤ 1000000) ∧ a < 1) ∨ ((1 ≤ f ∧ f ≤ 8) ∧ (0 ≤ s ∧ s ≤ 1000000) ∧ 1 ≤ a ∧ 1000000 < a) ∨ ((1 ≤ f ∧ f ≤ 8) ∧ (0 ≤ s ∧ s ≤ 1000000) ∧ 1 ≤ a ∧ a ≤ 1000000) := by omega
  rcases hw with h | ⟨h1, h2⟩ | ⟨⟨h1, h2⟩, h3⟩ | ⟨⟨h1, h2⟩, h3, h4⟩ | ⟨⟨h1, h2⟩, ⟨h3, h4⟩, h5⟩ | ⟨⟨h1, h2⟩, ⟨h3, h4⟩, h5, h6⟩ | ⟨⟨h1, h2⟩, ⟨h3, h4⟩, h5, h6⟩
  all_goals
    have HE : Hid ((PrOk f s a ∧ prErr f s a = 0) ∨ (¬ PrOk f s a ∧ prErr f s a = 1)) := Lib.hid (by
      by_cases h : PrOk f s a
      · exact .inl ⟨h, yes h⟩
      · exact .inr ⟨h, no h⟩)
    clear yes no
    go_enter Tryz.func58, Tryz.ntmps58
    go_wp2
    go_ret
    refine ⟨?_, (by repeat (first | (with_reducible assumption) | (with_reducible exact Below.refl _ _) | (with_reducible refine Below.setCell ?_ (by first | omega | (simp; done) | (simp; omega)) _) | (with_reducible refine Below.alloc ?_ (by first | omega | (simp; done) | (simp; omega)) _) | (with_reducible apply Below.drew) | assumption))⟩
    obtain ⟨h9, e⟩ | ⟨h9, e⟩ := HE.out <;> rw [e] <;> unfold PrOk at h9 <;> first | rfl | (exfalso; omega)
/-- ref22.Nodes of a frequency that exists. -/
theorem rnn_any (f : Int) (h1 : 1 ≤ f) (h8 : f ≤ 8) (w : World) : Calls Tryz.prog 50 #[.int .i64 f] w fun e w' => e = .returned (.int .i64 (10 * f * f + 2)) ∧ w = w' := by
  have h0 : 0 ≤ 10 * f * f := Int.mul_nonneg (by omega) (by omega)
  have h2 : 10 * f * f ≤ 640 := by
    have := Int.mul_le_mul (show 10 * f ≤ 80 by omega) h8 (by omega) (by omega)
    omega
  go_enter Tryz.func50, Tryz.ntmps50
  go_wp2
  go_ret
  exact ⟨rfl, rfl⟩
end Go.Proofs.YtojkamfabapcoaaGreatDoor

set_option linter.unusedSimpArgs false
set_option linter.unusedVariables false
namespace Go.Proofs.YtojkamfabapcoaaGreatDoor
open Go.RowKit Go.Grid Go.Maps Go.Sort Go.Shelf

/-! ref22.Over and Apply. -/
end Go.Proofs.YtojkamfabapcoaaGreatDoor
