import Derived.Test.YtpbfgnffkhabnaaDoorFast
set_option linter.unusedSimpArgs false
set_option linter.unusedVariables false
namespace Go.Proofs.YtpbfgnffkhabnaaDoor
open Go.RowKit Go.Grid Go.Maps Go.Sort Go.Shelf

set_option maxRecDepth 100000 in
set_option maxHeartbeats 1000000 in
theorem awake22_any (w : World) (hT : HasTab w) : Calls Tryd.prog 29 #[] w fun e w' => e = .returned (.bool true) ∧ Below w.heap.size w w' := by
  have hmk : ∀ w, (Instr.makeSlice 24 (.int .i64 12) (.int .i64 12)).run Tryd.prog w = .ok (.slice (some ⟨w.heap.size, 0, none⟩) 12 12) (w.alloc (.cells #[.int .i64 0, .int .i64 0, .int .i64 0, .int .i64 0, .int .i64 0, .int .i64 0, .int .i64 0, .int .i64 0, .int .i64 0, .int .i64 0, .int .i64 0, .int .i64 0] 3)) := fun _ => by kernel_rfl
  go_enter Tryd.func29, Tryd.ntmps29
  go_wp2_with fail
  obtain ⟨X, hX⟩ : ∃ X : List Int, X = [1, 0, 0, 0, 0, 0, 0, 0, 0, 0, 0, 0] := ⟨_, rfl⟩
  have hl : X.length = 12 := by rw [hX]; rfl
  have HP := Lib.hid awake_plain
  refine (apply_ok 1 2 3 (some ⟨w.heap.size, 0, none⟩) [1, 0, 0, 0, 0, 0, 0, 0, 0, 0, 0, 0] 12 _ ?_ ?_ ?_).mono ?_
  · exact hT.below (by repeat (first | assumption | (with_reducible exact Below.refl _ _) | (with_reducible refine Below.setCell ?_ (by first | omega | (simp; done) | (simp; omega)) _) | (with_reducible refine Below.alloc ?_ (by first | omega | (simp; done) | (simp; omega)) _) | (with_reducible apply Below.drew)))
  · refine ⟨w.heap.size, 0, fun _ => rfl, fun j hj => ?_⟩
    have : j = 0 ∨ j = 1 ∨ j = 2 ∨ j = 3 ∨ j = 4 ∨ j = 5 ∨ j = 6 ∨ j = 7 ∨ j = 8 ∨ j = 9 ∨ j = 10 ∨ j = 11 := by simp at hj; omega
    rcases this with rfl | rfl | rfl | rfl | rfl | rfl | rfl | rfl | rfl | rfl | rfl | rfl <;> simp [RX.cell_alloc]
  · decide
  rintro e w1 ⟨N, rfl, hI, hN, hb1⟩
  have hlen : (applyL 2 3 [1, 0, 0, 0, 0, 0, 0, 0, 0, 0, 0, 0] (edgesL 1)).length = 12 := applyTo_len _ _ _ _ _ (Nat.le_refl _)
  have y0 : w1.cell? ⟨N, 0, none⟩ = some (.int .i64 13) := by
    have h := (hI 0 (by rw [hlen]; omega)).1
    have h2 := HP.out.1
    rw [List.getElem?_eq_getElem (by rw [hlen]; omega)] at h2
    injection h2 with h2
    rw [h2] at h
    exact h
  have y11 : w1.cell? ⟨N, 11, none⟩ = some (.int .i64 0) := by
    have h := (hI 11 (by rw [hlen]; omega)).1
    have h2 := HP.out.2
    rw [List.getElem?_eq_getElem (by rw [hlen]; omega)] at h2
    injection h2 with h2
    rw [h2] at h
    exact h
  have hB : Below w.heap.size w w1 := Below.trans (by repeat (first | assumption | (with_reducible exact Below.refl _ _) | (with_reducible refine Below.setCell ?_ (by first | omega | (simp; done) | (simp; omega)) _) | (with_reducible refine Below.alloc ?_ (by first | omega | (simp; done) | (simp; omega)) _) | (with_reducible apply Below.drew))) (hb1.mono (by simp))
  clear hb1 hI HP hlen hl hX
  simp only [List.length_cons, List.length_nil]
  go_wp2
  go_ret
  exact ⟨rfl, hB⟩
end Go.Proofs.YtpbfgnffkhabnaaDoor
