import Derived.Test.YtpbfgnffkhabnaaDoorEdges
import Derived.Test.YtpbfgnffkhabnaaDoorCount
set_option linter.unusedSimpArgs false
set_option linter.unusedVariables false
namespace Go.Proofs.YtpbfgnffkhabnaaDoor
open Go.RowKit Go.Grid Go.Maps Go.Sort Go.Shelf

theorem edges_len {n : Nat} (h2 : n ≤ 8) : (edgesL n).length ≤ 15000 := by
  have h := comp_len (sort2 (edRaw n)) (sort2 (edRaw n)).length
  have h3 : (cellsRaw n).length ≤ 5000 := by
    have := len_csofar (n := n) (f := 20) (a := 0) (b := 0) h2 (by omega) (by omega) (by omega)
    rwa [csofar_end] at this
  have h4 : (sort2 (edRaw n)).length = (cellsRaw n).length * 3 := by
    unfold sort2
    rw [List.length_mergeSort]
    unfold edRaw
    rw [edTo_len _ _ (Nat.le_refl _)]
    unfold cellsS sort3
    rw [List.length_mergeSort]
    simp [cells3]
  unfold edgesL
  omega

end Go.Proofs.YtpbfgnffkhabnaaDoor
