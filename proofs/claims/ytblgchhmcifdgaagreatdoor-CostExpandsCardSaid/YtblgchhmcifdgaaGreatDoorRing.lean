import Derived.Test.YtblgchhmcifdgaaGreatDoorKSum
import Derived.Test.YtblgchhmcifdgaaGreatDoorKAwake
set_option linter.unusedSimpArgs false
set_option linter.unusedVariables false
namespace Go.Proofs.YtblgchhmcifdgaaGreatDoor
open Go.RowKit

theorem mul_self_nn (x : Int) : 0 ≤ x * x := by
  rcases Int.le_total 0 x with h | h
  · exact Int.mul_nonneg h h
  · have := Int.mul_nonneg (show 0 ≤ -x by omega) (show 0 ≤ -x by omega)
    rwa [Int.neg_mul_neg] at this
theorem product_wv (a b : Int) (w : World) (ha : -9223372036854775808 ≤ a) (ha' : a ≤ 9223372036854775807) (hb : -9223372036854775808 ≤ b) (hb' : b ≤ 9223372036854775807) :
    Calls Tryz.prog 54 #[.int .i64 a, .int .i64 b] w fun e w' => e = .returned (wv (a * b)) ∧ Below w.heap.size w w' := by
  refine (product_any a b w ha ha' hb hb').mono ?_
  rintro e w' ⟨rfl, h⟩
  refine ⟨?_, h⟩
  obtain ⟨b1, b2⟩ := mul_bound a b ha ha' hb hb'
  have g1 : wrap64 (a * b / 18446744073709551616) = a * b / 18446744073709551616 := by unfold wrap64; omega
  unfold wv; rw [g1]
theorem compare_wv (p q : Int) (w : World) (hp : -170141183460469231731687303715884105728 ≤ p) (hp' : p < 170141183460469231731687303715884105728) (hq : -170141183460469231731687303715884105728 ≤ q) (hq' : q < 170141183460469231731687303715884105728) :
    Calls Tryz.prog 36 #[wv p, wv q] w fun e w' => e = .returned (.int .i64 (sgn p q)) ∧ Below w.heap.size w w' := by
  refine (compare_any _ _ _ _ w).mono ?_
  rintro e w' ⟨rfl, h⟩
  refine ⟨?_, h⟩
  have g1 : wrap64 (p / 18446744073709551616) = p / 18446744073709551616 := by unfold wrap64; omega
  have g2 : wrap64 (q / 18446744073709551616) = q / 18446744073709551616 := by unfold wrap64; omega
  rw [g1, g2, cmpW_num _ _ _ _ (by omega) (by omega) (by omega) (by omega),
    show p / 18446744073709551616 * 18446744073709551616 + p % 18446744073709551616 = p by omega, show q / 18446744073709551616 * 18446744073709551616 + q % 18446744073709551616 = q by omega]

theorem compare_at (p : Int) (v : Value) (q : Int) (hv : wv q = v) (w : World) (hp : -85070591730234615865843651857942052864 ≤ p) (hp' : p ≤ 85070591730234615865843651857942052864) :
    q = 0 → Calls Tryz.prog 36 #[wv p, v] w fun e w' => e = .returned (.int .i64 (sgn p 0)) ∧ Below w.heap.size w w' := by
  intro h; subst hv h; exact compare_wv p 0 w (by omega) (by omega) (by omega) (by omega)

end Go.Proofs.YtblgchhmcifdgaaGreatDoor
