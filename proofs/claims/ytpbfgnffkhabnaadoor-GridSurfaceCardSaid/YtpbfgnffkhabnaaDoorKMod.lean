import Derived.Test.YtpbfgnffkhabnaaDoorProg
import Derived.Test.YtpbfgnffkhabnaaDoorKRegion
import Derived.WalkKit
import Derived.WalkLawsBesides
import Derived.WalkSpells
import Derived.Lib.Hide
set_option linter.unusedSimpArgs false
set_option linter.unusedVariables false
namespace Go.Proofs.YtpbfgnffkhabnaaDoor
open Go.RowKit

/-- synopticfield.Mod at a positive number: the remainder that is not negative. -/
theorem kmod_any (x n : Int) (w : World) (hx : -9223372036854775808 ≤ x) (hx' : x ≤ 9223372036854775807) (h1 : 1 ≤ n) (h2 : n ≤ 4611686018427387904) :
    Calls Tryd.prog 26 #[.int .i64 x, .int .i64 n] w fun e w' => e = .returned (.int .i64 (x % n)) ∧ w = w' := by
  have hn0 : (n == 0) = false := by rw [beq_eq_false_iff_ne]; omega
  by_cases h0 : 0 ≤ x
  · have e1 : x.tmod n = x % n := Int.tmod_eq_emod_of_nonneg h0
    have e2 := Int.emod_nonneg x (show n ≠ 0 by omega)
    have e3 := Int.emod_lt_of_pos x (show 0 < n by omega)
    go_enter Tryd.func26, Tryd.ntmps26
    go_wp2
    go_ret
    exact ⟨rfl, rfl⟩
  · obtain ⟨t, ht⟩ : ∃ t, t = x.tmod n := ⟨_, rfl⟩
    have a2 : x.tmod n = -((-x) % n) := by
      rw [show x = -(-x) by omega, Int.neg_tmod, Int.neg_neg, Int.tmod_eq_emod_of_nonneg (by omega)]
    have hr : x % n = if t < 0 then t + n else t := by
      rw [ht]
      rw [a2]
      have a3 := Int.emod_nonneg (-x) (show n ≠ 0 by omega)
      have a4 := Int.emod_lt_of_pos (-x) (show 0 < n by omega)
      have a5 := Int.emod_nonneg x (show n ≠ 0 by omega)
      have a6 := Int.emod_lt_of_pos x (show 0 < n by omega)
      have a7 := Int.mul_ediv_add_emod (-x) n
      have a8 := Int.mul_ediv_add_emod x n
      have a9 : n * ((-x) / n + x / n) = - ((-x) % n) - x % n := by rw [Int.mul_add]; omega
      generalize (-x) / n + x / n = z at a9
      generalize (-x) % n = u at *
      generalize x % n = v at *
      split
      · have : z = -1 := by
          have b1 : n * z < 0 := by omega
          have b2 : n * (-2) < n * z := by omega
          have b3 : z < 0 := by
            by_cases h : z < 0
            · exact h
            · have := Int.mul_nonneg (show 0 ≤ n by omega) (show 0 ≤ z by omega); omega
          have b4 : -2 < z := Int.lt_of_mul_lt_mul_left b2 (by omega)
          omega
        subst this; omega
      · have u0 : u = 0 := by omega
        subst u0
        have : z = 0 := by
          have b2 : n * (-1) < n * z := by omega
          have b4 : -1 < z := Int.lt_of_mul_lt_mul_left b2 (by omega)
          have b5 : n * z < n * 1 := by omega
          have b6 : z < 1 := Int.lt_of_mul_lt_mul_left b5 (by omega)
          omega
        subst this; omega
    have hlt : -n < t := by
      have := Int.emod_lt_of_pos (-x) (show 0 < n by omega); omega
    have hle : t ≤ 0 := by
      have := Int.emod_nonneg (-x) (show n ≠ 0 by omega); omega
    clear a2
    have HR := Lib.hid hr
    have ht' : x.tmod n = t := ht.symm
    clear hr ht
    by_cases hneg : t < 0
    · go_enter Tryd.func26, Tryd.ntmps26
      go_wp2
      go_ret
      rw [HR.out, if_pos hneg]
      exact ⟨rfl, rfl⟩
    · go_enter Tryd.func26, Tryd.ntmps26
      go_wp2
      go_ret
      rw [HR.out, if_neg (by omega)]
      exact ⟨rfl, rfl⟩
end Go.Proofs.YtpbfgnffkhabnaaDoor
