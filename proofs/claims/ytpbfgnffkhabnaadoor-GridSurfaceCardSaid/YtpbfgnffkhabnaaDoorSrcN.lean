import Derived.Test.YtpbfgnffkhabnaaDoorSrc
import Derived.Test.YtpbfgnffkhabnaaDoorKMod
set_option linter.unusedSimpArgs false
set_option linter.unusedVariables false
namespace Go.Proofs.YtpbfgnffkhabnaaDoor
open Go.RowKit

/-- A number from 0 to m - 1. -/
theorem srcN_any (w : World) (g b n i : Nat) (m : Int) (h : SrcAt w g b n i) (hm : 1 ≤ m) (hm' : m ≤ 4611686018427387904) :
    Calls Tryd.prog 25 #[.pointer (some ⟨g, 0, none⟩), .int .i64 m] w fun e w' => ∃ x : Int, e = .returned (.int .i64 x) ∧ 0 ≤ x ∧ x < m ∧ w.grownBy w' (some g) ∧ ∃ j, SrcAt w' g b n j := by
  go_enter Tryd.func25, Tryd.ntmps25
  go_wp2_with fail
  refine (raw_any w g b n i h).mono ?_
  rintro e w1 ⟨x, rfl, hx1, hx2, hg, hS⟩
  go_wp2_with fail
  refine (kmod_any x m w1 hx1 hx2 hm hm').mono ?_
  rintro e w2 ⟨rfl, rfl⟩
  have h1 := Int.emod_nonneg x (show m ≠ 0 by omega)
  have h2 := Int.emod_lt_of_pos x (show 0 < m by omega)
  go_wp2
  go_ret
  exact ⟨_, rfl, h1, h2, hg, hS⟩

theorem srcRange_any (w : World) (g b n i : Nat) (lo hi : Int) (h : SrcAt w g b n i) (h1 : -1000000 ≤ lo) (h2 : lo ≤ hi) (h3 : hi ≤ 1000000) :
    Calls Tryd.prog 13 #[.pointer (some ⟨g, 0, none⟩), .int .i64 lo, .int .i64 hi] w fun e w' => ∃ x : Int, e = .returned (.int .i64 x) ∧ lo ≤ x ∧ x ≤ hi ∧ w.grownBy w' (some g) ∧ ∃ j, SrcAt w' g b n j := by
  go_enter Tryd.func13, Tryd.ntmps13
  go_wp2_with fail
  refine (srcN_any w g b n i (hi - lo + 1) h (by omega) (by omega)).mono ?_
  rintro e w1 ⟨x, rfl, hx1, hx2, hg, hS⟩
  go_wp2
  go_ret
  exact ⟨_, rfl, by omega, by omega, hg, hS⟩
end Go.Proofs.YtpbfgnffkhabnaaDoor
