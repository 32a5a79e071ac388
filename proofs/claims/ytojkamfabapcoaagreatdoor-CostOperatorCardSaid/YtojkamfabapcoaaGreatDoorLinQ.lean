import Derived.Test.YtojkamfabapcoaaGreatDoorKInts
import Derived.Test.YtojkamfabapcoaaGreatDoorKCodes
import Derived.Test.YtojkamfabapcoaaGreatDoorKLin
import Derived.Test.YtojkamfabapcoaaGreatDoorKDot
import Derived.Test.YtojkamfabapcoaaGreatDoorApply
set_option linter.unusedSimpArgs false
set_option linter.unusedVariables false
namespace Go.Proofs.YtojkamfabapcoaaGreatDoor
open Go.RowKit Go.Grid Go.Maps Go.Sort Go.Shelf

theorem small_within {zs : List Int} (h : Within 1048576 zs) : Small zs := fun x hx => by have := h x hx; omega
theorem vec_of_ints {w : World} {b : Nat} {zs : List Int} (h : IntsAt w b 0 zs) : VecAt w (some ⟨b, 0, none⟩) zs := ⟨b, 0, fun _ => rfl, fun j hj => (h j hj).1⟩
/-! The contracts with the lengths as letters. -/
theorem apply_at (f : Nat) (s a : Int) (p : Option Addr) (zs : List Int) (cap n : Nat) (w : World) (hn : zs.length = n) (hT : HasTab w) (hV : VecAt w p zs) (hok : VecOk f s a zs) :
    Calls Tryz.prog 20 #[prv f s a, .slice p n cap] w fun e w' => ∃ N, e = .returned (.tuple #[.slice (some ⟨N, 0, none⟩) n n, .int .i64 0]) ∧ VecAt w' (some ⟨N, 0, none⟩) (applyL s a zs (edgesL f)) ∧ Below w.heap.size w w' := by
  subst hn
  refine (apply_ok f s a p zs cap w hT hV hok).mono ?_
  rintro e w' ⟨N, he, hI, _, hb⟩
  exact ⟨N, he, vec_of_ints hI, hb⟩
end Go.Proofs.YtojkamfabapcoaaGreatDoor
