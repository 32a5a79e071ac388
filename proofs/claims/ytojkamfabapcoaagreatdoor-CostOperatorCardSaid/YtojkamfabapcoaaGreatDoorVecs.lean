import Derived.Test.YtojkamfabapcoaaGreatDoorKCodes
import Derived.Test.YtojkamfabapcoaaGreatDoorKPrec
import Derived.Test.YtojkamfabapcoaaGreatDoorKLin
set_option linter.unusedSimpArgs false
set_option linter.unusedVariables false
namespace Go.Proofs.YtojkamfabapcoaaGreatDoor
open Go.RowKit

/-- A row made by a call can be read. -/
theorem RowV.vec {w : World} {base : Nat} {v : Value} {zs : List Int} (h : RowV w base v zs) : ∃ p cap, v = .slice p zs.length cap ∧ VecAt w p zs := by
  obtain ⟨p, cap, b, rfl, _, h1, h2⟩ := h.form
  exact ⟨p, cap, rfl, b, 0, fun h0 => (h1 h0).1, fun j hj => (h2 j hj).1⟩
def halvesL (zs : List Int) : List Int := zs.map (fun x => x.tdiv 2)

end Go.Proofs.YtojkamfabapcoaaGreatDoor
