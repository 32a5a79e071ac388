import Derived.Test.YtojkamfabapcoaaGreatDoorKInts
import Derived.Test.YtojkamfabapcoaaGreatDoorKCodes
import Derived.Test.YtojkamfabapcoaaGreatDoorKLin
import Derived.Test.YtojkamfabapcoaaGreatDoorKDot
import Derived.Test.YtojkamfabapcoaaGreatDoorApply
set_option linter.unusedSimpArgs false
set_option linter.unusedVariables false
namespace Go.Proofs.YtojkamfabapcoaaGreatDoor
open Go.RowKit Go.Grid Go.Maps Go.Sort Go.Shelf

theorem edges_InR {f : Nat} (h1 : 1 ≤ f) (h2 : f ≤ 8) {x : List Int} (hx : (x.length : Int) = 10 * f * f + 2) : InR x.length (edgesL f) := by
  have hM : ((nodesL f).length : Int) = (x.length : Int) := by rw [nodes_len h1 h2, hx]; simp
  intro e he
  obtain ⟨g1, g2, g3, g4⟩ := edges_in h1 h2 e he
  rw [hM] at g2 g4
  omega
theorem mem_addL : ∀ {x y : List Int} {z : Int}, z ∈ addL x y → ∃ a b, a ∈ x ∧ b ∈ y ∧ z = a + b
  | [], _, _, h => by simp [addL] at h
  | _ :: _, [], _, h => by simp [addL] at h
  | a :: x, b :: y, z, h => by
    simp only [addL, List.zipWith_cons_cons, List.mem_cons] at h
    rcases h with rfl | h
    · exact ⟨a, b, by simp, by simp, rfl⟩
    · obtain ⟨c, d, h1, h2, h3⟩ := mem_addL (x := x) (y := y) h
      exact ⟨c, d, List.mem_cons_of_mem _ h1, List.mem_cons_of_mem _ h2, h3⟩
theorem addL_within {m : Nat} {x y : List Int} (hx : Within m x) (hy : Within m y) : Within (m + m) (addL x y) := by
  intro z hz
  obtain ⟨a, b, ha, hb, rfl⟩ := mem_addL hz
  have := hx a ha
  have := hy b hb
  omega
theorem small_within {zs : List Int} (h : Within 1048576 zs) : Small zs := fun x hx => by have := h x hx; omega
theorem vec_of_ints {w : World} {b : Nat} {zs : List Int} (h : IntsAt w b 0 zs) : VecAt w (some ⟨b, 0, none⟩) zs := ⟨b, 0, fun _ => rfl, fun j hj => (h j hj).1⟩
/-! The contracts with the lengths as letters. -/
theorem dot_at (p q : Option Addr) (zs ys : List Int) (cz cy n : Nat) (w : World) (h1 : zs.length = n) (h2 : ys.length = n) (hV : VecAt w p zs) (hU : VecAt w q ys) (hl : n ≤ 1000) (bz : I64L zs) (bY : I64L ys) :
    Calls Tryz.prog 93 #[.slice p n cz, .slice q n cy] w fun e w' => e = .returned (.tuple #[wv (dotL zs ys), .int .i64 0]) ∧ Below w.heap.size w w' := by
  subst h1; exact dot_ok p q zs ys cz cy w hV hU h2.symm (by omega) bz bY
end Go.Proofs.YtojkamfabapcoaaGreatDoor
