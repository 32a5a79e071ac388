import Derived.Test.YtojkamfabapcoaaGreatDoorKLin
import Derived.Test.YtojkamfabapcoaaGreatDoorKPrec
import Derived.Test.YtojkamfabapcoaaGreatDoorKLoc
set_option linter.unusedSimpArgs false
set_option linter.unusedVariables false
namespace Go.Proofs.YtojkamfabapcoaaGreatDoor
open Go.RowKit Go.Grid Go.Maps Go.Sort Go.Shelf

/-! ### Lists that ascend strictly -/
/-! ### The cells: corners, ascending -/
/-! ### The edges -/
/-! ### The neighbours -/
def nbs (D : List I2) (i : Nat) : List Int := D.flatMap (fun e => (if i = e.1.toNat then [e.2] else []) ++ (if i = e.2.toNat then [e.1] else []))
/-! ### What the reference makes -/
/-- One more entry at a place of an ascending row. -/
theorem ins_strict {l : List Int} (hl : l.Pairwise (· < ·)) {k : Nat} {x : Int} (h1 : ∀ j (h : j < l.length), j < k → l[j] < x) (h2 : ∀ h : k < l.length, x < l[k]) : (l.take k ++ x :: l.drop k).Pairwise (· < ·) := by
  have key : ∀ y ∈ l.take k, y < x := by
    intro y hy
    obtain ⟨j, hj, rfl⟩ := List.mem_iff_getElem.1 hy
    rw [List.length_take] at hj
    rw [List.getElem_take]
    exact h1 j (by omega) (by omega)
  have key2 : ∀ y ∈ l.drop k, x < y := by
    intro y hy
    obtain ⟨j, hj, rfl⟩ := List.mem_iff_getElem.1 hy
    rw [List.length_drop] at hj
    rw [List.getElem_drop]
    have h3 := h2 (by omega)
    by_cases e : j = 0
    · subst e; simp only [Nat.add_zero]; omega
    · have := List.pairwise_iff_getElem.1 hl k (k + j) (by omega) (by omega) (by omega)
      omega
  rw [List.pairwise_append]
  refine ⟨hl.sublist (List.take_sublist _ _), ?_, ?_⟩
  · rw [List.pairwise_cons]
    exact ⟨key2, hl.sublist (List.drop_sublist _ _)⟩
  · intro y hy z hz
    rcases List.mem_cons.1 hz with rfl | hz
    · exact key y hy
    · have := key y hy; have := key2 z hz; omega
theorem ins_mem {α : Type} {l : List α} {k : Nat} {x y : α} : y ∈ l.take k ++ x :: l.drop k ↔ y ∈ l ∨ y = x := by
  have h : (l.take k ++ x :: l.drop k).Perm (x :: l) := by
    refine List.perm_middle.trans ?_
    rw [List.take_append_drop]
  rw [h.mem_iff, List.mem_cons]
  exact ⟨fun h => h.elim .inr .inl, fun h => h.elim .inr .inl⟩
theorem ins_len {α : Type} {l : List α} {k : Nat} {x : α} : (l.take k ++ x :: l.drop k).length = l.length + 1 := by
  have h : (l.take k ++ x :: l.drop k).Perm (x :: l) := by
    refine List.perm_middle.trans ?_
    rw [List.take_append_drop]
  rw [h.length_eq]; rfl
/-- Rows that ascend and hold the pairs so far. -/
def RowsOk (ls : Nat → List Int) (P : List (Nat × Int)) : Prop := (∀ i, (ls i).Pairwise (· < ·)) ∧ ∀ i x, x ∈ ls i ↔ (i, x) ∈ P
theorem RowsOk.start : RowsOk (fun _ => []) [] := ⟨fun i => List.Pairwise.nil, fun i x => by simp⟩
theorem RowsOk.same {ls : Nat → List Int} {P : List (Nat × Int)} (h : RowsOk ls P) {a : Nat} {x : Int} (hx : x ∈ ls a) : RowsOk ls (P ++ [(a, x)]) :=
  ⟨h.1, fun i y => by
    rw [List.mem_append, List.mem_singleton, h.2 i y]
    refine ⟨.inl, fun hh => hh.elim id (fun e => ?_)⟩
    injection e with e1 e2
    subst e1; subst e2
    exact (h.2 _ _).1 hx⟩
theorem RowsOk.more {ls : Nat → List Int} {P : List (Nat × Int)} (h : RowsOk ls P) {a k : Nat} {x : Int} (h1 : ∀ j (h : j < (ls a).length), j < k → (ls a)[j] < x) (h2 : ∀ h : k < (ls a).length, x < (ls a)[k]) :
    RowsOk (setTo ls a ((ls a).take k ++ x :: (ls a).drop k)) (P ++ [(a, x)]) := by
  refine ⟨fun i => ?_, fun i y => ?_⟩
  · unfold setTo
    split
    · exact ins_strict (h.1 a) h1 h2
    · exact h.1 i
  · rw [List.mem_append, List.mem_singleton]
    unfold setTo
    split
    · rename_i e
      subst e
      rw [ins_mem, h.2 i y]
      simp
    · rename_i e
      rw [h.2 i y]
      refine ⟨.inl, fun hh => hh.elim id (fun e2 => ?_)⟩
      injection e2 with e3 _
      exact absurd e3 e
/-- The six pairs of a cell. -/
def six (c : I3) : List (Nat × Int) := [(c.1.toNat, c.2.1), (c.1.toNat, c.2.2), (c.2.1.toNat, c.2.2), (c.2.1.toNat, c.1), (c.2.2.toNat, c.1), (c.2.2.toNat, c.2.1)]
/-- The edges as the reference lists them. -/
def eRow (ls : Nat → List Int) (a : Nat) : List I2 := ((ls a).filter (fun b => decide ((a : Int) < b))).map (fun b => ((a : Int), b))
def eTo (ls : Nat → List Int) (k : Nat) : List I2 := (List.range k).flatMap (eRow ls)
/-! ### The cells as the reference inserts them -/
end Go.Proofs.YtojkamfabapcoaaGreatDoor
