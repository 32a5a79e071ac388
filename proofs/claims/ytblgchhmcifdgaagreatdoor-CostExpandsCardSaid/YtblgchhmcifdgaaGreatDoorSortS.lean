import Derived.Test.YtblgchhmcifdgaaGreatDoorKSort
import Derived.Test.YtblgchhmcifdgaaGreatDoorKLoc
import Derived.Test.YtblgchhmcifdgaaGreatDoorKEdges
set_option linter.unusedSimpArgs false
set_option linter.unusedVariables false
namespace Go.Proofs.YtblgchhmcifdgaaGreatDoor
open Go.RowKit Go.Sort Go.Shelf Go.Grid

/-- A share: a node and a weight. -/
abbrev Sh := Fin 100000 × Int
def encS (x : Sh) : List Value := [.int .i64 (x.1.val : Int), .int .i64 x.2]
def cfS (x y : Sh) : Int := (x.1.val : Int) - (y.1.val : Int)
theorem ltOfS_iff (x y : Sh) : ltOf cfS x y = true ↔ x.1.val < y.1.val := by
  unfold ltOf cfS; rw [decide_eq_true_eq]; omega
theorem ltOfS_not (x y : Sh) : ltOf cfS x y = false ↔ ¬ x.1.val < y.1.val := by rw [← ltOfS_iff, Bool.not_eq_true]
theorem swoS : SWO (ltOf cfS) where
  irrefl := fun x => (ltOfS_not x x).2 (by omega)
  trans := fun x y z h1 h2 => (ltOfS_iff _ _).2 (by have a := (ltOfS_iff _ _).1 h1; have b := (ltOfS_iff _ _).1 h2; omega)
  ntrans := fun x y z h1 h2 => (ltOfS_not _ _).2 (by have a := (ltOfS_not _ _).1 h1; have b := (ltOfS_not _ _).1 h2; omega)

/-- Shares that lie in a block. -/
def SharesAt (w : World) (b : Nat) (S : List (Nat × Nat)) : Prop := ∀ k (h : k < S.length), w.cell? ⟨b, k * 2, none⟩ = some (.int .i64 (S[k].1 : Int)) ∧ w.cell? ⟨b, k * 2 + 1, none⟩ = some (.int .i64 (S[k].2 : Int))
def toSh (x : Nat × Nat) : Sh := (⟨x.1 % 100000, Nat.mod_lt _ (by omega)⟩, (x.2 : Int))
def ofSh (x : Sh) : Nat × Nat := (x.1.val, x.2.toNat)
def encN (x : Nat × Nat) : List Value := [.int .i64 (x.1 : Int), .int .i64 (x.2 : Int)]
theorem ofSh_toSh {x : Nat × Nat} (h : x.1 < 100000) : ofSh (toSh x) = x := by
  obtain ⟨a, b⟩ := x
  simp only [ofSh, toSh, Int.toNat_natCast]
  rw [Nat.mod_eq_of_lt h]
theorem encS_toSh {x : Nat × Nat} (h : x.1 < 100000) : encS (toSh x) = encN x := by
  obtain ⟨a, b⟩ := x
  simp only [encS, toSh, encN]
  rw [Nat.mod_eq_of_lt h]
theorem flat_toSh : ∀ {S : List (Nat × Nat)}, (∀ x ∈ S, x.1 < 100000) → (S.map toSh).flatMap encS = S.flatMap encN
  | [], _ => rfl
  | x :: S, h => by
    rw [List.map_cons, List.flatMap_cons, List.flatMap_cons, encS_toSh (h x (by simp)), flat_toSh (fun y hy => h y (List.mem_cons_of_mem _ hy))]
theorem map_ofSh : ∀ {S : List (Nat × Nat)}, (∀ x ∈ S, x.1 < 100000) → (S.map toSh).map ofSh = S
  | [], _ => rfl
  | x :: S, h => by
    rw [List.map_cons, List.map_cons, ofSh_toSh (h x (by simp)), map_ofSh (fun y hy => h y (List.mem_cons_of_mem _ hy))]
end Go.Proofs.YtblgchhmcifdgaaGreatDoor
