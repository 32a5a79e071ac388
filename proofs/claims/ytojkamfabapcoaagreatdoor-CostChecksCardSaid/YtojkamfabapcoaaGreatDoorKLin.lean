import Derived.Test.YtojkamfabapcoaaGreatDoorApply
set_option linter.unusedSimpArgs false
set_option linter.unusedVariables false
namespace Go.Proofs.YtojkamfabapcoaaGreatDoor
open Go.RowKit Go.Grid Go.Maps Go.Sort Go.Shelf

/-- The sum of the products of the elements with equal indexes. -/
def dotL : List Int → List Int → Int
  | a :: x, b :: y => a * b + dotL x y
  | _, _ => 0
/-- The sum over the edges of the products of differences. -/
def qf (x u : List Int) : List I2 → Int
  | [] => 0
  | e :: D => (x.getD e.1.toNat 0 - x.getD e.2.toNat 0) * (u.getD e.1.toNat 0 - u.getD e.2.toNat 0) + qf x u D
/-- Both ends are numbers below n. -/
def InR (n : Nat) (D : List I2) : Prop := ∀ e ∈ D, e.1.toNat < n ∧ e.2.toNat < n
def sumL : List Int → Int
  | [] => 0
  | a :: x => a + sumL x
/-- The sum of two vectors. -/
def addL (x y : List Int) : List Int := List.zipWith (· + ·) x y
/-- Each node but the first is the greater end of an edge: the grid hangs together. -/
def Tied (n : Nat) (D : List I2) : Prop := ∀ i, 0 < i → i < n → ∃ e ∈ D, e.2.toNat = i ∧ e.1.toNat < i
end Go.Proofs.YtojkamfabapcoaaGreatDoor

set_option linter.unusedSimpArgs false
set_option linter.unusedVariables false
namespace Go.Proofs.YtojkamfabapcoaaGreatDoor
open Go.RowKit Go.Grid Go.Maps Go.Sort Go.Shelf

/-- What stays the same along the edges. -/
def FlatE (n : Nat) (x : List Int) : Prop := ∀ e ∈ edgesL n, x.getD e.1.toNat 0 = x.getD e.2.toNat 0
def xAt (n : Nat) (x : List Int) (p : Pl) : Int := x.getD (atL n p) 0
/-- The three corners of a face. -/
def cor (f : Nat) : Nat → Pl
  | 0 => ⟨f, 840, 0, 0⟩
  | 1 => ⟨f, 0, 840, 0⟩
  | _ => ⟨f, 0, 0, 840⟩
end Go.Proofs.YtojkamfabapcoaaGreatDoor

set_option linter.unusedSimpArgs false
set_option linter.unusedVariables false
namespace Go.Proofs.YtojkamfabapcoaaGreatDoor
open Go.RowKit Go.Grid Go.Maps Go.Sort Go.Shelf

/-- The energy. -/
def energyL (s a : Int) (x : List Int) (D : List I2) : Int := a * dotL x x + s * qf x x D
end Go.Proofs.YtojkamfabapcoaaGreatDoor
