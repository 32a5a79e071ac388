import Derived.Test.YtpbfgnffkhabnaaDoorKAwake
import Derived.Test.YtpbfgnffkhabnaaDoorKPrec
set_option linter.unusedSimpArgs false
set_option linter.unusedVariables false
namespace Go.Proofs.YtpbfgnffkhabnaaDoor
open Go.RowKit Go.Grid Go.Maps Go.Sort Go.Shelf

/-! ### A merge sort that the kernel can reckon -/
def merge2 {α : Type} (lt : α → α → Bool) : Nat → List α → List α → List α
  | 0, a, b => a ++ b
  | _ + 1, [], b => b
  | _ + 1, a, [] => a
  | f + 1, x :: a, y :: b => if lt y x then y :: merge2 lt f (x :: a) b else x :: merge2 lt f a (y :: b)
theorem merge2_perm {α : Type} (lt : α → α → Bool) : ∀ (f : Nat) (a b : List α), (merge2 lt f a b).Perm (a ++ b)
  | 0, _, _ => List.Perm.refl _
  | _ + 1, [], _ => List.Perm.refl _
  | _ + 1, x :: a, [] => by simp [merge2]
  | f + 1, x :: a, y :: b => by
    unfold merge2
    split
    · refine ((merge2_perm lt f (x :: a) b).cons y).trans ?_
      exact (List.perm_middle (l₁ := x :: a) (l₂ := b) (a := y)).symm
    · exact (merge2_perm lt f a (y :: b)).cons x
def ms {α : Type} (lt : α → α → Bool) : Nat → List α → List α
  | 0, l => l
  | k + 1, l => if l.length ≤ 1 then l else merge2 lt l.length (ms lt k (l.take (l.length / 2))) (ms lt k (l.drop (l.length / 2)))
theorem ms_perm {α : Type} (lt : α → α → Bool) : ∀ (k : Nat) (l : List α), (ms lt k l).Perm l
  | 0, _ => List.Perm.refl _
  | k + 1, l => by
    unfold ms
    split
    · exact List.Perm.refl _
    · refine (merge2_perm lt _ _ _).trans ?_
      have h := (ms_perm lt k (l.take (l.length / 2))).append (ms_perm lt k (l.drop (l.length / 2)))
      rwa [List.take_append_drop] at h

/-! ### Each element twice -/
def evens {α : Type} : List α → List α
  | x :: _ :: r => x :: evens r
  | _ => []
def dbl {α : Type} (E : List α) : List α := E.flatMap (fun e => [e, e])
theorem dbl_len {α : Type} : ∀ E : List α, (dbl E).length = 2 * E.length
  | [] => rfl
  | _ :: E => by have := dbl_len E; simp [dbl] at this ⊢; omega
theorem dbl_cons {α : Type} (x : α) (E : List α) : dbl (x :: E) = x :: x :: dbl E := rfl
theorem dbl_get {α : Type} : ∀ (E : List α) (j : Nat) (h : j < (dbl E).length), (dbl E)[j] = E[j / 2]'(by rw [dbl_len] at h; omega)
  | [], j, h => by simp [dbl] at h
  | x :: E, 0, _ => rfl
  | x :: E, 1, _ => rfl
  | x :: E, j + 2, h => by
    have h' : j < (dbl E).length := by rw [dbl_cons] at h; simpa using h
    have := dbl_get E j h'
    have e : (j + 2) / 2 = j / 2 + 1 := by omega
    simp only [dbl_cons, List.getElem_cons_succ, this, e]
theorem mem_dbl {α : Type} {x : α} {E : List α} : x ∈ dbl E ↔ x ∈ E := by simp [dbl]
def ascFrom : I2 → List I2 → Bool
  | _, [] => true
  | x, y :: r => ltB2 x y && ascFrom y r
def ascB : List I2 → Bool
  | [] => true
  | x :: r => ascFrom x r
theorem ascFrom_pair : ∀ {l : List I2} {x : I2}, ascFrom x l = true → (x :: l).Pairwise lt2
  | [], x, _ => List.pairwise_singleton _ _
  | y :: r, x, h => by
    unfold ascFrom at h
    rw [Bool.and_eq_true] at h
    have hxy : lt2 x y := of_decide_eq_true h.1
    have hr := ascFrom_pair h.2
    refine List.pairwise_cons.2 ⟨fun z hz => ?_, hr⟩
    rcases List.mem_cons.1 hz with rfl | hz
    · exact hxy
    · have := (List.pairwise_cons.1 hr).1 z hz
      unfold lt2 at *; omega
theorem ascB_pair {l : List I2} (h : ascB l = true) : l.Pairwise lt2 := by
  cases l with
  | nil => exact List.Pairwise.nil
  | cons x r => exact ascFrom_pair h
theorem asc_nodup {l : List I2} (h : l.Pairwise lt2) : l.Nodup := h.imp (fun {a b} h e => by subst e; unfold lt2 at h; omega)

def degs (E : List I2) : List Int := E.flatMap (fun e => [e.1, e.2])
def degOk (N : Nat) (F : List Int) : Bool := (List.range N).all (fun k : Nat => F.count (k : Int) == 5 || F.count (k : Int) == 6) && ((List.range N).countP (fun k : Nat => F.count (k : Int) == 5)) == 12
def chk3 (N c : Nat) (C : List I3) (E T : List I2) : Bool :=
  C.all (fun c => decide (c.1 < c.2.1) && decide (c.2.1 < c.2.2)) && (T == dbl E) && ascB E && (N + C.length == E.length + 2) && degOk N (degs E)
def chk2 (N : Nat) (C : List I3) (T : List I2) : Bool := chk3 N 0 C (evens T) T
def chk1 (N : Nat) (C : List I3) : Bool := chk2 N C (ms ltB2 11 (C.flatMap eds))
def chk (n : Nat) : Bool := chk1 (nodesL n).length (cellsF (nodesL n) n)
/-- The cells of one face. -/
def faceF (L : List Pl) (n f : Nat) : List I3 := ((List.range n).flatMap fun a => (List.range (n - a)).flatMap fun b => cellsAtF L (hh n) (cpos n f a b)).map to3
theorem cellsF_faces (L : List Pl) (n : Nat) : cellsF L n = (List.range 20).flatMap (faceF L n) := by
  unfold cellsF faceF
  rw [List.map_flatMap]
set_option maxRecDepth 100000
theorem chk_1 : chk 1 = true := by decide +kernel
theorem chk_2 : chk 2 = true := by decide +kernel
end Go.Proofs.YtpbfgnffkhabnaaDoor
