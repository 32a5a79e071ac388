import Derived.Test.YtojkamfabapcoaaGreatDoorApply
set_option linter.unusedSimpArgs false
set_option linter.unusedVariables false
namespace Go.Proofs.YtojkamfabapcoaaGreatDoor
open Go.RowKit Go.Grid Go.Maps Go.Sort Go.Shelf

/-- The sum of the products of the elements with equal indexes. -/
def dotL : List Int → List Int → Int
  | a :: x, b :: y => a * b + dotL x y
  | _, _ => 0
theorem dotL_nil (y : List Int) : dotL [] y = 0 := by cases y <;> rfl
theorem dotL_snoc : ∀ (x y : List Int) (a b : Int), x.length = y.length → dotL (x ++ [a]) (y ++ [b]) = dotL x y + a * b
  | [], [], a, b, _ => by simp [dotL]
  | c :: x, d :: y, a, b, h => by
    have := dotL_snoc x y a b (by simpa using h)
    simp only [List.cons_append, dotL, this]; omega
  | [], _ :: _, _, _, h => by simp at h
  | _ :: _, [], _, _, h => by simp at h
theorem dotL_take {x y : List Int} (h : x.length = y.length) {k : Nat} (hk : k < x.length) : dotL (x.take (k + 1)) (y.take (k + 1)) = dotL (x.take k) (y.take k) + x[k] * y[k]'(h ▸ hk) := by
  rw [List.take_succ_eq_append_getElem hk, List.take_succ_eq_append_getElem (h ▸ hk), dotL_snoc _ _ _ _ (by simp; omega)]
theorem dotL_comm : ∀ x y : List Int, dotL x y = dotL y x
  | [], [] => rfl
  | [], _ :: _ => rfl
  | _ :: _, [] => rfl
  | a :: x, b :: y => by simp only [dotL, dotL_comm x y, Int.mul_comm]
theorem dotL_map (c : Int) : ∀ x y : List Int, dotL (x.map (c * ·)) y = c * dotL x y
  | [], y => by simp [dotL_nil]
  | _ :: _, [] => by simp [dotL]
  | a :: x, b :: y => by simp only [List.map_cons, dotL, dotL_map c x y, Int.mul_add, Int.mul_assoc]
theorem dotL_set : ∀ (x y : List Int) (i : Nat) (v : Int), x.length = y.length → i < x.length → dotL (x.set i v) y = dotL x y + (v - x.getD i 0) * y.getD i 0
  | [], _, _, _, _, h => by simp at h
  | _ :: _, [], _, _, h, _ => by simp at h
  | a :: x, b :: y, 0, v, _, _ => by
    simp only [List.set_cons_zero, dotL, List.getD_cons_zero, Int.sub_mul]; omega
  | a :: x, b :: y, i + 1, v, h, hi => by
    have := dotL_set x y i v (by simpa using h) (by simpa using hi)
    simp only [List.set_cons_succ, dotL, List.getD_cons_succ, this]; omega
/-- The sum over the edges of the products of differences. -/
def qf (x u : List Int) : List I2 → Int
  | [] => 0
  | e :: D => (x.getD e.1.toNat 0 - x.getD e.2.toNat 0) * (u.getD e.1.toNat 0 - u.getD e.2.toNat 0) + qf x u D
/-- Both ends are numbers below n. -/
def InR (n : Nat) (D : List I2) : Prop := ∀ e ∈ D, e.1.toNat < n ∧ e.2.toNat < n
theorem dot_step (sm : Int) (x out u : List Int) (e : I2) (h : out.length = u.length) (h1 : e.1.toNat < out.length) (h2 : e.2.toNat < out.length) :
    dotL (stepE sm x out e) u = dotL out u + sm * ((x.getD e.1.toNat 0 - x.getD e.2.toNat 0) * (u.getD e.1.toNat 0 - u.getD e.2.toNat 0)) := by
  unfold stepE
  rw [dotL_set _ _ _ _ (by simpa using h) (by simpa using h2), dotL_set _ _ _ _ h h1]
  generalize x.getD e.1.toNat 0 - x.getD e.2.toNat 0 = d
  have e1 : out.getD e.1.toNat 0 + sm * d - out.getD e.1.toNat 0 = sm * d := by omega
  generalize (out.set e.1.toNat (out.getD e.1.toNat 0 + sm * d)).getD e.2.toNat 0 = z
  have e2 : z - sm * d - z = -(sm * d) := by omega
  rw [e1, e2, ← Int.mul_assoc, Int.mul_sub, Int.neg_mul]; omega
theorem dot_fold (sm : Int) (x u : List Int) : ∀ (D : List I2) (out : List Int), out.length = u.length → InR out.length D → dotL (D.foldl (stepE sm x) out) u = dotL out u + sm * qf x u D
  | [], out, _, _ => by simp [qf]
  | e :: D, out, h, hD => by
    have he := hD e (by simp)
    rw [List.foldl_cons, dot_fold sm x u D _ (by rw [stepE_len]; exact h) (by rw [stepE_len]; exact fun e' h' => hD e' (List.mem_cons_of_mem _ h')), dot_step sm x out u e h he.1 he.2]
    simp only [qf, Int.mul_add]; omega
theorem applyL_eq (sm an : Int) (x : List Int) (D : List I2) : applyL sm an x D = D.foldl (stepE sm x) (x.map (an * ·)) := by
  unfold applyL applyTo; rw [List.take_length]
/-- The bilinear form of a precision. -/
theorem dot_apply (sm an : Int) (x u : List Int) (D : List I2) (h : x.length = u.length) (hD : InR x.length D) : dotL (applyL sm an x D) u = an * dotL x u + sm * qf x u D := by
  rw [applyL_eq, dot_fold sm x u D _ (by simpa using h) (by simpa using hD), dotL_map]
def sumL : List Int → Int
  | [] => 0
  | a :: x => a + sumL x
/-- The sum of two vectors. -/
def addL (x y : List Int) : List Int := List.zipWith (· + ·) x y
theorem addL_len {x y : List Int} (h : x.length = y.length) : (addL x y).length = x.length := by simp [addL]; omega
theorem addL_getD {x y : List Int} (h : x.length = y.length) (i : Nat) : (addL x y).getD i 0 = x.getD i 0 + y.getD i 0 := by
  unfold addL
  by_cases hi : i < x.length
  · simp [List.getD, List.getElem?_eq_getElem hi, List.getElem?_eq_getElem (h ▸ hi : i < y.length), List.getElem?_zipWith]
  · simp [List.getD, List.getElem?_eq_none (Nat.le_of_not_lt hi), List.getElem?_eq_none (show y.length ≤ i by omega), List.getElem?_zipWith]
theorem sq_nn (x : Int) : 0 ≤ x * x := by
  rcases Int.le_total 0 x with h | h
  · exact Int.mul_nonneg h h
  · have := Int.mul_nonneg (show 0 ≤ -x by omega) (show 0 ≤ -x by omega)
    rwa [Int.neg_mul_neg] at this
theorem sq_zero {x : Int} (h : x * x = 0) : x = 0 := by rcases Int.mul_eq_zero.1 h with h | h <;> exact h
theorem qf_nn (x : List Int) : ∀ D, 0 ≤ qf x x D
  | [] => Int.le_refl 0
  | e :: D => by
    have := qf_nn x D
    have := sq_nn (x.getD e.1.toNat 0 - x.getD e.2.toNat 0)
    simp only [qf]; omega
theorem dot_nn : ∀ x : List Int, 0 ≤ dotL x x
  | [] => Int.le_refl 0
  | a :: x => by have := dot_nn x; have := sq_nn a; simp only [dotL]; omega
theorem dot_zero : ∀ x : List Int, dotL x x = 0 → ∀ a ∈ x, a = 0
  | [], _, _, h => by simp at h
  | b :: x, h, a, ha => by
    have h1 := dot_nn x
    have h2 := sq_nn b
    simp only [dotL] at h
    rcases List.mem_cons.1 ha with rfl | ha
    · exact sq_zero (by omega)
    · exact dot_zero x (by omega) a ha
/-- Each node but the first is the greater end of an edge: the grid hangs together. -/
def Tied (n : Nat) (D : List I2) : Prop := ∀ i, 0 < i → i < n → ∃ e ∈ D, e.2.toNat = i ∧ e.1.toNat < i
end Go.Proofs.YtojkamfabapcoaaGreatDoor

set_option linter.unusedSimpArgs false
set_option linter.unusedVariables false
namespace Go.Proofs.YtojkamfabapcoaaGreatDoor
open Go.RowKit Go.Grid Go.Maps Go.Sort Go.Shelf

/-- What stays the same along the edges. -/
def FlatE (n : Nat) (x : List Int) : Prop := ∀ e ∈ edgesL n, x.getD e.1.toNat 0 = x.getD e.2.toNat 0
def xAt (n : Nat) (x : List Int) (p : Pl) : Int := x.getD (atL n p) 0
/-- The three corners of a face. -/
def cor (f : Nat) : Nat → Pl
  | 0 => ⟨f, 840, 0, 0⟩
  | 1 => ⟨f, 0, 840, 0⟩
  | _ => ⟨f, 0, 0, 840⟩
end Go.Proofs.YtojkamfabapcoaaGreatDoor

set_option linter.unusedSimpArgs false
set_option linter.unusedVariables false
namespace Go.Proofs.YtojkamfabapcoaaGreatDoor
open Go.RowKit Go.Grid Go.Maps Go.Sort Go.Shelf

theorem mul_abs_le {x B : Int} (h1 : -B ≤ x) (h2 : x ≤ B) : x * x ≤ B * B := by
  rcases Int.le_total 0 x with h | h
  · exact Int.mul_le_mul h2 h2 h (by omega)
  · have := Int.mul_le_mul (show -x ≤ B by omega) (show -x ≤ B by omega) (by omega) (by omega)
    rwa [Int.neg_mul_neg] at this
/-- The energy. -/
def energyL (s a : Int) (x : List Int) (D : List I2) : Int := a * dotL x x + s * qf x x D
end Go.Proofs.YtojkamfabapcoaaGreatDoor
