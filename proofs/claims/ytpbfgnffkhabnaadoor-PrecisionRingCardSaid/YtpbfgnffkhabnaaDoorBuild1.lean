import Derived.Test.YtpbfgnffkhabnaaDoorCompact
set_option linter.unusedSimpArgs false
set_option linter.unusedVariables false
namespace Go.Proofs.YtpbfgnffkhabnaaDoor
open Go.RowKit Go.Grid Go.Maps Go.Sort Go.Shelf

/-- The places at which Build lays cells. -/
def cpos (n f a b : Nat) : Pl := ⟨f, a * hh n, b * hh n, (n - 1 - a - b) * hh n⟩
def cB (n f a k : Nat) : List (List Int) := (List.range k).flatMap (fun b => cellsAt (nodesL n) (hh n) (cpos n f a b))
def cA (n f k : Nat) : List (List Int) := (List.range k).flatMap (fun a => cB n f a (n - a))
def cF (n k : Nat) : List (List Int) := (List.range k).flatMap (fun f => cA n f n)
/-- All cells, as they are laid. -/
def cellsRaw (n : Nat) : List (List Int) := cF n 20
def csofar (n f a b : Nat) : List (List Int) := cF n f ++ (cA n f a ++ cB n f a b)
theorem csofar_succ (n f a b : Nat) : csofar n f a (b + 1) = csofar n f a b ++ cellsAt (nodesL n) (hh n) (cpos n f a b) := by
  simp [csofar, cB, List.range_succ, List.flatMap_append]
theorem csofar_row (n f a : Nat) : csofar n f a (n - a) = csofar n f (a + 1) 0 := by
  simp [csofar, cA, cB, List.range_succ, List.flatMap_append]
theorem csofar_face (n f : Nat) : csofar n f n 0 = csofar n (f + 1) 0 0 := by
  simp [csofar, cF, cA, cB, List.range_succ, List.flatMap_append]
theorem csofar_start (n : Nat) : csofar n 0 0 0 = [] := by simp [csofar, cF, cA, cB]
theorem csofar_end (n : Nat) : csofar n 20 0 0 = cellsRaw n := by simp [csofar, cellsRaw, cA, cB]
theorem len_cellsAt (L : List Pl) (h : Nat) (p : Pl) : (cellsAt L h p).length ≤ 2 := by
  unfold cellsAt; split <;> simp
theorem len_cB (n f a : Nat) : ∀ k, (cB n f a k).length ≤ 2 * k
  | 0 => by simp [cB]
  | k + 1 => by
    have := len_cB n f a k
    have := len_cellsAt (nodesL n) (hh n) (cpos n f a k)
    have e : cB n f a (k + 1) = cB n f a k ++ cellsAt (nodesL n) (hh n) (cpos n f a k) := by simp [cB, List.range_succ, List.flatMap_append]
    rw [e, List.length_append]; omega
theorem len_cA (n f : Nat) : ∀ k, (cA n f k).length ≤ k * (2 * n)
  | 0 => by simp [cA]
  | k + 1 => by
    have := len_cA n f k
    have := len_cB n f k (n - k)
    have e : cA n f (k + 1) = cA n f k ++ cB n f k (n - k) := by simp [cA, List.range_succ, List.flatMap_append]
    rw [e, List.length_append, Nat.succ_mul]; omega
theorem len_cF (n : Nat) : ∀ k, (cF n k).length ≤ k * (n * (2 * n))
  | 0 => by simp [cF]
  | k + 1 => by
    have := len_cF n k
    have := len_cA n k n
    have e : cF n (k + 1) = cF n k ++ cA n k n := by simp [cF, List.range_succ, List.flatMap_append]
    rw [e, List.length_append, Nat.succ_mul]; omega
theorem len_csofar {n f a b : Nat} (hn : n ≤ 8) (hf : f ≤ 20) (ha : a ≤ n) (hb : b ≤ n) : (csofar n f a b).length ≤ 5000 := by
  have h1 := len_cF n f
  have h2 := len_cA n f a
  have h3 := len_cB n f a b
  have h4 : f * (n * (2 * n)) ≤ 20 * (8 * 16) := Nat.mul_le_mul hf (Nat.mul_le_mul hn (by omega))
  have h5 : a * (2 * n) ≤ 8 * 16 := Nat.mul_le_mul (by omega) (by omega)
  simp only [csofar, List.length_append]
  omega
/-- All cells have three nodes. -/
theorem cells_three (n : Nat) : ∀ c ∈ cellsRaw n, c.length = 3 := by
  intro c hc
  simp only [cellsRaw, cF, cA, cB, List.mem_flatMap, List.mem_range] at hc
  obtain ⟨f, _, a, _, b, _, hc⟩ := hc
  unfold cellsAt at hc
  rcases List.mem_cons.1 hc with rfl | hc
  · exact tri_len _ _ _ _
  · split at hc
    · rw [List.mem_singleton] at hc; subst hc; exact tri_len _ _ _ _
    · cases hc
/-- .. as triples. -/
def to3 (c : List Int) : I3 := (c.getD 0 0, c.getD 1 0, c.getD 2 0)
theorem enc3_to3 {c : List Int} (h : c.length = 3) : enc3 (to3 c) = ceCells c := by
  match c, h with
  | [x, y, z], _ => rfl
def cells3 (n : Nat) : List I3 := (cellsRaw n).map to3
theorem ceVals_eq {C : List (List Int)} (h : ∀ c ∈ C, c.length = 3) : ceVals C = (C.map to3).flatMap enc3 := by
  unfold ceVals
  rw [List.flatMap_map]
  induction C with
  | nil => rfl
  | cons c C ih =>
    rw [List.flatMap_cons, List.flatMap_cons, enc3_to3 (h c (by simp)), ih (fun c hc => h c (by simp [hc]))]

/-- A row that is owned, as the sort asks it. -/
theorem flat_get {α : Type} [Inhabited α] (enc : α → List Value) (k : Nat) (hk : 0 < k) (hl : ∀ x, (enc x).length = k) : ∀ (d : List α) (j : Nat) (hj : j < d.length * k), (d.flatMap enc)[j]? = (enc (d.getD (j / k) default))[j % k]?
  | [], j, hj => by simp at hj
  | x :: d, j, hj => by
    rw [List.flatMap_cons]
    by_cases h : j < k
    · rw [List.getElem?_append_left (by rw [hl]; exact h), Nat.div_eq_of_lt h, Nat.mod_eq_of_lt h]; rfl
    · have hj2 : j - k < d.length * k := by rw [List.length_cons, Nat.succ_mul] at hj; omega
      rw [List.getElem?_append_right (by rw [hl]; omega), hl, flat_get enc k hk hl d (j - k) hj2]
      have e1 : j / k = (j - k) / k + 1 := by
        rw [← Nat.add_div_right _ hk]; congr 1; omega
      have e2 : j % k = (j - k) % k := by
        rw [← Nat.add_mod_right (j - k) k]; congr 1; omega
      rw [e1, e2]; rfl
theorem own_holds {α : Type} [Inhabited α] {enc : α → List Value} {k : Nat} (hk : 0 < k) (hl : ∀ x, (enc x).length = k) {w : World} {base g cap n : Nat} {e : TypeId} {d : List α} (hown : w.ownsRow base e k (.slice (some ⟨g, 0, none⟩) n cap) n (d.flatMap enc)) (hn : d.length = n) : HoldsK enc k w g 0 d.toArray := by
  intro j hj
  have hj' : j < d.length * k := by rw [size_flatK] at hj; simpa using hj
  have hjn : j < n * k := by rw [← hn]; exact hj'
  have h1 := hown.cellAt j hjn
  have h2 := hown.frozenAt j
  rw [Nat.zero_add]
  refine ⟨?_, h2⟩
  rw [h1, get_flatK _ _ _ _ (by simpa using hj'), flat_get enc k hk hl d j hj']
  have hd : j / k < d.length := Nat.div_lt_of_lt_mul (by rw [Nat.mul_comm]; exact hj')
  have e1 : d.toArray[j / k]! = d.getD (j / k) default := by
    rw [getElem!_pos d.toArray (j / k) (by simpa using hd)]
    simp [List.getD, List.getElem?_eq_getElem hd]
  rw [e1]
  have hm : j % k < (enc (d.getD (j / k) default)).length := by rw [hl]; exact Nat.mod_lt _ hk
  rw [List.getElem?_eq_getElem hm]
  exact congrArg some (getElem!_pos (enc (d.getD (j / k) default)) (j % k) hm).symm
end Go.Proofs.YtpbfgnffkhabnaaDoor
