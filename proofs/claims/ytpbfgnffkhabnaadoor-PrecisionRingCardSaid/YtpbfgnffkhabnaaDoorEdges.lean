import Derived.Test.YtpbfgnffkhabnaaDoorNextR
set_option linter.unusedSimpArgs false
set_option linter.unusedVariables false
namespace Go.Proofs.YtpbfgnffkhabnaaDoor
open Go.RowKit Go.Grid Go.Maps Go.Sort Go.Shelf

/-! ### What Build makes, in plain words -/
def cellsS (n : Nat) : List I3 := sort3 (cells3 n)
def edRaw (n : Nat) : List I2 := edTo (cellsS n) (cellsS n).length
def edgesL (n : Nat) : List I2 := comp (sort2 (edRaw n)) (sort2 (edRaw n)).length
def nextL (n : Nat) (i : Nat) : List Int := sorted (adjTo (edgesL n) (edgesL n).length i)

theorem mem_comp {d : List I2} {m : Nat} (hm : m ≤ d.length) {x : I2} (h : x ∈ comp d m) : x ∈ d := by
  unfold comp at h
  obtain ⟨j, hj, rfl⟩ := List.mem_map.1 h
  have hj' : j < m := List.mem_range.1 (List.mem_filter.1 hj).1
  have : j < d.length := by omega
  simp [List.getD, List.getElem?_eq_getElem this]
theorem comp_pos {d : List I2} (h : 0 < d.length) : 0 < (comp d d.length).length := by
  have h0 : d.getD 0 (0, 0) ∈ comp d d.length := by
    unfold comp
    exact List.mem_map.2 ⟨0, List.mem_filter.2 ⟨List.mem_range.2 h, by simp [newAt]⟩, rfl⟩
  exact List.length_pos_of_mem h0
theorem nodes_pos {n : Nat} (h1 : 1 ≤ n) (h2 : n ≤ 8) : 0 < (nodesL n).length :=
  List.length_pos_of_mem (normal_mem (f := 0) (a := 0) (b := 0) (hh_mul h1 h2) (by omega) (by omega))
theorem atI_in {n : Nat} (h1 : 1 ≤ n) (h2 : n ≤ 8) (p : Pl) : 0 ≤ atI (nodesL n) p ∧ atI (nodesL n) p < ((nodesL n).length : Int) := by
  have hp := nodes_pos h1 h2
  unfold atI
  refine ⟨by omega, ?_⟩
  cases e : ix (nodesL n) (normal p) with
  | none => simp; omega
  | some i =>
    obtain ⟨hi, _⟩ := ix_some e
    simp; omega
theorem cells_in {n : Nat} (h1 : 1 ≤ n) (h2 : n ≤ 8) : ∀ c ∈ cells3 n, (0 ≤ c.1 ∧ c.1 < ((nodesL n).length : Int)) ∧ (0 ≤ c.2.1 ∧ c.2.1 < ((nodesL n).length : Int)) ∧ (0 ≤ c.2.2 ∧ c.2.2 < ((nodesL n).length : Int)) := by
  intro c hc
  obtain ⟨l, hl, rfl⟩ := List.mem_map.1 hc
  have key : ∀ p q r : Pl, ∀ x ∈ tri (nodesL n) p q r, 0 ≤ x ∧ x < ((nodesL n).length : Int) := by
    intro p q r x hx
    have := (sorted_perm _).mem_iff.1 hx
    simp at this
    rcases this with rfl | rfl | rfl <;> exact atI_in h1 h2 _
  have hall : ∀ x ∈ l, 0 ≤ x ∧ x < ((nodesL n).length : Int) := by
    simp only [cellsRaw, cF, cA, cB, List.mem_flatMap, List.mem_range] at hl
    obtain ⟨f, _, a, _, b, _, hl⟩ := hl
    unfold cellsAt at hl
    rcases List.mem_cons.1 hl with rfl | hl
    · exact key _ _ _
    · split at hl
      · rw [List.mem_singleton] at hl; subst hl; exact key _ _ _
      · cases hl
  have h3 := cells_three n l hl
  match l, h3, hall with
  | [x, y, z], _, hall => exact ⟨hall x (by simp), hall y (by simp), hall z (by simp)⟩
theorem edges_in {n : Nat} (h1 : 1 ≤ n) (h2 : n ≤ 8) : ∀ e ∈ edgesL n, 0 ≤ e.1 ∧ e.1 < ((nodesL n).length : Int) ∧ 0 ≤ e.2 ∧ e.2 < ((nodesL n).length : Int) := by
  intro e he
  have he := (List.mergeSort_perm _ _).mem_iff.1 (mem_comp (Nat.le_refl _) he)
  unfold edRaw edTo at he
  rw [List.take_length] at he
  obtain ⟨c, hc, he⟩ := List.mem_flatMap.1 he
  have hc := (List.mergeSort_perm _ _).mem_iff.1 hc
  obtain ⟨⟨a1, a2⟩, ⟨b1, b2⟩, ⟨c1, c2⟩⟩ := cells_in h1 h2 c hc
  simp only [eds, List.mem_cons, List.not_mem_nil, or_false] at he
  rcases he with rfl | rfl | rfl <;> exact ⟨by assumption, by assumption, by assumption, by assumption⟩
theorem edges_pos {n : Nat} (h1 : 1 ≤ n) : 0 < (edgesL n).length := by
  refine comp_pos ?_
  unfold sort2
  rw [List.length_mergeSort]
  unfold edRaw
  rw [edTo_len _ _ (Nat.le_refl _)]
  have := cells3_pos h1
  unfold cellsS sort3
  rw [List.length_mergeSort]
  omega

/-- The whole grid at block g. -/
structure NetFull (w : World) (g n : Nat) : Prop where
  net : NetAt w g n (g + 1) (nodesL n)
  cells : ∃ b cap, w.cell? ⟨g, 4, none⟩ = some (.slice (some ⟨b, 0, none⟩) (cellsS n).length cap) ∧ (cellsS n).length ≤ cap ∧ HoldsK enc3 3 w b 0 (cellsS n).toArray ∧ g < b
  edges : ∃ b cap, w.cell? ⟨g, 5, none⟩ = some (.slice (some ⟨b, 0, none⟩) (edgesL n).length cap) ∧ (edgesL n).length ≤ cap ∧ PairsAt w b (edgesL n) ∧ g < b
  next : ∃ N, w.cell? ⟨g, 6, none⟩ = some (.slice (some ⟨N, 0, none⟩) (nodesL n).length (nodesL n).length) ∧ NextR w N (nodesL n).length (N + 1) (nextL n) ∧ g < N
end Go.Proofs.YtpbfgnffkhabnaaDoor
