import Derived.Test.YtgemfgfhdbkgfaaDivides
import Derived.Test.YtgemfgfhdbkgfaaSizes
set_option linter.unusedSimpArgs false
set_option linter.unusedVariables false
namespace Go.Proofs.Ytgemfgfhdbkgfaa
open Go.RowKit

/-- All of them are ints. -/
def Ints (xs : List Value) : Prop := ∀ u ∈ xs, ∃ x : Int, u = .int .i64 x
/-- A row of parts, whatever they are, that the call owns. -/
structure Row (w : World) (base : Nat) (v : Value) (n : Nat) (xs : List Value) : Prop where
  own : w.ownsRow base 28 4 v n xs
  ints : Ints xs

theorem parts_of_cells {w : World} {g n : Nat} (h : ∀ c, c < n * 4 → ∃ x : Int, w.cell? ⟨g, c, none⟩ = some (.int .i64 x)) : ∃ l : List Pt, l.length = n ∧ PartsAt w g 0 l := by
  classical
  have h' : ∀ c, ∃ x : Int, c < n * 4 → w.cell? ⟨g, c, none⟩ = some (.int .i64 x) := fun c => by
    by_cases hc : c < n * 4
    · obtain ⟨x, hx⟩ := h c hc; exact ⟨x, fun _ => hx⟩
    · exact ⟨0, fun h => absurd h hc⟩
  let f : Nat → Int := fun c => (h' c).choose
  have hf : ∀ c, c < n * 4 → w.cell? ⟨g, c, none⟩ = some (.int .i64 (f c)) := fun c => (h' c).choose_spec
  refine ⟨(List.range n).map fun k => ⟨f (k * 4), f (k * 4 + 1), f (k * 4 + 2), f (k * 4 + 3)⟩, by simp, ?_, ?_, ?_, ?_⟩ <;> intro k hk <;> simp at hk <;> simp <;> exact hf _ (by omega)

theorem Row.form {w : World} {base : Nat} {v : Value} {n : Nat} {xs : List Value} (h : Row w base v n xs) : ∃ (p : Option Addr) (g c : Nat) (l : List Pt), v = .slice p l.length c ∧ l.length = n ∧ (0 < l.length → p = some ⟨g, 0, none⟩) ∧ PartsAt w g 0 l ∧ l.length ≤ c ∧ (0 < l.length → v.ownBlock = some g ∧ base ≤ g ∧ g < w.heap.size) := by
  have hx := h.own.1
  rcases h.own.2 with ⟨rfl, h0⟩ | ⟨g, c, cur, rfl, hbase, hg, hn, hm, hs, ht⟩
  · exact ⟨none, 0, 0, [], rfl, h0.symm, by simp, ⟨fun k hk => by simp at hk, fun k hk => by simp at hk, fun k hk => by simp at hk, fun k hk => by simp at hk⟩, by simp, by simp⟩
  · obtain ⟨l, hl, hP⟩ := parts_of_cells (w := w) (g := g) (n := n) fun c hc => by
      have hc' : c < xs.length := by rw [hx]; exact hc
      obtain ⟨x, hx⟩ := h.ints xs[c] (List.getElem_mem _)
      exact ⟨x, cellsAt_of_own h.own c _ (by rw [List.getElem?_eq_getElem hc', hx])⟩
    exact ⟨some ⟨g, 0, none⟩, g, c, l, by rw [hl], hl, fun _ => rfl, hP, by omega, fun _ => ⟨rfl, hbase, (Array.getElem?_eq_some_iff.1 hg).1⟩⟩

theorem Row.kept {w w' : World} {base : Nat} {v : Value} {n : Nat} {xs : List Value} {row : Option Nat} (h : Row w base v n xs) (hg : w.grownBy w' row) (hne : v.ownBlock = none ∨ v.ownBlock ≠ row) : Row w' base v n xs := ⟨h.own.kept hg hne, h.ints⟩
theorem below_grown {w w' : World} (h : Below w.heap.size w w') (row : Option Nat) : w.grownBy w' row := ⟨h.os, h.tape, h.output, h.size, fun k hk _ => h.block k hk⟩
theorem Row.below {w w' : World} {base : Nat} {v : Value} {n : Nat} {xs : List Value} (h : Row w base v n xs) (hb : Below w.heap.size w w') : Row w' base v n xs :=
  h.kept (below_grown hb none) (by cases v.ownBlock <;> simp)

/-- A cell of the row is written. -/
theorem Row.set {w : World} {base g cap : Nat} {n : Nat} {xs : List Value} (h : Row w base (.slice (some ⟨g, 0, none⟩) n cap) n xs) (c : Nat) (hc : c < n * 4) (x : Int) : Row (w.setCell ⟨g, c, none⟩ (.int .i64 x)) base (.slice (some ⟨g, 0, none⟩) n cap) n (xs.set c (.int .i64 x)) := by
  refine ⟨⟨by rw [List.length_set]; exact h.own.1, ?_⟩, fun u hu => ?_⟩
  · rcases h.own.2 with ⟨h1, _⟩ | ⟨g', c', cur, h1, hbase, hg, hn, hm, hs, ht⟩
    · cases h1
    · injection h1 with h1 h2 h3
      injection h1 with h1
      injection h1 with h1
      subst h1; subst h3
      refine .inr ⟨g, cap, cur.setIfInBounds c (.int .i64 x), rfl, hbase, ?_, hn, hm, by simpa using hs, ?_⟩
      · simp [World.setCell, Array.getElem?_modify, hg]
      · rw [Array.toList_setIfInBounds, List.take_set, ht]
  · rcases List.mem_or_eq_of_mem_set hu with h1 | h1
    · exact h.ints u h1
    · exact ⟨x, h1⟩
theorem Row.frozen {w : World} {base g cap : Nat} {n : Nat} {xs : List Value} (h : Row w base (.slice (some ⟨g, 0, none⟩) n cap) n xs) (c : Nat) : w.frozen? ⟨g, c, none⟩ = false := by
  rcases h.own.2 with ⟨h1, _⟩ | ⟨g', c', cur, h1, hbase, hg, hn, hm, hs, ht⟩
  · cases h1
  · injection h1 with h1 h2 h3
    injection h1 with h1
    injection h1 with h1
    subst h1
    simp [World.frozen?, hg]
theorem Row.cell {w : World} {base g cap : Nat} {n : Nat} {xs : List Value} (h : Row w base (.slice (some ⟨g, 0, none⟩) n cap) n xs) (c : Nat) (hc : c < n * 4) : ∃ x : Int, w.cell? ⟨g, c, none⟩ = some (.int .i64 x) := by
  have hc' : c < xs.length := by rw [h.own.1]; exact hc
  obtain ⟨x, hx⟩ := h.ints xs[c] (List.getElem_mem _)
  exact ⟨x, cellsAt_of_own h.own c _ (by rw [List.getElem?_eq_getElem hc', hx])⟩

theorem ints_parts (nodes rows workers : Int) (k : Nat) : Ints (partsTo nodes rows workers k) := by
  intro u hu
  obtain ⟨j, _, hj⟩ := List.mem_flatMap.1 hu
  simp [partCells] at hj
  rcases hj with rfl | rfl | rfl | rfl <;> exact ⟨_, rfl⟩

/-- The parts of a division. -/
def ptOf (nodes rows workers : Int) (k : Nat) : Pt := ⟨k * nodes / workers, (k + 1) * nodes / workers, k * rows / workers, (k + 1) * rows / workers⟩
def ptsOf (nodes rows workers : Int) (n : Nat) : List Pt := (List.range n).map (ptOf nodes rows workers)
theorem parts_of_division {w : World} {base g cap n : Nat} {nodes rows workers : Int} (h : w.ownsRow base 28 4 (.slice (some ⟨g, 0, none⟩) n cap) n (partsTo nodes rows workers n)) : PartsAt w g 0 (ptsOf nodes rows workers n) := by
  have hc := cellsAt_of_own h
  refine ⟨?_, ?_, ?_, ?_⟩ <;> intro k hk <;> simp [ptsOf] at hk <;> simp [ptsOf, ptOf]
  · exact hc _ _ (partsTo_get nodes rows workers n k hk 0 (by omega))
  · exact hc _ _ (partsTo_get nodes rows workers n k hk 1 (by omega))
  · exact hc _ _ (partsTo_get nodes rows workers n k hk 2 (by omega))
  · exact hc _ _ (partsTo_get nodes rows workers n k hk 3 (by omega))

/-- THE PLAIN LAW of a division: its parts are a division. -/
theorem count_run (f : Nat → Int) (hf : ∀ i, f i ≤ f (i + 1)) (k : Int) : ∀ n, ((List.range n).map fun i => (f i, f (i + 1))).countP (inR k) = if f 0 ≤ k ∧ k < f n then 1 else 0
  | 0 => by simp <;> omega
  | n + 1 => by
    have ih := count_run f hf k n
    have mono : ∀ m, f 0 ≤ f m := fun m => by
      induction m with
      | zero => exact Int.le_refl _
      | succ m ih => exact Int.le_trans ih (hf m)
    have h0 := mono n
    have h1 := hf n
    rw [List.range_succ, List.map_append, List.countP_append, ih, List.map_cons, List.map_nil, List.countP_singleton]
    by_cases h2 : k < f n
    · rw [if_neg (show ¬ inR k (f n, f (n + 1)) = true by simp [inR]; omega)]
      by_cases h3 : f 0 ≤ k
      · rw [if_pos ⟨h3, h2⟩, if_pos ⟨h3, by omega⟩]
      · rw [if_neg (by omega), if_neg (by omega)]
    · rw [if_neg (by omega)]
      by_cases h3 : k < f (n + 1)
      · rw [if_pos (by simp [inR]; omega), if_pos (by omega)]
      · rw [if_neg (by simp [inR]; omega), if_neg (by omega)]
theorem run_divides (a m : Int) (n : Nat) (ha : 0 ≤ a) (hm : m = n) (hn : 1 ≤ n) : Divides ((List.range n).map fun i : Nat => ((i : Int) * a / m, ((i + 1 : Nat) : Int) * a / m)) a := by
  have hmono : ∀ i : Nat, (i : Int) * a / m ≤ ((i + 1 : Nat) : Int) * a / m := fun i => by
    refine Int.ediv_le_ediv (by omega) ?_
    exact Int.mul_le_mul_of_nonneg_right (by omega) ha
  have e0 : ((0 : Nat) : Int) * a / m = 0 := by simp
  have en : ((n : Nat) : Int) * a / m = a := by rw [hm]; exact Int.mul_ediv_cancel_left _ (by omega)
  constructor
  · intro r hr
    obtain ⟨i, hi, rfl⟩ := List.mem_map.1 hr
    have hin : i < n := List.mem_range.1 hi
    refine ⟨Int.ediv_nonneg (Int.mul_nonneg (by omega) ha) (by omega), hmono i, ?_⟩
    have : ((i + 1 : Nat) : Int) * a / m ≤ ((n : Nat) : Int) * a / m := Int.ediv_le_ediv (by omega) (Int.mul_le_mul_of_nonneg_right (by omega) ha)
    show ((i + 1 : Nat) : Int) * a / m ≤ a
    omega
  · intro k h1 h2
    rw [count_run (fun i : Nat => (i : Int) * a / m) hmono k n]
    exact if_pos ⟨by show ((0 : Nat) : Int) * a / m ≤ k; omega, by show k < ((n : Nat) : Int) * a / m; omega⟩
theorem division_ok {nodes rows workers : Int} (h : DivOk nodes rows workers) : checkB (ptsOf nodes rows workers workers.toNat) nodes rows = true := by
  obtain ⟨h1, h2, h3, h4, h5, h6⟩ := h
  have di : ∀ d n, dividesB d n = true ↔ Divides d n := fun d n => by simp [dividesB]
  unfold checkB
  rw [Bool.and_eq_true, di, di]
  constructor
  · have := run_divides nodes workers workers.toNat h1 (by omega) (by omega)
    rw [ptsOf, List.map_map]
    exact this
  · have := run_divides rows workers workers.toNat h3 (by omega) (by omega)
    rw [ptsOf, List.map_map]
    exact this
end Go.Proofs.Ytgemfgfhdbkgfaa
