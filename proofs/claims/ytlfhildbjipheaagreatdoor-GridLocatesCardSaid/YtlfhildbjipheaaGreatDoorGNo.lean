import Derived.Test.YtlfhildbjipheaaGreatDoorKPrec
import Derived.Test.YtlfhildbjipheaaGreatDoorGridL
import Derived.Test.YtlfhildbjipheaaGreatDoorKRefB
import Derived.Test.YtlfhildbjipheaaGreatDoorListP
import Derived.Test.YtlfhildbjipheaaGreatDoorRd
set_option linter.unusedSimpArgs false
set_option linter.unusedVariables false
namespace Go.Proofs.YtlfhildbjipheaaGreatDoor
open Go.RowKit Go.Grid Go.Maps Go.Sort Go.Shelf

/-! The lists of the grid: frequencies that do not exist; cells; neighbours. -/
set_option maxRecDepth 100000
theorem gnodes_no (n : Int) (h : ¬ (1 ≤ n ∧ n ≤ 8)) (w : World) : Calls Tryz.prog 9 #[.int .i64 n] w fun e w' => e = .returned (.tuple #[.slice none 0 0, .int .i64 1]) ∧ w = w' := by
  go_enter Tryz.func9, Tryz.ntmps9
  go_wp2_with fail
  refine (freq_any n _).mono ?_
  rintro e w1 ⟨rfl, rfl⟩
  rw [freqB_f h]
  go_wp2
  go_ret2
  exact ⟨rfl, rfl⟩
theorem gcells_no (n : Int) (h : ¬ (1 ≤ n ∧ n ≤ 8)) (w : World) : Calls Tryz.prog 11 #[.int .i64 n] w fun e w' => e = .returned (.tuple #[.slice none 0 0, .int .i64 1]) ∧ w = w' := by
  go_enter Tryz.func11, Tryz.ntmps11
  go_wp2_with fail
  refine (freq_any n _).mono ?_
  rintro e w1 ⟨rfl, rfl⟩
  rw [freqB_f h]
  go_wp2
  go_ret2
  exact ⟨rfl, rfl⟩
theorem gedges_no (n : Int) (h : ¬ (1 ≤ n ∧ n ≤ 8)) (w : World) : Calls Tryz.prog 13 #[.int .i64 n] w fun e w' => e = .returned (.tuple #[.slice none 0 0, .int .i64 1]) ∧ w = w' := by
  go_enter Tryz.func13, Tryz.ntmps13
  go_wp2_with fail
  refine (freq_any n _).mono ?_
  rintro e w1 ⟨rfl, rfl⟩
  rw [freqB_f h]
  go_wp2
  go_ret2
  exact ⟨rfl, rfl⟩
/-- grid.Cells at a frequency that exists. -/
theorem gcells_at (n : Nat) (h1 : 1 ≤ n) (h2 : n ≤ 8) (w : World) (hT : HasTab w) : Calls Tryz.prog 11 #[.int .i64 n] w fun e w' => ∃ b cap, e = .returned (.tuple #[.slice (some ⟨b, 0, none⟩) (cellsS n).length cap, .int .i64 0]) ∧ (cellsS n).length ≤ cap ∧ HoldsK enc3 3 w' b 0 (cellsS n).toArray ∧ w.heap.size ≤ b ∧ Below w.heap.size w w' := by
  go_enter Tryz.func11, Tryz.ntmps11
  go_wp2_with fail
  refine (freq_any n _).mono ?_
  rintro e w1 ⟨rfl, rfl⟩
  rw [freqB_t (show 1 ≤ (n : Int) ∧ (n : Int) ≤ 8 by omega)]
  go_wp2_with fail
  refine (build_any n h1 h2 _ hT).mono ?_
  rintro e w2 ⟨rfl, hN, hb⟩
  obtain ⟨b, cap, e5, hc, hP, hgb⟩ := hN.cells
  have HK := Lib.hid (And.intro hc (And.intro hP (And.intro hgb hb)))
  clear hN hc hP hgb hb
  go_wp2
  go_ret2
  obtain ⟨hc, hP, hgb, hb⟩ := HK.out
  exact ⟨b, cap, rfl, hc, hP, by omega, hb⟩

/-- A node of a frequency. -/
def NodeI (n i : Int) : Prop := 0 ≤ i ∧ i < countI n
instance (n i : Int) : Decidable (NodeI n i) := by unfold NodeI; infer_instance
theorem countI_none {n : Int} (h : ¬ (1 ≤ n ∧ n ≤ 8)) : countI n = 0 := by unfold countI; rw [if_neg h]
theorem nodeI_freq {n i : Int} (h : NodeI n i) : 1 ≤ n ∧ n ≤ 8 := by
  by_cases hn : 1 ≤ n ∧ n ≤ 8
  · exact hn
  · have := countI_none hn
    unfold NodeI at h
    omega
theorem nodeI_nat {n i : Int} (h : NodeI n i) : ∃ m j : Nat, n = m ∧ i = j ∧ 1 ≤ m ∧ m ≤ 8 ∧ j < (nodesL m).length := by
  have hn := nodeI_freq h
  have hn1 : 1 ≤ n.toNat := by omega
  have hn8 : n.toNat ≤ 8 := by omega
  have e : n = (n.toNat : Int) := by omega
  refine ⟨n.toNat, i.toNat, e, by unfold NodeI at h; omega, hn1, hn8, ?_⟩
  rw [nodes_len hn1 hn8]
  unfold NodeI at h
  rw [e, (countI_nat hn1 hn8).1] at h
  have e2 : (10 : Int) * (n.toNat : Int) * (n.toNat : Int) = ((10 * n.toNat * n.toNat : Nat) : Int) := by push_cast; rfl
  omega
def nodeB (n i : Int) : Bool := decide (NodeI n i)
/-- grid.node -/
theorem gnode_any (n i : Int) (w : World) : Calls Tryz.prog 54 #[.int .i64 n, .int .i64 i] w fun e w' => e = .returned (.bool (nodeB n i)) ∧ w = w' := by
  by_cases h : 1 ≤ n ∧ n ≤ 8
  · by_cases h0 : 0 ≤ i
    · have HD : Hid (nodeB n i = decide (i < countI n)) := Lib.hid (show decide (NodeI n i) = _ from decide_eq_decide.2 (by unfold NodeI; omega))
      go_enter Tryz.func54, Tryz.ntmps54
      go_wp2_with fail
      refine (freq_any n _).mono ?_
      rintro e w1 ⟨rfl, rfl⟩
      rw [freqB_t h]
      go_wp2_with fail
      refine (count_any n _).mono ?_
      rintro e w1 ⟨rfl, rfl⟩
      generalize countI n = c at *
      go_wp2
      go_ret
      rw [HD.out]; exact ⟨rfl, rfl⟩
    · have HD : Hid (nodeB n i = false) := Lib.hid (show decide (NodeI n i) = false from decide_eq_false (by unfold NodeI; omega))
      go_enter Tryz.func54, Tryz.ntmps54
      go_wp2_with fail
      refine (freq_any n _).mono ?_
      rintro e w1 ⟨rfl, rfl⟩
      rw [freqB_t h]
      go_wp2
      go_ret
      rw [HD.out]; exact ⟨rfl, rfl⟩
  · have HD : Hid (nodeB n i = false) := Lib.hid (show decide (NodeI n i) = false from decide_eq_false (by have := countI_none h; unfold NodeI; omega))
    go_enter Tryz.func54, Tryz.ntmps54
    go_wp2_with fail
    refine (freq_any n _).mono ?_
    rintro e w1 ⟨rfl, rfl⟩
    rw [freqB_f h]
    go_wp2
    go_ret
    rw [HD.out]; exact ⟨rfl, rfl⟩

/-! ### Neighbours -/
theorem next_in {n i : Nat} (h1 : 1 ≤ n) (h8 : n ≤ 8) {x : Int} (h : x ∈ nextL n i) : 0 ≤ x ∧ x < (nodesL n).length := by
  obtain ⟨e, he, h⟩ := mem_next.1 h
  have h5 := edges_in h1 h8 e he
  rcases h with ⟨_, rfl⟩ | ⟨_, rfl⟩ <;> omega
theorem strict_len : ∀ {l : List Int} {a b : Int}, l.Pairwise (· < ·) → (∀ x ∈ l, a ≤ x ∧ x < b) → a ≤ b → (l.length : Int) ≤ b - a
  | [], a, b, _, _, h => by simp; omega
  | x :: l, a, b, hp, hb, h => by
    have h3 := hb x (by simp)
    have h4 := strict_len (l := l) (a := x + 1) (b := b) (List.pairwise_cons.1 hp).2 (fun y hy => ⟨by have := (List.pairwise_cons.1 hp).1 y hy; omega, (hb y (by simp [hy])).2⟩) (by omega)
    simp only [List.length_cons]; push_cast; omega
theorem next_len {n : Nat} (h1 : 1 ≤ n) (h8 : n ≤ 8) (i : Nat) : (nextL n i).length ≤ 700 := by
  have h3 := strict_len (next_strict h1 h8 i) (fun x hx => next_in h1 h8 hx) (by omega)
  have h4 : (nodesL n).length ≤ 642 := by
    rw [nodes_len h1 h8]
    have := Nat.mul_le_mul (show 10 * n ≤ 80 by omega) h8
    omega
  omega
theorem RdI.of_row {w : World} {v : Value} {zs : List Int} (h : RowI w v zs) : RdI w v zs := by
  obtain ⟨p, cap, b, h1, h2, h3, h4⟩ := h
  exact ⟨p, cap, h1, h2, b, 0, fun h => (h3 h).1, fun j hj => (h4 j hj).1⟩
theorem NextR.row {w : World} {N M base a : Nat} {ls : Nat → List Int} (h : NextR w N M base ls) (ha : a < M) : ∃ v, w.cell? ⟨N, a, none⟩ = some v ∧ RdI w v (ls a) := by
  obtain ⟨vs, h1, h2, _⟩ := h
  exact ⟨vs a, h1.cell ha, RdI.of_row (h2 a ha).1⟩
set_option maxHeartbeats 1000000 in
/-- grid.Neighbours of a node. -/
theorem gneigh_any (n i : Nat) (h1 : 1 ≤ n) (h8 : n ≤ 8) (hi : i < (nodesL n).length) (w : World) (hT : HasTab w) : Calls Tryz.prog 16 #[.int .i64 n, .int .i64 i] w fun e w' => ∃ v, e = .returned (.tuple #[v, .int .i64 0]) ∧ RdI w' v (nextL n i) ∧ Below w.heap.size w w' := by
  have hB : nodeB n i = true := by
    refine decide_eq_true ⟨by omega, ?_⟩
    rw [(countI_nat h1 h8).1]
    rw [nodes_len h1 h8] at hi
    have e2 : (10 : Int) * (n : Int) * (n : Int) = ((10 * n * n : Nat) : Int) := by push_cast; rfl
    omega
  go_enter Tryz.func16, Tryz.ntmps16
  go_wp2_with fail
  refine (gnode_any n i _).mono ?_
  rintro e w1 ⟨rfl, rfl⟩
  rw [hB]
  go_wp2_with fail
  refine (build_any n h1 h8 _ hT).mono ?_
  rintro e w2 ⟨rfl, hN, hb⟩
  obtain ⟨N, e6, hR, hgN⟩ := hN.next
  obtain ⟨v, hv, hrow⟩ := hR.row hi
  generalize (nodesL n).length = M at *
  have HK := Lib.hid (And.intro hrow hb)
  clear hN hR hrow hb hT
  go_wp2
  go_ret2
  obtain ⟨hrow, hb⟩ := HK.out
  exact ⟨v, rfl, hrow, hb⟩
theorem gneigh_no (n i : Int) (h : ¬ NodeI n i) (w : World) : Calls Tryz.prog 16 #[.int .i64 n, .int .i64 i] w fun e w' => e = .returned (.tuple #[.slice none 0 0, .int .i64 1]) ∧ w = w' := by
  have hB : nodeB n i = false := decide_eq_false h
  go_enter Tryz.func16, Tryz.ntmps16
  go_wp2_with fail
  refine (gnode_any n i _).mono ?_
  rintro e w1 ⟨rfl, rfl⟩
  rw [hB]
  go_wp2
  go_ret2
  exact ⟨rfl, rfl⟩
end Go.Proofs.YtlfhildbjipheaaGreatDoor
