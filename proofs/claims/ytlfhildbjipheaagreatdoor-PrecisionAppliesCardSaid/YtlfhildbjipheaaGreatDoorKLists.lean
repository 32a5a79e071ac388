import Derived.Test.YtlfhildbjipheaaGreatDoorKPrec
import Derived.Test.YtlfhildbjipheaaGreatDoorGridL
import Derived.Test.YtlfhildbjipheaaGreatDoorKRefB
import Derived.Test.YtlfhildbjipheaaGreatDoorListP
import Derived.Test.YtlfhildbjipheaaGreatDoorKCopy
import Derived.Test.YtlfhildbjipheaaGreatDoorKRLists
set_option linter.unusedSimpArgs false
set_option linter.unusedVariables false
namespace Go.Proofs.YtlfhildbjipheaaGreatDoor
open Go.RowKit Go.Grid Go.Maps Go.Sort Go.Shelf

/-! The lists of the grid: frequencies that do not exist; cells; neighbours. -/
set_option maxRecDepth 100000
theorem gnodes_no (n : Int) (h : ¬ (1 ≤ n ∧ n ≤ 8)) (w : World) : Calls Tryz.prog 9 #[.int .i64 n] w fun e w' => e = .returned (.tuple #[.slice none 0 0, .int .i64 1]) ∧ w = w' := by
  go_enter Tryz.func9, Tryz.ntmps9
  go_wp2_with fail
  refine (freq_any n _).mono ?_
  rintro e w1 ⟨rfl, rfl⟩
  rw [freqB_f h]
  go_wp2
  go_ret2
  exact ⟨rfl, rfl⟩
theorem gcells_no (n : Int) (h : ¬ (1 ≤ n ∧ n ≤ 8)) (w : World) : Calls Tryz.prog 11 #[.int .i64 n] w fun e w' => e = .returned (.tuple #[.slice none 0 0, .int .i64 1]) ∧ w = w' := by
  go_enter Tryz.func11, Tryz.ntmps11
  go_wp2_with fail
  refine (freq_any n _).mono ?_
  rintro e w1 ⟨rfl, rfl⟩
  rw [freqB_f h]
  go_wp2
  go_ret2
  exact ⟨rfl, rfl⟩
theorem gedges_no (n : Int) (h : ¬ (1 ≤ n ∧ n ≤ 8)) (w : World) : Calls Tryz.prog 13 #[.int .i64 n] w fun e w' => e = .returned (.tuple #[.slice none 0 0, .int .i64 1]) ∧ w = w' := by
  go_enter Tryz.func13, Tryz.ntmps13
  go_wp2_with fail
  refine (freq_any n _).mono ?_
  rintro e w1 ⟨rfl, rfl⟩
  rw [freqB_f h]
  go_wp2
  go_ret2
  exact ⟨rfl, rfl⟩
/-- grid.Cells at a frequency that exists. -/
theorem gcells_at (n : Nat) (h1 : 1 ≤ n) (h2 : n ≤ 8) (w : World) (hT : HasTab w) : Calls Tryz.prog 11 #[.int .i64 n] w fun e w' => ∃ b cap, e = .returned (.tuple #[.slice (some ⟨b, 0, none⟩) (cellsS n).length cap, .int .i64 0]) ∧ (cellsS n).length ≤ cap ∧ HoldsK enc3 3 w' b 0 (cellsS n).toArray ∧ w.heap.size ≤ b ∧ Below w.heap.size w w' := by
  go_enter Tryz.func11, Tryz.ntmps11
  go_wp2_with fail
  refine (freq_any n _).mono ?_
  rintro e w1 ⟨rfl, rfl⟩
  rw [freqB_t (show 1 ≤ (n : Int) ∧ (n : Int) ≤ 8 by omega)]
  go_wp2_with fail
  refine (build_any n h1 h2 _ hT).mono ?_
  rintro e w2 ⟨rfl, hN, hb⟩
  obtain ⟨b, cap, e5, hc, hP, hgb⟩ := hN.cells
  have HK := Lib.hid (And.intro hc (And.intro hP (And.intro hgb hb)))
  clear hN hc hP hgb hb
  go_wp2
  go_ret2
  obtain ⟨hc, hP, hgb, hb⟩ := HK.out
  exact ⟨b, cap, rfl, hc, hP, by omega, hb⟩

/-- A node of a frequency. -/
def NodeI (n i : Int) : Prop := 0 ≤ i ∧ i < countI n
instance (n i : Int) : Decidable (NodeI n i) := by unfold NodeI; infer_instance
theorem countI_none {n : Int} (h : ¬ (1 ≤ n ∧ n ≤ 8)) : countI n = 0 := by unfold countI; rw [if_neg h]
theorem nodeI_freq {n i : Int} (h : NodeI n i) : 1 ≤ n ∧ n ≤ 8 := by
  by_cases hn : 1 ≤ n ∧ n ≤ 8
  · exact hn
  · have := countI_none hn
    unfold NodeI at h
    omega
theorem nodeI_nat {n i : Int} (h : NodeI n i) : ∃ m j : Nat, n = m ∧ i = j ∧ 1 ≤ m ∧ m ≤ 8 ∧ j < (nodesL m).length := by
  have hn := nodeI_freq h
  have hn1 : 1 ≤ n.toNat := by omega
  have hn8 : n.toNat ≤ 8 := by omega
  have e : n = (n.toNat : Int) := by omega
  refine ⟨n.toNat, i.toNat, e, by unfold NodeI at h; omega, hn1, hn8, ?_⟩
  rw [nodes_len hn1 hn8]
  unfold NodeI at h
  rw [e, (countI_nat hn1 hn8).1] at h
  have e2 : (10 : Int) * (n.toNat : Int) * (n.toNat : Int) = ((10 * n.toNat * n.toNat : Nat) : Int) := by push_cast; rfl
  omega
def nodeB (n i : Int) : Bool := decide (NodeI n i)
/-- grid.node -/
theorem gnode_any (n i : Int) (w : World) : Calls Tryz.prog 54 #[.int .i64 n, .int .i64 i] w fun e w' => e = .returned (.bool (nodeB n i)) ∧ w = w' := by
  by_cases h : 1 ≤ n ∧ n ≤ 8
  · by_cases h0 : 0 ≤ i
    · have HD : Hid (nodeB n i = decide (i < countI n)) := Lib.hid (show decide (NodeI n i) = _ from decide_eq_decide.2 (by unfold NodeI; omega))
      go_enter Tryz.func54, Tryz.ntmps54
      go_wp2_with fail
      refine (freq_any n _).mono ?_
      rintro e w1 ⟨rfl, rfl⟩
      rw [freqB_t h]
      go_wp2_with fail
      refine (count_any n _).mono ?_
      rintro e w1 ⟨rfl, rfl⟩
      generalize countI n = c at *
      go_wp2
      go_ret
      rw [HD.out]; exact ⟨rfl, rfl⟩
    · have HD : Hid (nodeB n i = false) := Lib.hid (show decide (NodeI n i) = false from decide_eq_false (by unfold NodeI; omega))
      go_enter Tryz.func54, Tryz.ntmps54
      go_wp2_with fail
      refine (freq_any n _).mono ?_
      rintro e w1 ⟨rfl, rfl⟩
      rw [freqB_t h]
      go_wp2
      go_ret
      rw [HD.out]; exact ⟨rfl, rfl⟩
  · have HD : Hid (nodeB n i = false) := Lib.hid (show decide (NodeI n i) = false from decide_eq_false (by have := countI_none h; unfold NodeI; omega))
    go_enter Tryz.func54, Tryz.ntmps54
    go_wp2_with fail
    refine (freq_any n _).mono ?_
    rintro e w1 ⟨rfl, rfl⟩
    rw [freqB_f h]
    go_wp2
    go_ret
    rw [HD.out]; exact ⟨rfl, rfl⟩

/-! ### Neighbours -/
theorem next_in {n i : Nat} (h1 : 1 ≤ n) (h8 : n ≤ 8) {x : Int} (h : x ∈ nextL n i) : 0 ≤ x ∧ x < (nodesL n).length := by
  obtain ⟨e, he, h⟩ := mem_next.1 h
  have h5 := edges_in h1 h8 e he
  rcases h with ⟨_, rfl⟩ | ⟨_, rfl⟩ <;> omega
theorem strict_len : ∀ {l : List Int} {a b : Int}, l.Pairwise (· < ·) → (∀ x ∈ l, a ≤ x ∧ x < b) → a ≤ b → (l.length : Int) ≤ b - a
  | [], a, b, _, _, h => by simp; omega
  | x :: l, a, b, hp, hb, h => by
    have h3 := hb x (by simp)
    have h4 := strict_len (l := l) (a := x + 1) (b := b) (List.pairwise_cons.1 hp).2 (fun y hy => ⟨by have := (List.pairwise_cons.1 hp).1 y hy; omega, (hb y (by simp [hy])).2⟩) (by omega)
    simp only [List.length_cons]; push_cast; omega
theorem next_len {n : Nat} (h1 : 1 ≤ n) (h8 : n ≤ 8) (i : Nat) : (nextL n i).length ≤ 700 := by
  have h3 := strict_len (next_strict h1 h8 i) (fun x hx => next_in h1 h8 hx) (by omega)
  have h4 : (nodesL n).length ≤ 642 := by
    rw [nodes_len h1 h8]
    have := Nat.mul_le_mul (show 10 * n ≤ 80 by omega) h8
    omega
  omega
theorem RdI.of_row {w : World} {v : Value} {zs : List Int} (h : RowI w v zs) : RdI w v zs := by
  obtain ⟨p, cap, b, h1, h2, h3, h4⟩ := h
  exact ⟨p, cap, h1, h2, b, 0, fun h => (h3 h).1, fun j hj => (h4 j hj).1⟩
theorem NextR.row {w : World} {N M base a : Nat} {ls : Nat → List Int} (h : NextR w N M base ls) (ha : a < M) : ∃ v, w.cell? ⟨N, a, none⟩ = some v ∧ RdI w v (ls a) := by
  obtain ⟨vs, h1, h2, _⟩ := h
  exact ⟨vs a, h1.cell ha, RdI.of_row (h2 a ha).1⟩
set_option maxHeartbeats 1000000 in
/-- grid.Neighbours of a node. -/
theorem gneigh_any (n i : Nat) (h1 : 1 ≤ n) (h8 : n ≤ 8) (hi : i < (nodesL n).length) (w : World) (hT : HasTab w) : Calls Tryz.prog 16 #[.int .i64 n, .int .i64 i] w fun e w' => ∃ v, e = .returned (.tuple #[v, .int .i64 0]) ∧ RdI w' v (nextL n i) ∧ Below w.heap.size w w' := by
  have hB : nodeB n i = true := by
    refine decide_eq_true ⟨by omega, ?_⟩
    rw [(countI_nat h1 h8).1]
    rw [nodes_len h1 h8] at hi
    have e2 : (10 : Int) * (n : Int) * (n : Int) = ((10 * n * n : Nat) : Int) := by push_cast; rfl
    omega
  go_enter Tryz.func16, Tryz.ntmps16
  go_wp2_with fail
  refine (gnode_any n i _).mono ?_
  rintro e w1 ⟨rfl, rfl⟩
  rw [hB]
  go_wp2_with fail
  refine (build_any n h1 h8 _ hT).mono ?_
  rintro e w2 ⟨rfl, hN, hb⟩
  obtain ⟨N, e6, hR, hgN⟩ := hN.next
  obtain ⟨v, hv, hrow⟩ := hR.row hi
  generalize (nodesL n).length = M at *
  have HK := Lib.hid (And.intro hrow hb)
  clear hN hR hrow hb hT
  go_wp2
  go_ret2
  obtain ⟨hrow, hb⟩ := HK.out
  exact ⟨v, rfl, hrow, hb⟩
theorem gneigh_no (n i : Int) (h : ¬ NodeI n i) (w : World) : Calls Tryz.prog 16 #[.int .i64 n, .int .i64 i] w fun e w' => e = .returned (.tuple #[.slice none 0 0, .int .i64 1]) ∧ w = w' := by
  have hB : nodeB n i = false := decide_eq_false h
  go_enter Tryz.func16, Tryz.ntmps16
  go_wp2_with fail
  refine (gnode_any n i _).mono ?_
  rintro e w1 ⟨rfl, rfl⟩
  rw [hB]
  go_wp2
  go_ret2
  exact ⟨rfl, rfl⟩
end Go.Proofs.YtlfhildbjipheaaGreatDoor

set_option linter.unusedSimpArgs false
set_option linter.unusedVariables false
namespace Go.Proofs.YtlfhildbjipheaaGreatDoor
open Go.RowKit Go.Grid Go.Maps Go.Sort Go.Shelf

theorem RdI.of_own {w : World} {base : Nat} {v : Value} {zs : List Int} (h : w.ownsRow base 3 1 v zs.length (zs.map (Value.int .i64))) : RdI w v zs := RdI.of_row (RowI.of_own h)
theorem AroAt.rd {w : World} {N M a : Nat} {ls : Nat → List Int} (h : AroAt w N M ls) (ha : a < M) : ∃ v, w.cell? ⟨N, a, none⟩ = some v ∧ RdI w v (ls a) := by
  obtain ⟨vs, h1, h2⟩ := h
  exact ⟨vs a, h1.cell ha, RdI.of_own (h2 a ha)⟩
theorem nodeI_not {n i : Int} (h : ¬ NodeI n i) : i < 0 ∨ 0 ≤ i ∧ countI n ≤ i := by unfold NodeI at h; omega

set_option maxRecDepth 100000
set_option maxHeartbeats 1000000 in
/-- ref03.Neighbours of a node. -/
theorem rneigh_any (n i : Nat) (h1 : 1 ≤ n) (h8 : n ≤ 8) (hi : i < (nodesL n).length) (w : World) : Calls Tryz.prog 17 #[.int .i64 n, .int .i64 i] w fun e w' => ∃ v, e = .returned (.tuple #[v, .int .i64 0]) ∧ RdI w' v (nextL n i) ∧ Below w.heap.size w w' := by
  have hc : ∃ c : Int, c = countI n ∧ (i : Int) < c := by
    refine ⟨_, rfl, ?_⟩
    rw [(countI_nat h1 h8).1]
    rw [nodes_len h1 h8] at hi
    have e2 : (10 : Int) * (n : Int) * (n : Int) = ((10 * n * n : Nat) : Int) := by push_cast; rfl
    omega
  obtain ⟨c, hc, hic⟩ := hc
  have HC := Lib.hid hc
  clear hc
  go_enter Tryz.func17, Tryz.ntmps17
  go_wp2_with fail
  refine (rcount_any n _).mono ?_
  rintro e w1 ⟨rfl, rfl⟩
  rw [← HC.out]
  go_wp2_with fail
  refine (raround_any n h1 h8 _).mono ?_
  rintro e w2 ⟨N, rfl, hA, hN, hb⟩
  obtain ⟨v, hv, hrow⟩ := hA.rd hi
  generalize (nodesL n).length = M at *
  have HK := Lib.hid (And.intro hrow hb)
  clear hA hrow hb
  go_wp2
  go_ret2
  obtain ⟨hrow, hb⟩ := HK.out
  exact ⟨v, rfl, hrow, hb⟩
theorem rneigh_no (n i : Int) (h : ¬ NodeI n i) (w : World) : Calls Tryz.prog 17 #[.int .i64 n, .int .i64 i] w fun e w' => e = .returned (.tuple #[.slice none 0 0, .int .i64 1]) ∧ w = w' := by
  rcases nodeI_not h with h0 | ⟨h0, h1⟩
  · go_enter Tryz.func17, Tryz.ntmps17
    go_wp2
    go_ret2
    exact ⟨rfl, rfl⟩
  · go_enter Tryz.func17, Tryz.ntmps17
    go_wp2_with fail
    refine (rcount_any n _).mono ?_
    rintro e w1 ⟨rfl, rfl⟩
    generalize countI n = c at *
    go_wp2
    go_ret2
    exact ⟨rfl, rfl⟩
theorem redges_no (n : Int) (h : ¬ (1 ≤ n ∧ n ≤ 8)) (w : World) : Calls Tryz.prog 14 #[.int .i64 n] w fun e w' => e = .returned (.tuple #[.slice none 0 0, .int .i64 1]) ∧ w = w' := by
  have HCE := Lib.hid (countI_none h)
  go_enter Tryz.func14, Tryz.ntmps14
  go_wp2_with fail
  refine (rcount_any n _).mono ?_
  rintro e w1 ⟨rfl, rfl⟩
  rw [HCE.out]
  go_wp2
  exact bodyPost_ret (v := .tuple #[.slice none 0 0, .int .i64 1]) (by simp [results, Tryz.results14, go_sem]) rfl ⟨rfl, rfl⟩

/-! ### Rows of edges -/
theorem elEdge : RX.ElemOf Tryz.prog 35 39 (.agg #[.int .i64 0, .int .i64 0]) 2 16 := ⟨Tryz.underlying35, by kernel_rfl, rfl, by decide⟩
/-- A row of edges that a call has made. -/
def EdRow (w : World) (base : Nat) (v : Value) (E : List I2) : Prop := w.ownsRow base 39 2 v E.length (E.flatMap enc2)
theorem EdRow.nil (w : World) (base : Nat) : EdRow w base (.slice none 0 0) [] := World.ownsRow_nil _ _ _ _
theorem EdRow.kept {w w' : World} {base : Nat} {v : Value} {E : List I2} (h : EdRow w base v E) (hb : Below w.heap.size w w') : EdRow w' base v E := own_below h hb
theorem EdRow.mono {w : World} {base base' : Nat} {v : Value} {E : List I2} (h : EdRow w base v E) (hb : base' ≤ base) : EdRow w base' v E := own_mono h hb
theorem EdRow.snoc {w : World} {base : Nat} {v : Value} {E : List I2} {a b : Int} (h : w.ownsRow base 39 2 v (E.length + 1) (E.flatMap enc2 ++ [.int .i64 a, .int .i64 b])) : EdRow w base v (E ++ [(a, b)]) := by
  unfold EdRow; rw [List.flatMap_append, List.length_append]; exact h
theorem enc2_get : ∀ (C : List I2) (m : Nat) (h : m < C.length) (j : Nat), j < 2 → (C.flatMap enc2)[m * 2 + j]? = (enc2 C[m])[j]?
  | p :: L, 0, h, j, hj => by
    simp only [List.flatMap_cons, Nat.zero_mul, Nat.zero_add]
    rw [List.getElem?_append_left (by simp [enc2]; omega)]; rfl
  | p :: L, m + 1, h, j, hj => by
    have ih := enc2_get L m (by simpa using h) j hj
    simp only [List.flatMap_cons]
    rw [List.getElem?_append_right (by simp [enc2]; omega), show (m + 1) * 2 + j - (enc2 p).length = m * 2 + j by simp [enc2]; omega, ih]; rfl
/-- Edges that lie in a block. -/
def EdsAt (w : World) (b : Nat) (C : List I2) : Prop := ∀ k (h : k < C.length), w.cell? ⟨b, k * 2, none⟩ = some (.int .i64 C[k].1) ∧ w.cell? ⟨b, k * 2 + 1, none⟩ = some (.int .i64 C[k].2)
theorem EdRow.form {w : World} {base : Nat} {v : Value} {C : List I2} (h : EdRow w base v C) : ∃ p cap b, v = .slice p C.length cap ∧ C.length ≤ cap ∧ (0 < C.length → p = some ⟨b, 0, none⟩ ∧ base ≤ b ∧ b < w.heap.size) ∧ EdsAt w b C := by
  rcases Nat.eq_zero_or_pos C.length with h0 | h0
  · obtain ⟨p, cap, rfl, hc⟩ := own_slice h
    exact ⟨p, cap, 0, rfl, hc, fun hh => by omega, fun j hj => by omega⟩
  · obtain ⟨g, cap, cur, rfl, hc, hb, hg⟩ := own_some h h0
    refine ⟨_, cap, g, rfl, hc, fun _ => ⟨rfl, hb, (World.ownsRow.lt h g rfl).2⟩, fun j hj => ?_⟩
    have key : ∀ i, i < 2 → w.cell? ⟨g, j * 2 + i, none⟩ = (enc2 C[j])[i]? := fun i hi => by
      rw [World.ownsRow.cellAt h (j * 2 + i) (by omega), ← enc2_get C j hj i hi]
    exact ⟨key 0 (by omega), key 1 (by omega)⟩
/-- The edges so far. -/
def eSo (ls : Nat → List Int) (a m : Nat) : List I2 := eTo ls a ++ (((ls a).take m).filter (fun b => decide ((a : Int) < b))).map (fun b => ((a : Int), b))
theorem eSo_zero (ls : Nat → List Int) (a : Nat) : eSo ls a 0 = eTo ls a := by simp [eSo]
theorem eSo_end (ls : Nat → List Int) (a : Nat) : eSo ls a (ls a).length = eTo ls (a + 1) := by rw [eTo_succ, eSo, List.take_length]; rfl
theorem eSo_yes {ls : Nat → List Int} {a m : Nat} (hm : m < (ls a).length) (h : (a : Int) < (ls a)[m]) : eSo ls a (m + 1) = eSo ls a m ++ [((a : Int), (ls a)[m])] := by
  unfold eSo
  rw [List.take_succ_eq_append_getElem hm, List.filter_append, List.map_append, ← List.append_assoc]
  simp [h]
theorem eSo_no {ls : Nat → List Int} {a m : Nat} (hm : m < (ls a).length) (h : ¬ (a : Int) < (ls a)[m]) : eSo ls a (m + 1) = eSo ls a m := by
  unfold eSo
  rw [List.take_succ_eq_append_getElem hm, List.filter_append, List.map_append]
  simp [h]
theorem eTo_len (ls : Nat → List Int) (hl : ∀ i, (ls i).length ≤ 700) : ∀ k, (eTo ls k).length ≤ 700 * k
  | 0 => by simp [eTo]
  | k + 1 => by
    have ih := eTo_len ls hl k
    have h2 := List.length_filter_le (fun b => decide (((k : Nat) : Int) < b)) (ls k)
    have := hl k
    rw [eTo_succ, List.length_append, eRow, List.length_map]; omega
theorem eSo_len (ls : Nat → List Int) (hl : ∀ i, (ls i).length ≤ 700) (a m : Nat) : (eSo ls a m).length ≤ 700 * a + 700 := by
  have h1 := eTo_len ls hl a
  have h2 := List.length_filter_le (fun b => decide (((a : Nat) : Int) < b)) ((ls a).take m)
  have h3 := hl a
  rw [List.length_take] at h2
  rw [eSo, List.length_append, List.length_map]; omega

theorem nodes_max {n : Nat} (h1 : 1 ≤ n) (h8 : n ≤ 8) : (nodesL n).length ≤ 642 := by
  rw [nodes_len h1 h8]
  have := Nat.mul_le_mul (show 10 * n ≤ 80 by omega) h8
  omega
set_option maxHeartbeats 2000000 in
/-- ref03.Edges -/
theorem redges_any (n : Nat) (h1 : 1 ≤ n) (h8 : n ≤ 8) (w : World) : Calls Tryz.prog 14 #[.int .i64 n] w fun e w' => ∃ v, e = .returned (.tuple #[v, .int .i64 0]) ∧ EdRow w' w.heap.size v (edgesL n) ∧ Below w.heap.size w w' := by
  obtain ⟨c, hcE, hc0⟩ : ∃ c : Int, countI n = c ∧ (c == 0) = false := ⟨_, rfl, (countI_nat h1 h8).2.1⟩
  have HCE := Lib.hid hcE
  clear hcE
  have HE : Hid (eTo (nextL n) (nodesL n).length = edgesL n) := Lib.hid (edges_rows h1 h8)
  have HL : Hid (∀ i, (nextL n i).length ≤ 700) := Lib.hid (fun i => next_len h1 h8 i)
  have hM := nodes_max h1 h8
  go_enter Tryz.func14, Tryz.ntmps14
  go_wp2_with fail
  refine (rcount_any n _).mono ?_
  rintro e w1 ⟨rfl, rfl⟩
  rw [HCE.out]
  go_wp2_with fail
  refine (raround_any n h1 h8 _).mono ?_
  rintro e w2 ⟨N, rfl, hA, hN, hb⟩
  generalize (nodesL n).length = M at *
  generalize nextL n = ls at *
  have HA := Lib.hid hA
  have hNl := hA.lt
  have hsz := hb.size
  have HB := Lib.hid hb
  clear hA hb h1 h8
  go_wp2
  go_loopw [4, 6] (fun v i wr => ∃ a : Nat, a ≤ M ∧ i = .int .i64 a ∧ EdRow wr w2.heap.size v (eTo ls a) ∧ Below w2.heap.size w2 wr) (fun _ i _ => 700 - (intOf i).toNat)
  case atStart => exact ⟨0, by omega, rfl, EdRow.nil _ _, Below.refl _ _⟩
  case round =>
    obtain ⟨a, ha, rfl, hrow, hB⟩ := hrel
    by_cases hlta : a < M
    · have hda : decide ((a : Int) < (M : Int)) = true := decide_eq_true (by omega)
      obtain ⟨p, cap, b, hc, hf, hcap, hpb, hel, _, _⟩ := HA.out.row hlta
      replace hc := RX.keep hB hc
      replace hel := fun j hj => RX.keep hB (hel j hj)
      obtain ⟨n', hn'⟩ : ∃ n', n' = (ls a).length := ⟨_, rfl⟩
      rw [← hn'] at hc hcap hpb
      have hl7 := HL.out a
      rw [← hn'] at hl7
      have HN := Lib.hid hn'
      have hszB := hB.size
      have HEL := Lib.hid hel
      clear hn' hel hf
      go_wp2
      go_loopw [4, 25] (fun v i wx => ∃ m : Nat, m ≤ n' ∧ i = .int .i64 m ∧ EdRow wx w2.heap.size v (eSo ls a m) ∧ Below w2.heap.size w2 wx ∧ Hid (∀ j (hj : j < (ls a).length), wx.cell? ⟨b, j, none⟩ = some (.int .i64 (ls a)[j]))) (fun _ i _ => 701 - (intOf i).toNat)
      case atStart => exact ⟨0, by omega, rfl, by rw [eSo_zero]; exact hrow, hB, HEL⟩
      case round =>
        obtain ⟨m, hm, rfl, hrow1, hB1, HEL1⟩ := hrel
        clear hrow hB HEL
        by_cases hltm : m < n'
        · have hdm : decide ((m : Int) < (n' : Int)) = true := decide_eq_true (by omega)
          have hml : m < (ls a).length := by rw [← HN.out]; exact hltm
          obtain ⟨rfl, hb1, hb2⟩ := hpb (by omega)
          obtain ⟨x, hx⟩ : ∃ x, x = (ls a)[m] := ⟨_, rfl⟩
          have hxc := HEL1.out m hml
          rw [← hx] at hxc
          have hszB1 := hB1.size
          by_cases hax : (a : Int) < x
          · have HS : Hid (eSo ls a (m + 1) = eSo ls a m ++ [((a : Int), x)]) := Lib.hid (by rw [hx]; exact eSo_yes hml (by rw [← hx]; exact hax))
            have hlen := eSo_len ls HL.out a m
            obtain ⟨p2, cap2, rfl, hcap2⟩ := own_slice hrow1
            generalize eSo ls a m = E at *
            have hown := World.ownsRow.alloc hrow1 (.cells #[.int .i64 a, .int .i64 x] 39)
            have HX := Lib.hid hx
            clear hx hrow1
            have HB1 := Lib.hid hB1
            clear hB1
            go_wp2_with (refine RX.wpl_apq (by rfl) elEdge _ _ (by rfl) w2.heap.size _ _ _ hown (by rfl) wr.heap.size _ 1 (by rfl) (heap_alloc_new _ _) (by rfl) (by simp [Value.oneCell']) (by omega) (by omega) (by simp; omega) ?_; intro v' w5 hown5 hb6 hg6 hat6)
            have hb5 : Below w2.heap.size w2 w5 := (HB1.out.alloc (by omega) _).trans hb6
            have HR := Lib.hid (EdRow.snoc hown5)
            have HB5 := Lib.hid hb5
            have hlow : ∀ q, (Value.slice p2 E.length cap2).ownBlock = some q → w2.heap.size ≤ q := fun q hq => (World.ownsRow.lt hown q hq).1
            have HEL5 : Hid (∀ j (hj : j < (ls a).length), w5.cell? ⟨b, j, none⟩ = some (.int .i64 (ls a)[j])) := Lib.hid (fun j hj => by
              have h9 := RX.keep ((Below.refl wr.heap.size wr).alloc (Nat.le_refl _) (.cells #[.int .i64 a, .int .i64 x] 39)) (HEL1.out j hj)
              exact hg6.cell h9 (fun e => by have := hlow b e.symm; omega))
            clear hown5 hb6 hg6 hat6 hb5 hown hlow
            go_roundw
            case rel => exact ⟨m + 1, by omega, by go_num, by rw [HS.out]; exact HR.out, HB5.out, HEL5⟩
            case measure => simp [intOf]; omega
          · have HS : Hid (eSo ls a (m + 1) = eSo ls a m) := Lib.hid (by exact eSo_no hml (by rw [← hx]; exact hax))
            have HR := Lib.hid hrow1
            have HB1 := Lib.hid hB1
            clear hrow1 hB1 hx
            go_wp2
            go_roundw
            case rel => exact ⟨m + 1, by omega, by go_num, by rw [HS.out]; exact HR.out, HB1.out, HEL1⟩
            case measure => simp [intOf]; omega
        · have hdm : decide ((m : Int) < (n' : Int)) = false := decide_eq_false (by omega)
          have HR := Lib.hid hrow1
          have HB1 := Lib.hid hB1
          have hmn : m = n' := by omega
          have HMN := Lib.hid hmn
          clear hrow1 hB1 hmn
          go_wp2
          go_roundw
          case rel => exact ⟨a + 1, by omega, by go_num, by rw [← eSo_end, ← HN.out, ← HMN.out]; exact HR.out, HB1.out⟩
          case measure => simp [intOf]; omega
    · have hda : decide ((a : Int) < (M : Int)) = false := decide_eq_false (by omega)
      have haM : a = M := by omega
      have HAM := Lib.hid haM
      have HR := Lib.hid hrow
      have HB1 := Lib.hid hB
      clear haM hrow hB
      go_wp2
      go_ret2
      exact ⟨_, rfl, by rw [← HE.out, ← HAM.out]; exact HR.out.mono hsz, HB.out.trans (HB1.out.mono hsz)⟩
end Go.Proofs.YtlfhildbjipheaaGreatDoor

set_option linter.unusedSimpArgs false
set_option linter.unusedVariables false
namespace Go.Proofs.YtlfhildbjipheaaGreatDoor
open Go.RowKit Go.Grid Go.Maps Go.Sort Go.Shelf

/-! The lists of the grid, on both sides, for any frequency and any node. -/
def fErr (x : Int) : Int := if 1 ≤ x ∧ x ≤ 8 then 0 else 1
def onF {α : Type} (x : Int) (L : Nat → List α) : List α := if 1 ≤ x ∧ x ≤ 8 then L x.toNat else []
theorem onF_yes {α : Type} {x : Int} (h : 1 ≤ x ∧ x ≤ 8) (L : Nat → List α) : onF x L = L x.toNat := if_pos h
theorem onF_no {α : Type} {x : Int} (h : ¬ (1 ≤ x ∧ x ≤ 8)) (L : Nat → List α) : onF x L = [] := if_neg h
theorem fErr_yes {x : Int} (h : 1 ≤ x ∧ x ≤ 8) : fErr x = 0 := if_pos h
theorem fErr_no {x : Int} (h : ¬ (1 ≤ x ∧ x ≤ 8)) : fErr x = 1 := if_neg h
def RdPl (w : World) (v : Value) (L : List Pl) : Prop := ∃ p cap b, v = .slice p L.length cap ∧ L.length ≤ cap ∧ (0 < L.length → p = some ⟨b, 0, none⟩) ∧ PlsAt w b L
def RdCe (w : World) (v : Value) (C : List I3) : Prop := ∃ p cap b, v = .slice p C.length cap ∧ C.length ≤ cap ∧ (0 < C.length → p = some ⟨b, 0, none⟩) ∧ CesAt w b C
def RdEd (w : World) (v : Value) (E : List I2) : Prop := ∃ p cap b, v = .slice p E.length cap ∧ E.length ≤ cap ∧ (0 < E.length → p = some ⟨b, 0, none⟩) ∧ EdsAt w b E
theorem RdPl.nil (w : World) : RdPl w (.slice none 0 0) [] := ⟨none, 0, 0, rfl, Nat.le_refl _, fun h => by simp at h, fun k hk => by simp at hk⟩
theorem RdCe.nil (w : World) : RdCe w (.slice none 0 0) [] := ⟨none, 0, 0, rfl, Nat.le_refl _, fun h => by simp at h, fun k hk => by simp at hk⟩
theorem RdEd.nil (w : World) : RdEd w (.slice none 0 0) [] := ⟨none, 0, 0, rfl, Nat.le_refl _, fun h => by simp at h, fun k hk => by simp at hk⟩
theorem RdPl.below {w w' : World} {v : Value} {L : List Pl} (h : RdPl w v L) (hb : Below w.heap.size w w') : RdPl w' v L := by
  obtain ⟨p, cap, b, h1, h2, h3, h4⟩ := h
  exact ⟨p, cap, b, h1, h2, h3, fun k hk => ⟨RX.keep hb (h4 k hk).1, RX.keep hb (h4 k hk).2.1, RX.keep hb (h4 k hk).2.2.1, RX.keep hb (h4 k hk).2.2.2⟩⟩
theorem RdCe.below {w w' : World} {v : Value} {L : List I3} (h : RdCe w v L) (hb : Below w.heap.size w w') : RdCe w' v L := by
  obtain ⟨p, cap, b, h1, h2, h3, h4⟩ := h
  exact ⟨p, cap, b, h1, h2, h3, fun k hk => ⟨RX.keep hb (h4 k hk).1, RX.keep hb (h4 k hk).2.1, RX.keep hb (h4 k hk).2.2⟩⟩
theorem RdEd.below {w w' : World} {v : Value} {L : List I2} (h : RdEd w v L) (hb : Below w.heap.size w w') : RdEd w' v L := by
  obtain ⟨p, cap, b, h1, h2, h3, h4⟩ := h
  exact ⟨p, cap, b, h1, h2, h3, fun k hk => ⟨RX.keep hb (h4 k hk).1, RX.keep hb (h4 k hk).2⟩⟩
theorem RdPl.of_row {w : World} {base : Nat} {v : Value} {L : List Pl} (h : PlRow w base v L) : RdPl w v L := by
  obtain ⟨p, cap, b, h1, h2, h3, h4⟩ := h.form
  exact ⟨p, cap, b, h1, h2, fun h => (h3 h).1, h4⟩
theorem RdCe.of_row {w : World} {base : Nat} {v : Value} {L : List I3} (h : CeRow w base v L) : RdCe w v L := by
  obtain ⟨p, cap, b, h1, h2, h3, h4⟩ := h.form
  exact ⟨p, cap, b, h1, h2, fun h => (h3 h).1, h4⟩
theorem RdEd.of_row {w : World} {base : Nat} {v : Value} {L : List I2} (h : EdRow w base v L) : RdEd w v L := by
  obtain ⟨p, cap, b, h1, h2, h3, h4⟩ := h.form
  exact ⟨p, cap, b, h1, h2, fun h => (h3 h).1, h4⟩
theorem ces_of {w : World} {b : Nat} {C : List I3} (hH : HoldsK enc3 3 w b 0 C.toArray) : CesAt w b C := by
  intro m h
  have hm2 : m < C.toArray.size := by simpa using h
  have eq1 : ∀ j, j / 3 = m → C.toArray[j / 3]! = C[m] := fun j hj => by rw [hj, getElem!_pos C.toArray m hm2]; simp
  have h0 := (hH (m * 3) (by rw [size_flatK]; omega)).1
  have h1 := (hH (m * 3 + 1) (by rw [size_flatK]; omega)).1
  have h2 := (hH (m * 3 + 2) (by rw [size_flatK]; omega)).1
  rw [get_flatK _ _ _ _ (by omega), eq1 _ (by omega), Nat.zero_add] at h0 h1 h2
  rw [show m * 3 % 3 = 0 by omega] at h0
  rw [show (m * 3 + 1) % 3 = 1 by omega] at h1
  rw [show (m * 3 + 2) % 3 = 2 by omega] at h2
  exact ⟨h0, h1, h2⟩
theorem freq_nat {x : Int} (h : 1 ≤ x ∧ x ≤ 8) : ∃ n : Nat, x = (n : Int) ∧ x.toNat = n ∧ 1 ≤ n ∧ n ≤ 8 := ⟨x.toNat, by omega, rfl, by omega, by omega⟩

set_option maxRecDepth 100000
/-! ### The answers -/
theorem gnodesA (x : Int) (w : World) (hT : HasTab w) : Calls Tryz.prog 9 #[.int .i64 x] w fun e w' => ∃ v, e = .returned (.tuple #[v, .int .i64 (fErr x)]) ∧ RdPl w' v (onF x nodesL) ∧ Below w.heap.size w w' := by
  by_cases h : 1 ≤ x ∧ x ≤ 8
  · rw [onF_yes h, fErr_yes h]
    obtain ⟨n, rfl, e, h1, h8⟩ := freq_nat h
    rw [e]
    refine (gnodes_any n h1 h8 w hT).mono ?_
    rintro e w' ⟨b, cap, rfl, hc, hown, hb⟩
    exact ⟨_, rfl, RdPl.of_row hown, hb⟩
  · rw [onF_no h, fErr_no h]
    refine (gnodes_no x h w).mono ?_
    rintro e w' ⟨rfl, rfl⟩
    exact ⟨_, rfl, RdPl.nil _, Below.refl _ _⟩
theorem rnodesA (x : Int) (w : World) : Calls Tryz.prog 10 #[.int .i64 x] w fun e w' => ∃ v, e = .returned (.tuple #[v, .int .i64 (fErr x)]) ∧ RdPl w' v (onF x nodesL) ∧ Below w.heap.size w w' := by
  by_cases h : 1 ≤ x ∧ x ≤ 8
  · rw [onF_yes h, fErr_yes h]
    obtain ⟨n, rfl, e, h1, h8⟩ := freq_nat h
    rw [e]
    refine (rnodes_any n h1 h8 w).mono ?_
    rintro e w' ⟨v, rfl, hrow, hb⟩
    exact ⟨_, rfl, RdPl.of_row hrow, hb⟩
  · rw [onF_no h, fErr_no h]
    refine (rnodes_no x h w).mono ?_
    rintro e w' ⟨rfl, rfl⟩
    exact ⟨_, rfl, RdPl.nil _, Below.refl _ _⟩
theorem gcellsA (x : Int) (w : World) (hT : HasTab w) : Calls Tryz.prog 11 #[.int .i64 x] w fun e w' => ∃ v, e = .returned (.tuple #[v, .int .i64 (fErr x)]) ∧ RdCe w' v (onF x cellsS) ∧ Below w.heap.size w w' := by
  by_cases h : 1 ≤ x ∧ x ≤ 8
  · rw [onF_yes h, fErr_yes h]
    obtain ⟨n, rfl, e, h1, h8⟩ := freq_nat h
    rw [e]
    refine (gcells_at n h1 h8 w hT).mono ?_
    rintro e w' ⟨b, cap, rfl, hc, hH, hlt, hb⟩
    exact ⟨_, rfl, ⟨_, _, b, rfl, hc, fun _ => rfl, ces_of hH⟩, hb⟩
  · rw [onF_no h, fErr_no h]
    refine (gcells_no x h w).mono ?_
    rintro e w' ⟨rfl, rfl⟩
    exact ⟨_, rfl, RdCe.nil _, Below.refl _ _⟩
theorem rcellsA (x : Int) (w : World) : Calls Tryz.prog 12 #[.int .i64 x] w fun e w' => ∃ v, e = .returned (.tuple #[v, .int .i64 (fErr x)]) ∧ RdCe w' v (onF x cellsS) ∧ Below w.heap.size w w' := by
  by_cases h : 1 ≤ x ∧ x ≤ 8
  · rw [onF_yes h, fErr_yes h]
    obtain ⟨n, rfl, e, h1, h8⟩ := freq_nat h
    rw [e]
    refine (rcells_any n h1 h8 w).mono ?_
    rintro e w' ⟨v, rfl, hrow, hb⟩
    exact ⟨_, rfl, RdCe.of_row hrow, hb⟩
  · rw [onF_no h, fErr_no h]
    refine (rcells_no x h w).mono ?_
    rintro e w' ⟨rfl, rfl⟩
    exact ⟨_, rfl, RdCe.nil _, Below.refl _ _⟩
theorem gedgesA (x : Int) (w : World) (hT : HasTab w) : Calls Tryz.prog 13 #[.int .i64 x] w fun e w' => ∃ v, e = .returned (.tuple #[v, .int .i64 (fErr x)]) ∧ RdEd w' v (onF x edgesL) ∧ Below w.heap.size w w' := by
  by_cases h : 1 ≤ x ∧ x ≤ 8
  · rw [onF_yes h, fErr_yes h]
    obtain ⟨n, rfl, e, h1, h8⟩ := freq_nat h
    rw [e]
    refine (edges_any n h1 h8 w hT).mono ?_
    rintro e w' ⟨b, cap, rfl, hc, hP, hlt, hb⟩
    exact ⟨_, rfl, ⟨_, _, b, rfl, hc, fun _ => rfl, fun k hk => ⟨hP.c0 k hk, hP.c1 k hk⟩⟩, hb⟩
  · rw [onF_no h, fErr_no h]
    refine (gedges_no x h w).mono ?_
    rintro e w' ⟨rfl, rfl⟩
    exact ⟨_, rfl, RdEd.nil _, Below.refl _ _⟩
theorem redgesA (x : Int) (w : World) : Calls Tryz.prog 14 #[.int .i64 x] w fun e w' => ∃ v, e = .returned (.tuple #[v, .int .i64 (fErr x)]) ∧ RdEd w' v (onF x edgesL) ∧ Below w.heap.size w w' := by
  by_cases h : 1 ≤ x ∧ x ≤ 8
  · rw [onF_yes h, fErr_yes h]
    obtain ⟨n, rfl, e, h1, h8⟩ := freq_nat h
    rw [e]
    refine (redges_any n h1 h8 w).mono ?_
    rintro e w' ⟨v, rfl, hrow, hb⟩
    exact ⟨_, rfl, RdEd.of_row hrow, hb⟩
  · rw [onF_no h, fErr_no h]
    refine (redges_no x h w).mono ?_
    rintro e w' ⟨rfl, rfl⟩
    exact ⟨_, rfl, RdEd.nil _, Below.refl _ _⟩
def nErr (n i : Int) : Int := if NodeI n i then 0 else 1
def nbL (n i : Int) : List Int := if NodeI n i then nextL n.toNat i.toNat else []
theorem nbL_len (n i : Int) : (nbL n i).length ≤ 700 := by
  unfold nbL
  split
  · rename_i h
    obtain ⟨m, j, rfl, rfl, h1, h8, hj⟩ := nodeI_nat h
    exact next_len h1 h8 j
  · simp
theorem gneighA (x y : Int) (w : World) (hT : HasTab w) : Calls Tryz.prog 16 #[.int .i64 x, .int .i64 y] w fun e w' => ∃ v, e = .returned (.tuple #[v, .int .i64 (nErr x y)]) ∧ RdI w' v (nbL x y) ∧ Below w.heap.size w w' := by
  by_cases h : NodeI x y
  · have e1 : nErr x y = 0 := if_pos h
    have e2 : nbL x y = nextL x.toNat y.toNat := if_pos h
    rw [e1, e2]
    obtain ⟨m, j, rfl, rfl, h1, h8, hj⟩ := nodeI_nat h
    exact gneigh_any m j h1 h8 hj w hT
  · have e1 : nErr x y = 1 := if_neg h
    have e2 : nbL x y = [] := if_neg h
    rw [e1, e2]
    refine (gneigh_no x y h w).mono ?_
    rintro e w' ⟨rfl, rfl⟩
    exact ⟨_, rfl, RdI.nil _, Below.refl _ _⟩
theorem rneighA (x y : Int) (w : World) : Calls Tryz.prog 17 #[.int .i64 x, .int .i64 y] w fun e w' => ∃ v, e = .returned (.tuple #[v, .int .i64 (nErr x y)]) ∧ RdI w' v (nbL x y) ∧ Below w.heap.size w w' := by
  by_cases h : NodeI x y
  · have e1 : nErr x y = 0 := if_pos h
    have e2 : nbL x y = nextL x.toNat y.toNat := if_pos h
    rw [e1, e2]
    obtain ⟨m, j, rfl, rfl, h1, h8, hj⟩ := nodeI_nat h
    exact rneigh_any m j h1 h8 hj w
  · have e1 : nErr x y = 1 := if_neg h
    have e2 : nbL x y = [] := if_neg h
    rw [e1, e2]
    refine (rneigh_no x y h w).mono ?_
    rintro e w' ⟨rfl, rfl⟩
    exact ⟨_, rfl, RdI.nil _, Below.refl _ _⟩
end Go.Proofs.YtlfhildbjipheaaGreatDoor
