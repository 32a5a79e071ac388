import Derived.Test.YtlfhildbjipheaaGreatDoorREd
import Derived.Test.YtlfhildbjipheaaGreatDoorRCells
import Derived.Test.YtlfhildbjipheaaGreatDoorGridL
set_option linter.unusedSimpArgs false
set_option linter.unusedVariables false
namespace Go.Proofs.YtlfhildbjipheaaGreatDoor
open Go.RowKit Go.Grid Go.Maps Go.Sort Go.Shelf

/-! The lists of the grid, on both sides, for any frequency and any node. -/
def fErr (x : Int) : Int := if 1 ≤ x ∧ x ≤ 8 then 0 else 1
def onF {α : Type} (x : Int) (L : Nat → List α) : List α := if 1 ≤ x ∧ x ≤ 8 then L x.toNat else []
theorem onF_yes {α : Type} {x : Int} (h : 1 ≤ x ∧ x ≤ 8) (L : Nat → List α) : onF x L = L x.toNat := if_pos h
theorem onF_no {α : Type} {x : Int} (h : ¬ (1 ≤ x ∧ x ≤ 8)) (L : Nat → List α) : onF x L = [] := if_neg h
theorem fErr_yes {x : Int} (h : 1 ≤ x ∧ x ≤ 8) : fErr x = 0 := if_pos h
theorem fErr_no {x : Int} (h : ¬ (1 ≤ x ∧ x ≤ 8)) : fErr x = 1 := if_neg h
def RdPl (w : World) (v : Value) (L : List Pl) : Prop := ∃ p cap b, v = .slice p L.length cap ∧ L.length ≤ cap ∧ (0 < L.length → p = some ⟨b, 0, none⟩) ∧ PlsAt w b L
def RdCe (w : World) (v : Value) (C : List I3) : Prop := ∃ p cap b, v = .slice p C.length cap ∧ C.length ≤ cap ∧ (0 < C.length → p = some ⟨b, 0, none⟩) ∧ CesAt w b C
def RdEd (w : World) (v : Value) (E : List I2) : Prop := ∃ p cap b, v = .slice p E.length cap ∧ E.length ≤ cap ∧ (0 < E.length → p = some ⟨b, 0, none⟩) ∧ EdsAt w b E
theorem RdPl.nil (w : World) : RdPl w (.slice none 0 0) [] := ⟨none, 0, 0, rfl, Nat.le_refl _, fun h => by simp at h, fun k hk => by simp at hk⟩
theorem RdCe.nil (w : World) : RdCe w (.slice none 0 0) [] := ⟨none, 0, 0, rfl, Nat.le_refl _, fun h => by simp at h, fun k hk => by simp at hk⟩
theorem RdEd.nil (w : World) : RdEd w (.slice none 0 0) [] := ⟨none, 0, 0, rfl, Nat.le_refl _, fun h => by simp at h, fun k hk => by simp at hk⟩
theorem RdPl.below {w w' : World} {v : Value} {L : List Pl} (h : RdPl w v L) (hb : Below w.heap.size w w') : RdPl w' v L := by
  obtain ⟨p, cap, b, h1, h2, h3, h4⟩ := h
  exact ⟨p, cap, b, h1, h2, h3, fun k hk => ⟨RX.keep hb (h4 k hk).1, RX.keep hb (h4 k hk).2.1, RX.keep hb (h4 k hk).2.2.1, RX.keep hb (h4 k hk).2.2.2⟩⟩
theorem RdCe.below {w w' : World} {v : Value} {L : List I3} (h : RdCe w v L) (hb : Below w.heap.size w w') : RdCe w' v L := by
  obtain ⟨p, cap, b, h1, h2, h3, h4⟩ := h
  exact ⟨p, cap, b, h1, h2, h3, fun k hk => ⟨RX.keep hb (h4 k hk).1, RX.keep hb (h4 k hk).2.1, RX.keep hb (h4 k hk).2.2⟩⟩
theorem RdEd.below {w w' : World} {v : Value} {L : List I2} (h : RdEd w v L) (hb : Below w.heap.size w w') : RdEd w' v L := by
  obtain ⟨p, cap, b, h1, h2, h3, h4⟩ := h
  exact ⟨p, cap, b, h1, h2, h3, fun k hk => ⟨RX.keep hb (h4 k hk).1, RX.keep hb (h4 k hk).2⟩⟩
theorem RdPl.of_row {w : World} {base : Nat} {v : Value} {L : List Pl} (h : PlRow w base v L) : RdPl w v L := by
  obtain ⟨p, cap, b, h1, h2, h3, h4⟩ := h.form
  exact ⟨p, cap, b, h1, h2, fun h => (h3 h).1, h4⟩
theorem RdCe.of_row {w : World} {base : Nat} {v : Value} {L : List I3} (h : CeRow w base v L) : RdCe w v L := by
  obtain ⟨p, cap, b, h1, h2, h3, h4⟩ := h.form
  exact ⟨p, cap, b, h1, h2, fun h => (h3 h).1, h4⟩
theorem RdEd.of_row {w : World} {base : Nat} {v : Value} {L : List I2} (h : EdRow w base v L) : RdEd w v L := by
  obtain ⟨p, cap, b, h1, h2, h3, h4⟩ := h.form
  exact ⟨p, cap, b, h1, h2, fun h => (h3 h).1, h4⟩
theorem ces_of {w : World} {b : Nat} {C : List I3} (hH : HoldsK enc3 3 w b 0 C.toArray) : CesAt w b C := by
  intro m h
  have hm2 : m < C.toArray.size := by simpa using h
  have eq1 : ∀ j, j / 3 = m → C.toArray[j / 3]! = C[m] := fun j hj => by rw [hj, getElem!_pos C.toArray m hm2]; simp
  have h0 := (hH (m * 3) (by rw [size_flatK]; omega)).1
  have h1 := (hH (m * 3 + 1) (by rw [size_flatK]; omega)).1
  have h2 := (hH (m * 3 + 2) (by rw [size_flatK]; omega)).1
  rw [get_flatK _ _ _ _ (by omega), eq1 _ (by omega), Nat.zero_add] at h0 h1 h2
  rw [show m * 3 % 3 = 0 by omega] at h0
  rw [show (m * 3 + 1) % 3 = 1 by omega] at h1
  rw [show (m * 3 + 2) % 3 = 2 by omega] at h2
  exact ⟨h0, h1, h2⟩
theorem freq_nat {x : Int} (h : 1 ≤ x ∧ x ≤ 8) : ∃ n : Nat, x = (n : Int) ∧ x.toNat = n ∧ 1 ≤ n ∧ n ≤ 8 := ⟨x.toNat, by omega, rfl, by omega, by omega⟩

set_option maxRecDepth 100000
/-! ### The answers -/
theorem gnodesA (x : Int) (w : World) (hT : HasTab w) : Calls Tryz.prog 9 #[.int .i64 x] w fun e w' => ∃ v, e = .returned (.tuple #[v, .int .i64 (fErr x)]) ∧ RdPl w' v (onF x nodesL) ∧ Below w.heap.size w w' := by
  by_cases h : 1 ≤ x ∧ x ≤ 8
  · rw [onF_yes h, fErr_yes h]
    obtain ⟨n, rfl, e, h1, h8⟩ := freq_nat h
    rw [e]
    refine (gnodes_any n h1 h8 w hT).mono ?_
    rintro e w' ⟨b, cap, rfl, hc, hown, hb⟩
    exact ⟨_, rfl, RdPl.of_row hown, hb⟩
  · rw [onF_no h, fErr_no h]
    refine (gnodes_no x h w).mono ?_
    rintro e w' ⟨rfl, rfl⟩
    exact ⟨_, rfl, RdPl.nil _, Below.refl _ _⟩
theorem rnodesA (x : Int) (w : World) : Calls Tryz.prog 10 #[.int .i64 x] w fun e w' => ∃ v, e = .returned (.tuple #[v, .int .i64 (fErr x)]) ∧ RdPl w' v (onF x nodesL) ∧ Below w.heap.size w w' := by
  by_cases h : 1 ≤ x ∧ x ≤ 8
  · rw [onF_yes h, fErr_yes h]
    obtain ⟨n, rfl, e, h1, h8⟩ := freq_nat h
    rw [e]
    refine (rnodes_any n h1 h8 w).mono ?_
    rintro e w' ⟨v, rfl, hrow, hb⟩
    exact ⟨_, rfl, RdPl.of_row hrow, hb⟩
  · rw [onF_no h, fErr_no h]
    refine (rnodes_no x h w).mono ?_
    rintro e w' ⟨rfl, rfl⟩
    exact ⟨_, rfl, RdPl.nil _, Below.refl _ _⟩
theorem gcellsA (x : Int) (w : World) (hT : HasTab w) : Calls Tryz.prog 11 #[.int .i64 x] w fun e w' => ∃ v, e = .returned (.tuple #[v, .int .i64 (fErr x)]) ∧ RdCe w' v (onF x cellsS) ∧ Below w.heap.size w w' := by
  by_cases h : 1 ≤ x ∧ x ≤ 8
  · rw [onF_yes h, fErr_yes h]
    obtain ⟨n, rfl, e, h1, h8⟩ := freq_nat h
    rw [e]
    refine (gcells_at n h1 h8 w hT).mono ?_
    rintro e w' ⟨b, cap, rfl, hc, hH, hlt, hb⟩
    exact ⟨_, rfl, ⟨_, _, b, rfl, hc, fun _ => rfl, ces_of hH⟩, hb⟩
  · rw [onF_no h, fErr_no h]
    refine (gcells_no x h w).mono ?_
    rintro e w' ⟨rfl, rfl⟩
    exact ⟨_, rfl, RdCe.nil _, Below.refl _ _⟩
theorem rcellsA (x : Int) (w : World) : Calls Tryz.prog 12 #[.int .i64 x] w fun e w' => ∃ v, e = .returned (.tuple #[v, .int .i64 (fErr x)]) ∧ RdCe w' v (onF x cellsS) ∧ Below w.heap.size w w' := by
  by_cases h : 1 ≤ x ∧ x ≤ 8
  · rw [onF_yes h, fErr_yes h]
    obtain ⟨n, rfl, e, h1, h8⟩ := freq_nat h
    rw [e]
    refine (rcells_any n h1 h8 w).mono ?_
    rintro e w' ⟨v, rfl, hrow, hb⟩
    exact ⟨_, rfl, RdCe.of_row hrow, hb⟩
  · rw [onF_no h, fErr_no h]
    refine (rcells_no x h w).mono ?_
    rintro e w' ⟨rfl, rfl⟩
    exact ⟨_, rfl, RdCe.nil _, Below.refl _ _⟩
theorem gedgesA (x : Int) (w : World) (hT : HasTab w) : Calls Tryz.prog 13 #[.int .i64 x] w fun e w' => ∃ v, e = .returned (.tuple #[v, .int .i64 (fErr x)]) ∧ RdEd w' v (onF x edgesL) ∧ Below w.heap.size w w' := by
  by_cases h : 1 ≤ x ∧ x ≤ 8
  · rw [onF_yes h, fErr_yes h]
    obtain ⟨n, rfl, e, h1, h8⟩ := freq_nat h
    rw [e]
    refine (edges_any n h1 h8 w hT).mono ?_
    rintro e w' ⟨b, cap, rfl, hc, hP, hlt, hb⟩
    exact ⟨_, rfl, ⟨_, _, b, rfl, hc, fun _ => rfl, fun k hk => ⟨hP.c0 k hk, hP.c1 k hk⟩⟩, hb⟩
  · rw [onF_no h, fErr_no h]
    refine (gedges_no x h w).mono ?_
    rintro e w' ⟨rfl, rfl⟩
    exact ⟨_, rfl, RdEd.nil _, Below.refl _ _⟩
theorem redgesA (x : Int) (w : World) : Calls Tryz.prog 14 #[.int .i64 x] w fun e w' => ∃ v, e = .returned (.tuple #[v, .int .i64 (fErr x)]) ∧ RdEd w' v (onF x edgesL) ∧ Below w.heap.size w w' := by
  by_cases h : 1 ≤ x ∧ x ≤ 8
  · rw [onF_yes h, fErr_yes h]
    obtain ⟨n, rfl, e, h1, h8⟩ := freq_nat h
    rw [e]
    refine (redges_any n h1 h8 w).mono ?_
    rintro e w' ⟨v, rfl, hrow, hb⟩
    exact ⟨_, rfl, RdEd.of_row hrow, hb⟩
  · rw [onF_no h, fErr_no h]
    refine (redges_no x h w).mono ?_
    rintro e w' ⟨rfl, rfl⟩
    exact ⟨_, rfl, RdEd.nil _, Below.refl _ _⟩
def nErr (n i : Int) : Int := if NodeI n i then 0 else 1
def nbL (n i : Int) : List Int := if NodeI n i then nextL n.toNat i.toNat else []
theorem nbL_len (n i : Int) : (nbL n i).length ≤ 700 := by
  unfold nbL
  split
  · rename_i h
    obtain ⟨m, j, rfl, rfl, h1, h8, hj⟩ := nodeI_nat h
    exact next_len h1 h8 j
  · simp
theorem gneighA (x y : Int) (w : World) (hT : HasTab w) : Calls Tryz.prog 16 #[.int .i64 x, .int .i64 y] w fun e w' => ∃ v, e = .returned (.tuple #[v, .int .i64 (nErr x y)]) ∧ RdI w' v (nbL x y) ∧ Below w.heap.size w w' := by
  by_cases h : NodeI x y
  · have e1 : nErr x y = 0 := if_pos h
    have e2 : nbL x y = nextL x.toNat y.toNat := if_pos h
    rw [e1, e2]
    obtain ⟨m, j, rfl, rfl, h1, h8, hj⟩ := nodeI_nat h
    exact gneigh_any m j h1 h8 hj w hT
  · have e1 : nErr x y = 1 := if_neg h
    have e2 : nbL x y = [] := if_neg h
    rw [e1, e2]
    refine (gneigh_no x y h w).mono ?_
    rintro e w' ⟨rfl, rfl⟩
    exact ⟨_, rfl, RdI.nil _, Below.refl _ _⟩
theorem rneighA (x y : Int) (w : World) : Calls Tryz.prog 17 #[.int .i64 x, .int .i64 y] w fun e w' => ∃ v, e = .returned (.tuple #[v, .int .i64 (nErr x y)]) ∧ RdI w' v (nbL x y) ∧ Below w.heap.size w w' := by
  by_cases h : NodeI x y
  · have e1 : nErr x y = 0 := if_pos h
    have e2 : nbL x y = nextL x.toNat y.toNat := if_pos h
    rw [e1, e2]
    obtain ⟨m, j, rfl, rfl, h1, h8, hj⟩ := nodeI_nat h
    exact rneigh_any m j h1 h8 hj w
  · have e1 : nErr x y = 1 := if_neg h
    have e2 : nbL x y = [] := if_neg h
    rw [e1, e2]
    refine (rneigh_no x y h w).mono ?_
    rintro e w' ⟨rfl, rfl⟩
    exact ⟨_, rfl, RdI.nil _, Below.refl _ _⟩
end Go.Proofs.YtlfhildbjipheaaGreatDoor
