import Derived.Test.YtlfhildbjipheaaGreatDoorKRefB
import Derived.Test.YtlfhildbjipheaaGreatDoorListP
import Derived.Test.YtlfhildbjipheaaGreatDoorCopyK
import Derived.Laws.CopyRow
import Derived.Laws.CopyOwn
import Derived.Deep.DeepCutAuto
set_option linter.unusedSimpArgs false
set_option linter.unusedVariables false
namespace Go.Proofs.YtlfhildbjipheaaGreatDoor
open Go.RowKit Go.Grid Go.Maps Go.Sort Go.Shelf

theorem elCell3 : RX.ElemOf Tryz.prog 28 34 (.agg #[.int .i64 0, .int .i64 0, .int .i64 0]) 3 24 := ⟨Tryz.underlying28, by kernel_rfl, rfl, by decide⟩
/-- A row of cells that a call has made. -/
def CeRow (w : World) (base : Nat) (v : Value) (C : List I3) : Prop := w.ownsRow base 34 3 v C.length (C.flatMap enc3)
theorem CeRow.nil (w : World) (base : Nat) : CeRow w base (.slice none 0 0) [] := World.ownsRow_nil _ _ _ _
theorem CeRow.kept {w w' : World} {base : Nat} {v : Value} {C : List I3} (h : CeRow w base v C) (hb : Below w.heap.size w w') : CeRow w' base v C :=
  World.ownsRow.kept (row := none) h ⟨hb.os, hb.tape, hb.output, hb.size, fun k hk _ => hb.block k hk⟩ (by
    cases v.ownBlock with
    | none => exact .inl rfl
    | some k => exact .inr (by simp))
theorem CeRow.mono {w : World} {base base' : Nat} {v : Value} {C : List I3} (h : CeRow w base v C) (hb : base' ≤ base) : CeRow w base' v C := own_mono h hb
theorem enc3_len (C : List I3) : (C.flatMap enc3).length = C.length * 3 := by
  induction C with
  | nil => rfl
  | cons p C ih => rw [List.flatMap_cons, List.length_append, ih]; simp [enc3]; omega
theorem enc3_get : ∀ (C : List I3) (m : Nat) (h : m < C.length) (j : Nat), j < 3 → (C.flatMap enc3)[m * 3 + j]? = (enc3 C[m])[j]?
  | p :: L, 0, h, j, hj => by
    simp only [List.flatMap_cons, Nat.zero_mul, Nat.zero_add]
    rw [List.getElem?_append_left (by simp [enc3]; omega)]; rfl
  | p :: L, m + 1, h, j, hj => by
    have ih := enc3_get L m (by simpa using h) j hj
    simp only [List.flatMap_cons]
    rw [List.getElem?_append_right (by simp [enc3]; omega), show (m + 1) * 3 + j - (enc3 p).length = m * 3 + j by simp [enc3]; omega, ih]; rfl
theorem enc3_drop (C : List I3) (k : Nat) : (C.flatMap enc3).drop (k * 3) = (C.drop k).flatMap enc3 := by
  induction C generalizing k with
  | nil => simp
  | cons p C ih =>
    cases k with
    | zero => simp
    | succ k =>
      rw [List.flatMap_cons, List.drop_succ_cons, ← ih k, show (k + 1) * 3 = (enc3 p).length + k * 3 by simp [enc3]; omega, ← List.drop_drop, List.drop_left]
theorem enc3_take (C : List I3) (k : Nat) : (C.flatMap enc3).take (k * 3) = (C.take k).flatMap enc3 := by
  induction C generalizing k with
  | nil => simp
  | cons p C ih =>
    cases k with
    | zero => simp
    | succ k =>
      rw [List.flatMap_cons, List.take_succ_cons, List.flatMap_cons, ← ih k, show (k + 1) * 3 = (enc3 p).length + k * 3 by simp [enc3]; omega, List.take_length_add_append]
theorem enc3_one {C : List I3} : ∀ u ∈ C.flatMap enc3, u.oneCell' = true := fun u hu => by
  obtain ⟨x, _, h⟩ := List.mem_flatMap.1 hu
  simp only [enc3, List.mem_cons, List.not_mem_nil, or_false] at h
  rcases h with rfl | rfl | rfl <;> rfl
/-- Cells that lie in a block. -/
def CesAt (w : World) (b : Nat) (C : List I3) : Prop := ∀ k (h : k < C.length), w.cell? ⟨b, k * 3, none⟩ = some (.int .i64 C[k].1) ∧ w.cell? ⟨b, k * 3 + 1, none⟩ = some (.int .i64 C[k].2.1) ∧ w.cell? ⟨b, k * 3 + 2, none⟩ = some (.int .i64 C[k].2.2)
theorem CeRow.form {w : World} {base : Nat} {v : Value} {C : List I3} (h : CeRow w base v C) : ∃ p cap b, v = .slice p C.length cap ∧ C.length ≤ cap ∧ (0 < C.length → p = some ⟨b, 0, none⟩ ∧ base ≤ b ∧ b < w.heap.size) ∧ CesAt w b C := by
  rcases h.2 with ⟨h1, h2⟩ | ⟨g, cap, cur, h1, h2, h3, h4, _⟩
  · exact ⟨none, 0, 0, by rw [h1, h2], by omega, fun hh => by omega, fun j hj => by omega⟩
  · refine ⟨_, cap, g, h1, h4, fun hp => ⟨rfl, h2, (World.ownsRow.lt h g (by rw [h1]; rfl)).2⟩, fun j hj => ?_⟩
    subst h1
    have key : ∀ i, i < 3 → w.cell? ⟨g, j * 3 + i, none⟩ = (enc3 C[j])[i]? := fun i hi => by
      rw [World.ownsRow.cellAt h (j * 3 + i) (by omega), ← enc3_get C j hj i hi]
    exact ⟨key 0 (by omega), key 1 (by omega), key 2 (by omega)⟩
/-- The row behind the copy and the store of one element. -/
theorem CeRow.moved {w : World} {base g cap : Nat} {C : List I3} {x : I3} {k : Nat} (hk : k ≤ C.length) (h : w.ownsRow base 34 3 (.slice (some ⟨g, 0, none⟩) (C.length + 1) cap) (C.length + 1) (C.flatMap enc3 ++ [.int .i64 0, .int .i64 0, .int .i64 0])) :
    ∃ cur, w.heap[g]? = some (.cells cur 34 (0, 0)) ∧ (C.length + 1) * 3 ≤ cur.size ∧ base ≤ g ∧ (∀ j v, ((C.drop k).flatMap enc3)[j]? = some v → w.cell? ⟨g, k * 3 + j, none⟩ = some v) ∧
      (∀ j, j < 3 → ∃ u, (w.setRow g (cur.toList.take ((k + 1) * 3) ++ (C.drop k).flatMap enc3 ++ cur.toList.drop ((k + 1) * 3 + ((C.drop k).flatMap enc3).length)).toArray).cell? ⟨g, k * 3 + j, none⟩ = some u) ∧ (∀ j, (w.setRow g (cur.toList.take ((k + 1) * 3) ++ (C.drop k).flatMap enc3 ++ cur.toList.drop ((k + 1) * 3 + ((C.drop k).flatMap enc3).length)).toArray).frozen? ⟨g, j, none⟩ = false) ∧
      CeRow ((((w.setRow g (cur.toList.take ((k + 1) * 3) ++ (C.drop k).flatMap enc3 ++ cur.toList.drop ((k + 1) * 3 + ((C.drop k).flatMap enc3).length)).toArray).setCell ⟨g, k * 3, none⟩ (.int .i64 x.1)).setCell ⟨g, k * 3 + 1, none⟩ (.int .i64 x.2.1)).setCell ⟨g, k * 3 + 2, none⟩ (.int .i64 x.2.2)) base (.slice (some ⟨g, 0, none⟩) (C.length + 1) cap) (C.take k ++ x :: C.drop k) := by
  rcases h.2 with ⟨h1, h2⟩ | ⟨g', cap', cur, h1, hb, hg, hc1, hc2, hc3, ht⟩
  · cases h1
  · injection h1 with e1 _ e3
    injection e1 with e1
    injection e1 with e1
    subst e1; subst e3
    have hsz : (C.length + 1) * 3 ≤ cur.size := by rw [hc3]; exact Nat.mul_le_mul_right _ hc1
    have hd : ((C.drop k).flatMap enc3).length = (C.length - k) * 3 := by rw [enc3_len, List.length_drop]
    refine ⟨cur, hg, hsz, hb, fun j v hj => ?_, fun j hj => ?_, fun j => ?_, ?_⟩
    · have hj2 : j < ((C.drop k).flatMap enc3).length := by
        rw [List.getElem?_eq_some_iff] at hj; exact hj.1
      rw [World.ownsRow.cellAt h (k * 3 + j) (by rw [hd] at hj2; omega)]
      rw [List.getElem?_append_left (by rw [enc3_len]; rw [hd] at hj2; omega), ← List.getElem?_drop, enc3_drop]
      exact hj
    · have g0 := setRow_heap w g cur (cur.toList.take ((k + 1) * 3) ++ (C.drop k).flatMap enc3 ++ cur.toList.drop ((k + 1) * 3 + ((C.drop k).flatMap enc3).length)).toArray 34 (0, 0) hg
      simp only [World.cell?, g0]
      refine ⟨_, Array.getElem?_eq_getElem ?_⟩
      have hlc : cur.toList.length = cur.size := Array.length_toList
      simp only [List.size_toArray, List.length_append, List.length_take, List.length_drop, hd]
      omega
    · have g0 := setRow_heap w g cur (cur.toList.take ((k + 1) * 3) ++ (C.drop k).flatMap enc3 ++ cur.toList.drop ((k + 1) * 3 + ((C.drop k).flatMap enc3).length)).toArray 34 (0, 0) hg
      unfold World.frozen?
      simp only [g0]
      simp
    · obtain ⟨c1, hc1e⟩ : ∃ c, c = (cur.toList.take ((k + 1) * 3) ++ (C.drop k).flatMap enc3 ++ cur.toList.drop ((k + 1) * 3 + ((C.drop k).flatMap enc3).length)).toArray := ⟨_, rfl⟩
      rw [← hc1e]
      have s1 : c1.size = cur.size := by
        rw [hc1e]
        simp only [List.size_toArray, List.length_append, List.length_take, List.length_drop, Array.length_toList, hd]
        omega
      have g1 := setRow_heap w g cur c1 34 (0, 0) hg
      rw [setCell_eq_setRow _ g (k * 3) c1 34 (0, 0) _ g1, setRow_setRow]
      have g2 := setRow_heap w g cur (c1.setIfInBounds (k * 3) (.int .i64 x.1)) 34 (0, 0) hg
      rw [setCell_eq_setRow _ g (k * 3 + 1) _ 34 (0, 0) _ g2, setRow_setRow]
      have g3 := setRow_heap w g cur ((c1.setIfInBounds (k * 3) (.int .i64 x.1)).setIfInBounds (k * 3 + 1) (.int .i64 x.2.1)) 34 (0, 0) hg
      rw [setCell_eq_setRow _ g (k * 3 + 2) _ 34 (0, 0) _ g3, setRow_setRow]
      have e1 : (C.take k ++ x :: C.drop k).length = C.length + 1 := ins_len
      unfold CeRow
      rw [e1]
      refine ⟨by rw [enc3_len, e1], .inr ⟨g, cap, _, rfl, hb, setRow_heap w g cur _ 34 (0, 0) hg, hc1, hc2, by simpa [s1] using hc3, ?_⟩⟩
      refine List.ext_getElem? fun j => ?_
      have lt : ((C.take k).flatMap enc3).length = k * 3 := by rw [enc3_len, List.length_take, Nat.min_eq_left hk]
      rw [List.flatMap_append, List.flatMap_cons]
      simp only [Array.toList_setIfInBounds]
      rw [List.getElem?_take]
      have ht' : ∀ j, j < C.length * 3 → cur.toList[j]? = (C.flatMap enc3)[j]? := fun j hj => by
        have h9 : (cur.toList.take ((C.length + 1) * 3))[j]? = (C.flatMap enc3 ++ [.int .i64 0, .int .i64 0, .int .i64 0])[j]? := by rw [ht]
        rw [List.getElem?_take, if_pos (by omega), List.getElem?_append_left (by rw [enc3_len]; omega)] at h9
        exact h9
      have hc1l : c1.toList = cur.toList.take ((k + 1) * 3) ++ ((C.drop k).flatMap enc3 ++ cur.toList.drop ((k + 1) * 3 + ((C.drop k).flatMap enc3).length)) := by rw [hc1e, List.append_assoc]
      have hlc : cur.toList.length = cur.size := Array.length_toList
      by_cases hj : j < (C.length + 1) * 3
      · rw [if_pos hj, List.getElem?_set, List.getElem?_set, List.getElem?_set]
        simp only [List.length_set]
        have hl1 : c1.toList.length = cur.size := by rw [Array.length_toList, s1]
        by_cases j0 : j < k * 3
        · rw [if_neg (by omega), if_neg (by omega), if_neg (by omega), List.getElem?_append_left (by rw [lt]; exact j0), ← enc3_take, List.getElem?_take, if_pos j0, hc1l, List.getElem?_append_left (by rw [List.length_take]; omega), List.getElem?_take, if_pos (by omega)]
          exact ht' j (by omega)
        · rw [List.getElem?_append_right (by rw [lt]; omega), lt]
          by_cases j1 : j = k * 3
          · subst j1
            rw [if_neg (by omega), if_neg (by omega), if_pos rfl, if_pos (by omega), Nat.sub_self]; rfl
          · by_cases j2 : j = k * 3 + 1
            · subst j2
              rw [if_neg (by omega), if_pos rfl, if_pos (by omega), show k * 3 + 1 - k * 3 = 1 by omega]; rfl
            · by_cases j3 : j = k * 3 + 2
              · subst j3
                rw [if_pos rfl, if_pos (by omega), show k * 3 + 2 - k * 3 = 2 by omega]; rfl
              · rw [if_neg (by omega), if_neg (by omega), if_neg (by omega), hc1l, List.getElem?_append_right (by rw [List.length_take]; omega), List.length_take, Nat.min_eq_left (by omega), List.getElem?_append_left (by rw [hd]; omega), List.getElem?_append_right (by simp [enc3]; omega)]
                congr 1
                simp [enc3]; omega
      · rw [if_neg hj, List.getElem?_eq_none]
        rw [List.length_append, List.length_append, lt, hd]; simp [enc3]; omega
theorem sorted_is {x y z a b c : Int} (hp : [a, b, c].Perm [x, y, z]) (h1 : a ≤ b) (h2 : b ≤ c) : sorted [x, y, z] = [a, b, c] := by
  refine List.Perm.eq_of_pairwise (le := fun u v : Int => u ≤ v) (fun u v _ _ h1 h2 => by omega) (sorted_pair _) ?_ ((sorted_perm _).trans hp.symm)
  simp only [List.pairwise_cons, List.mem_cons, List.not_mem_nil, or_false]
  exact ⟨fun u hu => by rcases hu with rfl | rfl <;> omega, fun u hu => by subst hu; omega, fun _ h => h.elim, List.Pairwise.nil⟩

set_option maxRecDepth 100000 in
set_option maxHeartbeats 2000000 in
/-- ref03.cell -/
theorem rcell_any (x y z : Int) (w : World) (hx : 0 ≤ x ∧ x ≤ 100000) (hy : 0 ≤ y ∧ y ≤ 100000) (hz : 0 ≤ z ∧ z ≤ 100000) : Calls Tryz.prog 51 #[.int .i64 x, .int .i64 y, .int .i64 z] w fun e w' => e = .returned (.agg #[.int .i64 (to3 (sorted [x, y, z])).1, .int .i64 (to3 (sorted [x, y, z])).2.1, .int .i64 (to3 (sorted [x, y, z])).2.2]) ∧ Below w.heap.size w w' := by
  obtain ⟨hx0, hx1⟩ := hx
  obtain ⟨hy0, hy1⟩ := hy
  obtain ⟨hz0, hz1⟩ := hz
  have key : ∀ a b c : Int, sorted [x, y, z] = [a, b, c] → (.agg #[.int .i64 (to3 (sorted [x, y, z])).1, .int .i64 (to3 (sorted [x, y, z])).2.1, .int .i64 (to3 (sorted [x, y, z])).2.2] : Value) = .agg #[.int .i64 a, .int .i64 b, .int .i64 c] := fun a b c h => by rw [h]; rfl
  have HK := Lib.hid key
  clear key
  have hcase : (x ≤ y ∧ y ≤ z) ∨ (x ≤ z ∧ z < y) ∨ (y < x ∧ x ≤ z) ∨ (y ≤ z ∧ z < x) ∨ (z < x ∧ x ≤ y) ∨ (z < y ∧ y < x) := by omega
  rcases hcase with ⟨h1, h2⟩ | ⟨h1, h2⟩ | ⟨h1, h2⟩ | ⟨h1, h2⟩ | ⟨h1, h2⟩ | ⟨h1, h2⟩
  · rw [HK.out x y z (sorted_is (List.Perm.refl _) (by omega) (by omega))]
    have em : (if z < (if y < x then y else x) then z else (if y < x then y else x)) = x := by (repeat' split) <;> omega
    have eM : (if z > (if y > x then y else x) then z else (if y > x then y else x)) = z := by (repeat' split) <;> omega
    have es : x + y + z - x - z = y := by omega
    go_enter Tryz.func51, Tryz.ntmps51
    go_wp2
    refine bodyPost_ret (v := .agg #[.int .i64 x, .int .i64 y, .int .i64 z]) ?_ rfl ⟨rfl, ?_⟩
    · simp [results, Tryz.results51, go_sem, es, em, eM] <;> omega
    · exact (by repeat (first | (with_reducible assumption) | (with_reducible exact Below.refl _ _) | (with_reducible refine Below.setCell ?_ (by first | omega | (simp; done) | (simp; omega)) _) | (with_reducible refine Below.alloc ?_ (by first | omega | (simp; done) | (simp; omega)) _) | (with_reducible apply Below.drew) | assumption))
  · rw [HK.out x z y (sorted_is ((List.Perm.swap y z []).cons x) (by omega) (by omega))]
    have em : (if z < (if y < x then y else x) then z else (if y < x then y else x)) = x := by (repeat' split) <;> omega
    have eM : (if z > (if y > x then y else x) then z else (if y > x then y else x)) = y := by (repeat' split) <;> omega
    have es : x + y + z - x - y = z := by omega
    go_enter Tryz.func51, Tryz.ntmps51
    go_wp2
    refine bodyPost_ret (v := .agg #[.int .i64 x, .int .i64 z, .int .i64 y]) ?_ rfl ⟨rfl, ?_⟩
    · simp [results, Tryz.results51, go_sem, es, em, eM] <;> omega
    · exact (by repeat (first | (with_reducible assumption) | (with_reducible exact Below.refl _ _) | (with_reducible refine Below.setCell ?_ (by first | omega | (simp; done) | (simp; omega)) _) | (with_reducible refine Below.alloc ?_ (by first | omega | (simp; done) | (simp; omega)) _) | (with_reducible apply Below.drew) | assumption))
  · rw [HK.out y x z (sorted_is (List.Perm.swap x y [z]) (by omega) (by omega))]
    have em : (if z < (if y < x then y else x) then z else (if y < x then y else x)) = y := by (repeat' split) <;> omega
    have eM : (if z > (if y > x then y else x) then z else (if y > x then y else x)) = z := by (repeat' split) <;> omega
    have es : x + y + z - y - z = x := by omega
    go_enter Tryz.func51, Tryz.ntmps51
    go_wp2
    refine bodyPost_ret (v := .agg #[.int .i64 y, .int .i64 x, .int .i64 z]) ?_ rfl ⟨rfl, ?_⟩
    · simp [results, Tryz.results51, go_sem, es, em, eM] <;> omega
    · exact (by repeat (first | (with_reducible assumption) | (with_reducible exact Below.refl _ _) | (with_reducible refine Below.setCell ?_ (by first | omega | (simp; done) | (simp; omega)) _) | (with_reducible refine Below.alloc ?_ (by first | omega | (simp; done) | (simp; omega)) _) | (with_reducible apply Below.drew) | assumption))
  · rw [HK.out y z x (sorted_is (((List.Perm.swap x z []).cons y).trans (List.Perm.swap x y [z])) (by omega) (by omega))]
    have em : (if z < (if y < x then y else x) then z else (if y < x then y else x)) = y := by (repeat' split) <;> omega
    have eM : (if z > (if y > x then y else x) then z else (if y > x then y else x)) = x := by (repeat' split) <;> omega
    have es : x + y + z - y - x = z := by omega
    go_enter Tryz.func51, Tryz.ntmps51
    go_wp2
    refine bodyPost_ret (v := .agg #[.int .i64 y, .int .i64 z, .int .i64 x]) ?_ rfl ⟨rfl, ?_⟩
    · simp [results, Tryz.results51, go_sem, es, em, eM] <;> omega
    · exact (by repeat (first | (with_reducible assumption) | (with_reducible exact Below.refl _ _) | (with_reducible refine Below.setCell ?_ (by first | omega | (simp; done) | (simp; omega)) _) | (with_reducible refine Below.alloc ?_ (by first | omega | (simp; done) | (simp; omega)) _) | (with_reducible apply Below.drew) | assumption))
  · rw [HK.out z x y (sorted_is ((List.Perm.swap x z [y]).trans ((List.Perm.swap y z []).cons x)) (by omega) (by omega))]
    have em : (if z < (if y < x then y else x) then z else (if y < x then y else x)) = z := by (repeat' split) <;> omega
    have eM : (if z > (if y > x then y else x) then z else (if y > x then y else x)) = y := by (repeat' split) <;> omega
    have es : x + y + z - z - y = x := by omega
    go_enter Tryz.func51, Tryz.ntmps51
    go_wp2
    refine bodyPost_ret (v := .agg #[.int .i64 z, .int .i64 x, .int .i64 y]) ?_ rfl ⟨rfl, ?_⟩
    · simp [results, Tryz.results51, go_sem, es, em, eM] <;> omega
    · exact (by repeat (first | (with_reducible assumption) | (with_reducible exact Below.refl _ _) | (with_reducible refine Below.setCell ?_ (by first | omega | (simp; done) | (simp; omega)) _) | (with_reducible refine Below.alloc ?_ (by first | omega | (simp; done) | (simp; omega)) _) | (with_reducible apply Below.drew) | assumption))
  · rw [HK.out z y x (sorted_is (((List.Perm.swap x y []).cons z).trans ((List.Perm.swap x z [y]).trans ((List.Perm.swap y z []).cons x))) (by omega) (by omega))]
    have em : (if z < (if y < x then y else x) then z else (if y < x then y else x)) = z := by (repeat' split) <;> omega
    have eM : (if z > (if y > x then y else x) then z else (if y > x then y else x)) = x := by (repeat' split) <;> omega
    have es : x + y + z - z - x = y := by omega
    go_enter Tryz.func51, Tryz.ntmps51
    go_wp2
    refine bodyPost_ret (v := .agg #[.int .i64 z, .int .i64 y, .int .i64 x]) ?_ rfl ⟨rfl, ?_⟩
    · simp [results, Tryz.results51, go_sem, es, em, eM] <;> omega
    · exact (by repeat (first | (with_reducible assumption) | (with_reducible exact Below.refl _ _) | (with_reducible refine Below.setCell ?_ (by first | omega | (simp; done) | (simp; omega)) _) | (with_reducible refine Below.alloc ?_ (by first | omega | (simp; done) | (simp; omega)) _) | (with_reducible apply Below.drew) | assumption))

set_option maxRecDepth 100000 in
set_option maxHeartbeats 4000000 in
/-- ref03.insert -/
theorem rinsert_any (w : World) (base : Nat) (v : Value) (C : List I3) (x : I3) (hrow : CeRow w base v C) (hb0 : base ≤ w.heap.size) (hsort : C.Pairwise (fun a b => ¬ lt3 b a)) (hl : C.length ≤ 100000) :
    Calls Tryz.prog 50 #[v, .agg #[.int .i64 x.1, .int .i64 x.2.1, .int .i64 x.2.2]] w fun e w' => ∃ v' D, e = .returned v' ∧ CeRow w' base v' D ∧ D.Perm (C ++ [x]) ∧ D.Pairwise (fun a b => ¬ lt3 b a) ∧ Below base w w' := by
  obtain ⟨p, cap, b, rfl, hcap, hpos, hat⟩ := hrow.form
  have HR := Lib.hid hrow
  have HP := Lib.hid hpos
  have HAT := Lib.hid hat
  have HSO := Lib.hid hsort
  clear hrow hpos hat hsort
  have HX : Hid (∀ c : I3, lt3 x c ↔ (x.1 < c.1 ∨ x.1 = c.1 ∧ (x.2.1 < c.2.1 ∨ x.2.1 = c.2.1 ∧ x.2.2 < c.2.2))) := Lib.hid fun c => Iff.rfl
  obtain ⟨x0, x1, x2⟩ := x
  dsimp only at HX
  go_enter Tryz.func50, Tryz.ntmps50
  go_wp2
  go_loopw [5] (fun i wr => ∃ k : Nat, k ≤ C.length ∧ i = .int .i64 k ∧ Hid (∀ j (h : j < C.length), k ≤ j → lt3 (x0, x1, x2) C[j]) ∧ Below w.heap.size w wr ∧ (wr.cell? ⟨w.heap.size, 0, none⟩ = some (.int .i64 x0) ∧ wr.cell? ⟨w.heap.size, 1, none⟩ = some (.int .i64 x1) ∧ wr.cell? ⟨w.heap.size, 2, none⟩ = some (.int .i64 x2))) (fun i _ => (intOf i).toNat)
  case atStart => exact ⟨C.length, Nat.le_refl _, rfl, Lib.hid (fun j _ h => by omega), (by repeat (first | (with_reducible assumption) | (with_reducible exact Below.refl _ _) | (with_reducible refine Below.setCell ?_ (by first | omega | (simp; done) | (simp; omega)) _) | (with_reducible refine Below.alloc ?_ (by first | omega | (simp; done) | (simp; omega)) _) | (with_reducible apply Below.drew) | assumption)), (by simp [RX.cell_drew, RX.cell_alloc, Nat.add_assoc]), (by simp [RX.cell_drew, RX.cell_alloc, Nat.add_assoc]), (by simp [RX.cell_drew, RX.cell_alloc, Nat.add_assoc])⟩
  case round =>
    obtain ⟨k, hk, rfl, HK, hB, k0, k1, k2⟩ := hrel
    have hBs := hB.size
    obtain ⟨bt, HBT⟩ : ∃ bt : Bool, Hid ((bt = true → ∃ h : k - 1 < C.length, 0 < k ∧ lt3 (x0, x1, x2) C[k - 1]) ∧ (bt = false → ∀ h : 0 < k, ¬ lt3 (x0, x1, x2) (C[k - 1]'(by omega)))) := by
      by_cases h0 : 0 < k
      · by_cases h1 : lt3 (x0, x1, x2) (C[k - 1]'(by omega))
        · exact ⟨true, Lib.hid ⟨fun _ => ⟨by omega, h0, h1⟩, fun e => by cases e⟩⟩
        · exact ⟨false, Lib.hid ⟨fun e => (by cases e), fun _ _ => h1⟩⟩
      · exact ⟨false, Lib.hid ⟨fun e => (by cases e), fun _ h => absurd h h0⟩⟩
    go_wp2
    go_cut [64] from 8 to 66 (fun s wc => s = .bool bt ∧ Below wr.heap.size wr wc)
    case first =>
      by_cases hk0 : 0 < k
      · have hk1 : ((k : Int) - 1) = ((k - 1 : Nat) : Int) := by omega
        have hkl : k - 1 < C.length := by omega
        obtain ⟨rfl, _, _⟩ := HP.out (by omega)
        obtain ⟨d0, d1, d2⟩ := HAT.out (k - 1) hkl
        have HC : Hid ((lt3 (x0, x1, x2) C[k - 1] → bt = true) ∧ (¬ lt3 (x0, x1, x2) C[k - 1] → bt = false)) := Lib.hid ⟨fun h => by
            cases e : bt with
            | true => rfl
            | false => exact absurd h (HBT.out.2 e hk0), fun h => by
            cases e : bt with
            | false => rfl
            | true => obtain ⟨_, _, h9⟩ := HBT.out.1 e; exact absurd h9 h⟩
        obtain ⟨c, hc⟩ : ∃ c, c = C[k - 1] := ⟨_, rfl⟩
        rw [← hc] at d0 d1 d2 HC
        clear hc
        obtain ⟨c0, c1, c2⟩ := c
        replace HC := HC.out
        rw [HX.out] at HC
        dsimp only at d0 d1 d2 HC
        replace d0 := RX.keep hB d0
        replace d1 := RX.keep hB d1
        replace d2 := RX.keep hB d2
        obtain ⟨HC1, HC2⟩ := HC
        replace HC1 := Lib.hid HC1
        replace HC2 := Lib.hid HC2
        obtain ⟨kk, hkk⟩ : ∃ kk, kk = k - 1 := ⟨_, rfl⟩
        rw [← hkk] at d0 d1 d2 hk1
        have hkkl : kk < C.length := by omega
        have hkk0 : (0 : Int) ≤ (kk : Int) := by omega
        have hkkI : (kk : Int) < (C.length : Int) := by omega
        clear hkk hkl
        have hcase : x0 < c0 ∨ (x0 = c0 ∧ x1 < c1) ∨ (x0 = c0 ∧ x1 = c1 ∧ x2 < c2) ∨ (c0 < x0) ∨ (x0 = c0 ∧ c1 < x1) ∨ (x0 = c0 ∧ x1 = c1 ∧ ¬ x2 < c2) := by omega
        rcases hcase with h1 | ⟨h1, h2⟩ | ⟨h1, h2, h3⟩ | h1 | ⟨h1, h2⟩ | ⟨h1, h2, h3⟩
        · obtain rfl : bt = true := HC1.out (by omega)
          have lt0 : decide (x0 < c0) = true := decide_eq_true (by omega)
          clear HC1 HC2 HBT h1
          go_quiet (fail)
          go_wp2
          go_meet
          case rel => exact ⟨rfl, below_drewN (Below.refl _ _) _⟩
        · obtain rfl : bt = true := HC1.out (by omega)
          have lt0 : decide (x0 < c0) = false := decide_eq_false (by omega)
          have eq0 : (x0 == c0) = true := by rw [beq_iff_eq]; omega
          have lt1 : decide (x1 < c1) = true := decide_eq_true (by omega)
          clear HC1 HC2 HBT h1 h2
          go_quiet (fail)
          go_wp2
          go_meet
          case rel => exact ⟨rfl, below_drewN (Below.refl _ _) _⟩
        · obtain rfl : bt = true := HC1.out (by omega)
          have lt0 : decide (x0 < c0) = false := decide_eq_false (by omega)
          have eq0 : (x0 == c0) = true := by rw [beq_iff_eq]; omega
          have lt1 : decide (x1 < c1) = false := decide_eq_false (by omega)
          have eq1 : (x1 == c1) = true := by rw [beq_iff_eq]; omega
          have lt2 : decide (x2 < c2) = true := decide_eq_true (by omega)
          clear HC1 HC2 HBT h1 h2 h3
          go_quiet (fail)
          go_wp2
          go_meet
          case rel => exact ⟨rfl, below_drewN (Below.refl _ _) _⟩
        · obtain rfl : bt = false := HC2.out (by omega)
          have lt0 : decide (x0 < c0) = false := decide_eq_false (by omega)
          have eq0 : (x0 == c0) = false := by rw [beq_eq_false_iff_ne]; omega
          clear HC1 HC2 HBT h1
          go_quiet (fail)
          go_wp2
          go_meet
          case rel => exact ⟨rfl, below_drewN (Below.refl _ _) _⟩
        · obtain rfl : bt = false := HC2.out (by omega)
          have lt0 : decide (x0 < c0) = false := decide_eq_false (by omega)
          have eq0 : (x0 == c0) = true := by rw [beq_iff_eq]; omega
          have lt1 : decide (x1 < c1) = false := decide_eq_false (by omega)
          have eq1 : (x1 == c1) = false := by rw [beq_eq_false_iff_ne]; omega
          clear HC1 HC2 HBT h1 h2
          go_quiet (fail)
          go_wp2
          go_meet
          case rel => exact ⟨rfl, below_drewN (Below.refl _ _) _⟩
        · obtain rfl : bt = false := HC2.out (by omega)
          have lt0 : decide (x0 < c0) = false := decide_eq_false (by omega)
          have eq0 : (x0 == c0) = true := by rw [beq_iff_eq]; omega
          have lt1 : decide (x1 < c1) = false := decide_eq_false (by omega)
          have eq1 : (x1 == c1) = true := by rw [beq_iff_eq]; omega
          have lt2 : decide (x2 < c2) = false := decide_eq_false (by omega)
          clear HC1 HC2 HBT h1 h2 h3
          go_quiet (fail)
          go_wp2
          go_meet
          case rel => exact ⟨rfl, below_drewN (Below.refl _ _) _⟩
      · obtain rfl : k = 0 := by omega
        obtain rfl : bt = false := by
          cases e : bt with
          | false => rfl
          | true => obtain ⟨_, h9, _⟩ := HBT.out.1 e; exact absurd h9 hk0
        clear HBT
        go_quiet (fail)
        go_wp2
        go_meet
        case rel => exact ⟨rfl, below_drewN (Below.refl _ _) _⟩
    case rest =>
      obtain ⟨rfl, hBc⟩ := hcut
      replace k0 := RX.keep hBc k0
      replace k1 := RX.keep hBc k1
      replace k2 := RX.keep hBc k2
      have hBcs := hBc.size
      replace hB := hB.trans (hBc.mono hBs)
      clear hBc
      cases bt with
      | true =>
        obtain ⟨hkl, hk0, hlt⟩ := HBT.out.1 rfl
        have HK2 : Hid (∀ j (h : j < C.length), k - 1 ≤ j → lt3 (x0, x1, x2) C[j]) := Lib.hid (fun j h hj => by
          by_cases e : j = k - 1
          · subst e; exact hlt
          · exact HK.out j h (by omega))
        have hk1 : ((k : Int) - 1) = ((k - 1 : Nat) : Int) := by omega
        clear hlt HBT HK
        go_wp2
        go_roundw
        case rel => first | exact ⟨k - 1, by omega, by first | rfl | rw [hk1], HK2, (by repeat (first | (with_reducible assumption) | (with_reducible exact Below.refl _ _) | (with_reducible refine Below.setCell ?_ (by first | omega | (simp; done) | (simp; omega)) _) | (with_reducible refine Below.alloc ?_ (by first | omega | (simp; done) | (simp; omega)) _) | (with_reducible apply Below.drew) | assumption)), k0, k1, k2⟩ | ((repeat apply Exists.intro); exact ⟨⟨k - 1, by omega, by first | rfl | rw [hk1], HK2, (by repeat (first | (with_reducible assumption) | (with_reducible exact Below.refl _ _) | (with_reducible refine Below.setCell ?_ (by first | omega | (simp; done) | (simp; omega)) _) | (with_reducible refine Below.alloc ?_ (by first | omega | (simp; done) | (simp; omega)) _) | (with_reducible apply Below.drew) | assumption)), k0, k1, k2⟩, rfl⟩)
        case measure => simp [intOf]; omega
      | false =>
        have HF : Hid (∀ h : 0 < k, ¬ lt3 (x0, x1, x2) (C[k - 1]'(by omega))) := Lib.hid (HBT.out.2 rfl)
        clear HBT
        have HFIN : Hid ((C.take k ++ (x0, x1, x2) :: C.drop k).Perm (C ++ [(x0, x1, x2)]) ∧ (C.take k ++ (x0, x1, x2) :: C.drop k).Pairwise (fun a b => ¬ lt3 b a)) := Lib.hid ⟨ins_perm' (List.Perm.refl _), ins3_sorted HSO.out hk HK.out HF.out⟩
        clear HF HK
        have hown := (HR.out.kept (hB))
        have hown1 := World.ownsRow.alloc hown (.cells #[.int .i64 0, .int .i64 0, .int .i64 0] 34)
        have hb1 : Below base w (wc.alloc (.cells #[.int .i64 0, .int .i64 0, .int .i64 0] 34)) := (hB.mono hb0).alloc (by omega) _
        clear hown
        go_wp2_with (refine RX.wpl_apq (by rfl) elCell3 _ _ (by rfl) base _ _ _ hown1 (by rfl) wc.heap.size _ 1 (by rfl) (heap_alloc_new _ _) (by rfl) (by simp [Value.oneCell']) (by omega) (by omega) (by simp; omega) ?_; intro v1 w1 hown2 hb2 hg2 hat2; obtain ⟨g, cap1, hv1, hbg, hglt⟩ := hown2.form (by omega); subst hv1)
        have hnb : ∀ q, (Value.slice p C.length cap).ownBlock = some q → q < w.heap.size := fun q h => (HR.out.lt q h).2
        have hgw : w.heap.size ≠ g := by
          rcases hat2 with h | h
          · have := hnb g (by rw [← h]; rfl); omega
          · have h9 : some g = some (wc.alloc (.cells #[.int .i64 0, .int .i64 0, .int .i64 0] 34)).heap.size := h
            injection h9 with h9
            simp at h9; omega
        have hne : some w.heap.size ≠ (Value.slice p C.length cap).ownBlock := fun e => by have := hnb _ e.symm; omega
        have k0' : (wc.alloc (.cells #[.int .i64 0, .int .i64 0, .int .i64 0] 34)).cell? ⟨w.heap.size, 0, none⟩ = some (.int .i64 x0) := (by (try have hLt := World.block_lt_of_cell? _ _ k0); (try simp only at hLt); (repeat first | rw [RX.cell_drew] | rw [World.cell?_setCell_other _ _ _ _ (by first | (simp; done) | (simp; omega) | omega)] | rw [RX.cell_alloc, if_neg (by first | (simp; done) | (simp; omega) | omega)]); first | exact k0 | (rw [RX.cell_alloc, if_pos (by first | (simp; done) | omega)]; exact k0))
        have k1' : (wc.alloc (.cells #[.int .i64 0, .int .i64 0, .int .i64 0] 34)).cell? ⟨w.heap.size, 1, none⟩ = some (.int .i64 x1) := (by (try have hLt := World.block_lt_of_cell? _ _ k1); (try simp only at hLt); (repeat first | rw [RX.cell_drew] | rw [World.cell?_setCell_other _ _ _ _ (by first | (simp; done) | (simp; omega) | omega)] | rw [RX.cell_alloc, if_neg (by first | (simp; done) | (simp; omega) | omega)]); first | exact k1 | (rw [RX.cell_alloc, if_pos (by first | (simp; done) | omega)]; exact k1))
        have k2' : (wc.alloc (.cells #[.int .i64 0, .int .i64 0, .int .i64 0] 34)).cell? ⟨w.heap.size, 2, none⟩ = some (.int .i64 x2) := (by (try have hLt := World.block_lt_of_cell? _ _ k2); (try simp only at hLt); (repeat first | rw [RX.cell_drew] | rw [World.cell?_setCell_other _ _ _ _ (by first | (simp; done) | (simp; omega) | omega)] | rw [RX.cell_alloc, if_neg (by first | (simp; done) | (simp; omega) | omega)]); first | exact k2 | (rw [RX.cell_alloc, if_pos (by first | (simp; done) | omega)]; exact k2))
        replace k0' := hg2.cell k0' hne
        replace k1' := hg2.cell k1' hne
        replace k2' := hg2.cell k2' hne
        have hB1 := hb1.trans hb2
        have hc1 : C.length + 1 ≤ cap1 := by
          obtain ⟨_, _, h9, h10⟩ := own_slice hown2
          injection h9 with _ _ h9
          omega
        have hown3 : World.ownsRow w1.drew base 34 3 (.slice (some ⟨g, 0, none⟩) (C.length + 1) cap1) (C.length + 1) (C.flatMap enc3 ++ [.int .i64 0, .int .i64 0, .int .i64 0]) := hown2
        obtain ⟨cur, hcur, hsz, hbg2, hsrc, hex, hfz, HM⟩ := CeRow.moved (k := k) (x := (x0, x1, x2)) hk hown3
        have hdl : ((C.drop k).flatMap enc3).length = (C.length - k) * 3 := by rw [enc3_len, List.length_drop]
        clear hown3 hown2 hown1 hg2 hb2 hat2 hnb hne k0 k1 k2 hb1
        have hks : (0 : Int) ≤ (k : Int) := by omega
        have hk1 : (k : Int) + 1 ≤ (C.length : Int) + 1 := by omega
        have hck : ¬ cap1 = k := by omega
        have HMX := Lib.hid (And.intro HM (And.intro hex hfz))
        clear HM hex hfz
        obtain ⟨cs, hcs⟩ : ∃ cs, cs = (C.drop k).flatMap enc3 := ⟨_, rfl⟩
        rw [← hcs] at hsrc hdl HMX
        have HCS := Lib.hid hcs
        clear hcs
        have HSRC := Lib.hid hsrc
        clear hsrc
        by_cases hce : cap1 = k + 1
        · have hkC : ¬ k < C.length := by omega
          go_wp2
          refine RX.region RX.fL (fun _ => True) (by kernel_rfl) (by kernel_rfl) (trivial) (fun OPS HO QR hQR => ?_)
          repeat
            refine RX.step (fun R hR => ?_)
            first
            | (refine RX.one_skip (by first | rfl | (rw [HO.out]; rfl)) (by simp only [RX.put_some, RX.put_none, List.set_cons_zero, List.set_cons_succ]; rfl) ?_
               refine hR _ _ ?_; clear hR R)
            | (refine RX.one_move (by first | rfl | (rw [HO.out]; rfl)) rfl (by first | exact Or.inl rfl | exact Or.inr rfl) (by simp only [RX.eval_tmp, RX.eval_const, List.getD_cons_zero, List.getD_cons_succ]; rfl) (by simp only [RX.put_some, RX.put_none, List.set_cons_zero, List.set_cons_succ]; rfl) ?_
               refine hR _ _ ?_; clear hR R)
            | (refine RX.one_nil (by first | rfl | (rw [HO.out]; rfl)) rfl rfl (by simp only [RX.eval_tmp, RX.eval_const, List.getD_cons_zero, List.getD_cons_succ]; rfl) (by simp only [RX.put_some, RX.put_none, List.set_cons_zero, List.set_cons_succ]; rfl) ?_
               refine hR _ _ ?_; clear hR R)
            | (refine RX.one_float (by first | rfl | (rw [HO.out]; rfl)) rfl rfl rfl ?_
               apply Exists.intro; apply Exists.intro
               refine ⟨fun w' hS K hK => ?_, ?_, ?_⟩
               · go_wp2; exact hK _ _ (by simp only [RX.arr_getD, List.getD_cons_zero, List.getD_cons_succ]; first | exact RX.dec_t (by omega) | exact RX.dec_f (by omega) | exact RX.beq_t (by omega) | exact RX.beq_f (by omega) | exact RX.bne_t (by omega) | exact RX.bne_f (by omega) | exact RX.bneB _ | rfl) rfl
               · simp only [RX.put_some, RX.put_none, List.set_cons_zero, List.set_cons_succ]; rfl
               refine hR _ _ ?_; clear hR R)
          refine RX.step (fun R hR => ?_)
          refine RX.one_chain (by first | rfl | (rw [HO.out]; rfl)) rfl (fun K hK => ?_)
          refine RX.wp_copyK _ _ 28 28 34 rfl 3 Tryz.underlying28 (by kernel_rfl) g ((k + 1) * 3) _ _ _ _ _ _ (by simp only [RX.eval_tmp, RX.eval_const, List.getD_cons_zero, List.getD_cons_succ]; rfl) (by simp only [RX.eval_tmp, RX.eval_const, List.getD_cons_zero, List.getD_cons_succ]; rfl) cur 34 hcur cs (C.length - k) ?_ hdl (fun h => absurd h (by omega)) (fun _ => ⟨⟨g, k * 3, none⟩, rfl, fun j u hj => ?_⟩) ?_ ?_ ?_
          · show C.length - k = min (C.length + 1 - k) (C.length - k); omega
          · have h9 := HSRC.out j u hj
            unfold Addr.add
            split
            · rename_i h0; subst h0; exact h9
            · exact h9
          · rw [hdl]; omega
          · intro u hu; rw [HCS.out] at hu; exact enc3_one u hu
          refine hK _ _ ⟨trivial, ?_⟩; clear hK K; refine RX.at_ (by simp only [RX.put_some, RX.put_none, List.set_cons_zero, List.set_cons_succ]; rfl) (hR _ _ ?_); clear hR R
          repeat
            refine RX.step (fun R hR => ?_)
            first
            | (refine RX.one_skip (by first | rfl | (rw [HO.out]; rfl)) (by simp only [RX.put_some, RX.put_none, List.set_cons_zero, List.set_cons_succ]; rfl) ?_
               refine hR _ _ ?_; clear hR R)
            | (refine RX.one_move (by first | rfl | (rw [HO.out]; rfl)) rfl (by first | exact Or.inl rfl | exact Or.inr rfl) (by simp only [RX.eval_tmp, RX.eval_const, List.getD_cons_zero, List.getD_cons_succ]; rfl) (by simp only [RX.put_some, RX.put_none, List.set_cons_zero, List.set_cons_succ]; rfl) ?_
               refine hR _ _ ?_; clear hR R)
            | (refine RX.one_nil (by first | rfl | (rw [HO.out]; rfl)) rfl rfl (by simp only [RX.eval_tmp, RX.eval_const, List.getD_cons_zero, List.getD_cons_succ]; rfl) (by simp only [RX.put_some, RX.put_none, List.set_cons_zero, List.set_cons_succ]; rfl) ?_
               refine hR _ _ ?_; clear hR R)
            | (refine RX.one_float (by first | rfl | (rw [HO.out]; rfl)) rfl rfl rfl ?_
               apply Exists.intro; apply Exists.intro
               refine ⟨fun w' hS K hK => ?_, ?_, ?_⟩
               · go_wp2; exact hK _ _ (by simp only [RX.arr_getD, List.getD_cons_zero, List.getD_cons_succ]; first | exact RX.dec_t (by omega) | exact RX.dec_f (by omega) | exact RX.beq_t (by omega) | exact RX.beq_f (by omega) | exact RX.bne_t (by omega) | exact RX.bne_f (by omega) | exact RX.bneB _ | rfl) rfl
               · simp only [RX.put_some, RX.put_none, List.set_cons_zero, List.set_cons_succ]; rfl
               refine hR _ _ ?_; clear hR R)
          refine RX.wpL_nil (hQR _ _ (trivial) ?_); clear hQR QR HO OPS
          refine absW (F := fun w' => (w'.cell? ⟨w.heap.size, 0, none⟩ = some (.int .i64 x0) ∧ w'.cell? ⟨w.heap.size, 1, none⟩ = some (.int .i64 x1) ∧ w'.cell? ⟨w.heap.size, 2, none⟩ = some (.int .i64 x2)) ∧ ((∃ u, w'.cell? ⟨g, k * 3, none⟩ = some u) ∧ (∃ u, w'.cell? ⟨g, k * 3 + 1, none⟩ = some u) ∧ (∃ u, w'.cell? ⟨g, k * 3 + 2, none⟩ = some u)) ∧ (w'.frozen? ⟨g, k * 3, none⟩ = false ∧ w'.frozen? ⟨g, k * 3 + 1, none⟩ = false ∧ w'.frozen? ⟨g, k * 3 + 2, none⟩ = false) ∧ CeRow (((w'.setCell ⟨g, k * 3, none⟩ (.int .i64 x0)).setCell ⟨g, k * 3 + 1, none⟩ (.int .i64 x1)).setCell ⟨g, k * 3 + 2, none⟩ (.int .i64 x2)) base (.slice (some ⟨g, 0, none⟩) (C.length + 1) cap1) (C.take k ++ (x0, x1, x2) :: C.drop k) ∧ Below base w w') ⟨⟨?_, ?_, ?_⟩, ⟨HMX.out.2.1 0 (by omega), HMX.out.2.1 1 (by omega), HMX.out.2.1 2 (by omega)⟩, ⟨HMX.out.2.2 _, HMX.out.2.2 _, HMX.out.2.2 _⟩, HMX.out.1, below_setRow hB1.drew (by omega) _⟩ ?_
          · rw [cell_setRow_other _ _ _ _ hgw]; exact k0'
          · rw [cell_setRow_other _ _ _ _ hgw]; exact k1'
          · rw [cell_setRow_other _ _ _ _ hgw]; exact k2'
          rintro w2 ⟨⟨m0, m1, m2⟩, ⟨⟨u0, e0⟩, ⟨u1, e1⟩, ⟨u2, e2⟩⟩, ⟨f0, f1, f2⟩, HM, HB2⟩
          have HM := Lib.hid HM
          have HB2 := Lib.hid HB2
          clear k0' k1' k2' HMX
          have hks1 : (k : Int) < (C.length : Int) + 1 := by omega
          go_wp2
          refine bodyPost_ret (v := .slice (some ⟨g, 0, none⟩) (C.length + 1) cap1) (by simp [results, Tryz.results50, go_sem] <;> omega) rfl ?_
          exact ⟨_, _, rfl, HM.out, HFIN.out.1, HFIN.out.2, ((HB2.out.setCell (by omega) _).setCell (by omega) _).setCell (by omega) _⟩
        · go_wp2
          refine RX.region RX.fL (fun _ => True) (by kernel_rfl) (by kernel_rfl) (trivial) (fun OPS HO QR hQR => ?_)
          repeat
            refine RX.step (fun R hR => ?_)
            first
            | (refine RX.one_skip (by first | rfl | (rw [HO.out]; rfl)) (by simp only [RX.put_some, RX.put_none, List.set_cons_zero, List.set_cons_succ]; rfl) ?_
               refine hR _ _ ?_; clear hR R)
            | (refine RX.one_move (by first | rfl | (rw [HO.out]; rfl)) rfl (by first | exact Or.inl rfl | exact Or.inr rfl) (by simp only [RX.eval_tmp, RX.eval_const, List.getD_cons_zero, List.getD_cons_succ]; rfl) (by simp only [RX.put_some, RX.put_none, List.set_cons_zero, List.set_cons_succ]; rfl) ?_
               refine hR _ _ ?_; clear hR R)
            | (refine RX.one_nil (by first | rfl | (rw [HO.out]; rfl)) rfl rfl (by simp only [RX.eval_tmp, RX.eval_const, List.getD_cons_zero, List.getD_cons_succ]; rfl) (by simp only [RX.put_some, RX.put_none, List.set_cons_zero, List.set_cons_succ]; rfl) ?_
               refine hR _ _ ?_; clear hR R)
            | (refine RX.one_float (by first | rfl | (rw [HO.out]; rfl)) rfl rfl rfl ?_
               apply Exists.intro; apply Exists.intro
               refine ⟨fun w' hS K hK => ?_, ?_, ?_⟩
               · go_wp2; exact hK _ _ (by simp only [RX.arr_getD, List.getD_cons_zero, List.getD_cons_succ]; first | exact RX.dec_t (by omega) | exact RX.dec_f (by omega) | exact RX.beq_t (by omega) | exact RX.beq_f (by omega) | exact RX.bne_t (by omega) | exact RX.bne_f (by omega) | exact RX.bneB _ | rfl) rfl
               · simp only [RX.put_some, RX.put_none, List.set_cons_zero, List.set_cons_succ]; rfl
               refine hR _ _ ?_; clear hR R)
          refine RX.step (fun R hR => ?_)
          refine RX.one_chain (by first | rfl | (rw [HO.out]; rfl)) rfl (fun K hK => ?_)
          refine RX.wp_copyK _ _ 28 28 34 rfl 3 Tryz.underlying28 (by kernel_rfl) g ((k + 1) * 3) _ _ _ _ _ _ (by simp only [RX.eval_tmp, RX.eval_const, List.getD_cons_zero, List.getD_cons_succ]; rfl) (by simp only [RX.eval_tmp, RX.eval_const, List.getD_cons_zero, List.getD_cons_succ]; rfl) cur 34 hcur cs (C.length - k) ?_ hdl (fun _ => rfl) (fun _ => ⟨⟨g, k * 3, none⟩, rfl, fun j u hj => ?_⟩) ?_ ?_ ?_
          · show C.length - k = min (C.length + 1 - k) (C.length - k); omega
          · have h9 := HSRC.out j u hj
            unfold Addr.add
            split
            · rename_i h0; subst h0; exact h9
            · exact h9
          · rw [hdl]; omega
          · intro u hu; rw [HCS.out] at hu; exact enc3_one u hu
          refine hK _ _ ⟨trivial, ?_⟩; clear hK K; refine RX.at_ (by simp only [RX.put_some, RX.put_none, List.set_cons_zero, List.set_cons_succ]; rfl) (hR _ _ ?_); clear hR R
          repeat
            refine RX.step (fun R hR => ?_)
            first
            | (refine RX.one_skip (by first | rfl | (rw [HO.out]; rfl)) (by simp only [RX.put_some, RX.put_none, List.set_cons_zero, List.set_cons_succ]; rfl) ?_
               refine hR _ _ ?_; clear hR R)
            | (refine RX.one_move (by first | rfl | (rw [HO.out]; rfl)) rfl (by first | exact Or.inl rfl | exact Or.inr rfl) (by simp only [RX.eval_tmp, RX.eval_const, List.getD_cons_zero, List.getD_cons_succ]; rfl) (by simp only [RX.put_some, RX.put_none, List.set_cons_zero, List.set_cons_succ]; rfl) ?_
               refine hR _ _ ?_; clear hR R)
            | (refine RX.one_nil (by first | rfl | (rw [HO.out]; rfl)) rfl rfl (by simp only [RX.eval_tmp, RX.eval_const, List.getD_cons_zero, List.getD_cons_succ]; rfl) (by simp only [RX.put_some, RX.put_none, List.set_cons_zero, List.set_cons_succ]; rfl) ?_
               refine hR _ _ ?_; clear hR R)
            | (refine RX.one_float (by first | rfl | (rw [HO.out]; rfl)) rfl rfl rfl ?_
               apply Exists.intro; apply Exists.intro
               refine ⟨fun w' hS K hK => ?_, ?_, ?_⟩
               · go_wp2; exact hK _ _ (by simp only [RX.arr_getD, List.getD_cons_zero, List.getD_cons_succ]; first | exact RX.dec_t (by omega) | exact RX.dec_f (by omega) | exact RX.beq_t (by omega) | exact RX.beq_f (by omega) | exact RX.bne_t (by omega) | exact RX.bne_f (by omega) | exact RX.bneB _ | rfl) rfl
               · simp only [RX.put_some, RX.put_none, List.set_cons_zero, List.set_cons_succ]; rfl
               refine hR _ _ ?_; clear hR R)
          refine RX.wpL_nil (hQR _ _ (trivial) ?_); clear hQR QR HO OPS
          refine absW (F := fun w' => (w'.cell? ⟨w.heap.size, 0, none⟩ = some (.int .i64 x0) ∧ w'.cell? ⟨w.heap.size, 1, none⟩ = some (.int .i64 x1) ∧ w'.cell? ⟨w.heap.size, 2, none⟩ = some (.int .i64 x2)) ∧ ((∃ u, w'.cell? ⟨g, k * 3, none⟩ = some u) ∧ (∃ u, w'.cell? ⟨g, k * 3 + 1, none⟩ = some u) ∧ (∃ u, w'.cell? ⟨g, k * 3 + 2, none⟩ = some u)) ∧ (w'.frozen? ⟨g, k * 3, none⟩ = false ∧ w'.frozen? ⟨g, k * 3 + 1, none⟩ = false ∧ w'.frozen? ⟨g, k * 3 + 2, none⟩ = false) ∧ CeRow (((w'.setCell ⟨g, k * 3, none⟩ (.int .i64 x0)).setCell ⟨g, k * 3 + 1, none⟩ (.int .i64 x1)).setCell ⟨g, k * 3 + 2, none⟩ (.int .i64 x2)) base (.slice (some ⟨g, 0, none⟩) (C.length + 1) cap1) (C.take k ++ (x0, x1, x2) :: C.drop k) ∧ Below base w w') ⟨⟨?_, ?_, ?_⟩, ⟨HMX.out.2.1 0 (by omega), HMX.out.2.1 1 (by omega), HMX.out.2.1 2 (by omega)⟩, ⟨HMX.out.2.2 _, HMX.out.2.2 _, HMX.out.2.2 _⟩, HMX.out.1, below_setRow hB1.drew (by omega) _⟩ ?_
          · rw [cell_setRow_other _ _ _ _ hgw]; exact k0'
          · rw [cell_setRow_other _ _ _ _ hgw]; exact k1'
          · rw [cell_setRow_other _ _ _ _ hgw]; exact k2'
          rintro w2 ⟨⟨m0, m1, m2⟩, ⟨⟨u0, e0⟩, ⟨u1, e1⟩, ⟨u2, e2⟩⟩, ⟨f0, f1, f2⟩, HM, HB2⟩
          have HM := Lib.hid HM
          have HB2 := Lib.hid HB2
          clear k0' k1' k2' HMX
          have hks1 : (k : Int) < (C.length : Int) + 1 := by omega
          go_wp2
          refine bodyPost_ret (v := .slice (some ⟨g, 0, none⟩) (C.length + 1) cap1) (by simp [results, Tryz.results50, go_sem] <;> omega) rfl ?_
          exact ⟨_, _, rfl, HM.out, HFIN.out.1, HFIN.out.2, ((HB2.out.setCell (by omega) _).setCell (by omega) _).setCell (by omega) _⟩
end Go.Proofs.YtlfhildbjipheaaGreatDoor
