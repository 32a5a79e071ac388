import Derived.Test.YtlfhildbjipheaaGreatDoorRCells
import Derived.Test.YtlfhildbjipheaaGreatDoorKRefB
import Derived.Test.YtlfhildbjipheaaGreatDoorRd
import Derived.Test.YtlfhildbjipheaaGreatDoorKEdges
import Derived.Test.YtlfhildbjipheaaGreatDoorKFreq
import Derived.BigQuiet
import Derived.Deep.QuietTactic
set_option linter.unusedSimpArgs false
set_option linter.unusedVariables false
namespace Go.Proofs.YtlfhildbjipheaaGreatDoor
open Go.RowKit Go.Grid Go.Maps Go.Sort Go.Shelf

/-- A row of M rows of numbers, at block N, whose rows lie behind it. -/
def AroAt (w : World) (N M : Nat) (ls : Nat → List Int) : Prop := ∃ vs : Nat → Value, w.rowIs N 23 M vs ∧ ∀ i, i < M → w.ownsRow (N + 1) 3 1 (vs i) (ls i).length ((ls i).map (Value.int .i64))
theorem AroAt.made (w : World) (M : Nat) : AroAt (w.alloc (.cells (madeCells #[.slice none 0 0] M) 23)) w.heap.size M (fun _ => []) :=
  ⟨fun _ => .slice none 0 0, World.rowIs_made w _ M _, fun _ _ => World.ownsRow_nil _ _ _ _⟩
theorem AroAt.lt {w : World} {N M : Nat} {ls : Nat → List Int} (h : AroAt w N M ls) : N < w.heap.size := by
  obtain ⟨vs, h1, _⟩ := h; exact h1.lt
theorem AroAt.below {w w' : World} {N M : Nat} {ls : Nat → List Int} (h : AroAt w N M ls) (hb : Below w.heap.size w w') : AroAt w' N M ls := by
  obtain ⟨vs, h1, h2⟩ := h
  exact ⟨vs, h1.of_block (hb.block N h1.lt), fun i hi => own_below (h2 i hi) hb⟩
theorem AroAt.put {w w' : World} {N M a : Nat} {ls : Nat → List Int} (h : AroAt w N M ls) (hb : Below w.heap.size w w') (ha : a < M) {v' : Value} {l' : List Int} (hown : w'.ownsRow (N + 1) 3 1 v' l'.length (l'.map (Value.int .i64))) : AroAt (w'.setCell ⟨N, a, none⟩ v') N M (setTo ls a l') := by
  obtain ⟨vs, h1, h2⟩ := h
  refine ⟨fun i => if i = a then v' else vs i, (h1.of_block (hb.block N h1.lt)).set a v', fun i hi => ?_⟩
  dsimp only
  unfold setTo
  by_cases hia : i = a
  · rw [if_pos hia, if_pos hia]
    exact ownsRow_setCell_other hown (fun e => by have h9 := (hown.lt N e).1; omega) _
  · rw [if_neg hia, if_neg hia]
    exact ownsRow_setCell_other (own_below (h2 i hi) hb) (fun e => by have h9 := ((h2 i hi).lt N e).1; omega) _
theorem AroAt.row {w : World} {N M a : Nat} {ls : Nat → List Int} (h : AroAt w N M ls) (ha : a < M) : ∃ p cap b, w.cell? ⟨N, a, none⟩ = some (.slice p (ls a).length cap) ∧ w.frozen? ⟨N, a, none⟩ = false ∧ (ls a).length ≤ cap ∧ (0 < (ls a).length → p = some ⟨b, 0, none⟩ ∧ N < b ∧ b < w.heap.size) ∧
    (∀ j (hj : j < (ls a).length), w.cell? ⟨b, j, none⟩ = some (.int .i64 (ls a)[j])) ∧ (p = none → cap = 0) ∧ w.ownsRow (N + 1) 3 1 (.slice p (ls a).length cap) (ls a).length ((ls a).map (Value.int .i64)) := by
  obtain ⟨vs, h1, h2⟩ := h
  have hc := h1.cell ha
  have hf := h1.frozen a
  have ho := h2 a ha
  rcases ho.2 with ⟨e1, e2⟩ | ⟨g, cap, cur, e1, e2, e3, e4, _⟩
  · have h0 : (ls a).length = 0 := e2
    rw [e1] at hc ho
    exact ⟨none, 0, 0, by rw [h0]; exact hc, hf, by omega, fun hh => by omega, fun j hj => by omega, fun _ => rfl, by rw [h0]; rw [h0] at ho; exact ho⟩
  · rw [e1] at hc ho
    refine ⟨_, cap, g, hc, hf, e4, fun _ => ⟨rfl, e2, (ho.lt g rfl).2⟩, fun j hj => ?_, (by intro e; cases e), ho⟩
    have h9 := World.ownsRow.cellAt ho j (by omega)
    rw [List.getElem?_map, List.getElem?_eq_getElem hj] at h9
    exact h9
abbrev vI (l : List Int) : List Value := l.map (Value.int .i64)
theorem own_ins {w : World} {base base' : Nat} {v : Value} {l : List Int} {k m : Nat} {x : Int} (hk : k ≤ l.length) (hm : m = l.length - k) (h : w.ownsRow base 3 1 v (k + (1 + m)) (vI (l.take k) ++ (#[Value.int .i64 x].toList ++ vI (l.drop k)))) (hb : base' ≤ base) : w.ownsRow base' 3 1 v (l.take k ++ x :: l.drop k).length ((l.take k ++ x :: l.drop k).map (Value.int .i64)) := by
  have e1 : (l.take k ++ x :: l.drop k).length = k + (1 + m) := by
    rw [List.length_append, List.length_take, List.length_cons, List.length_drop]; omega
  have e2 : (l.take k ++ x :: l.drop k).map (Value.int .i64) = vI (l.take k) ++ (#[Value.int .i64 x].toList ++ vI (l.drop k)) := by
    rw [List.map_append, List.map_cons]; rfl
  rw [e1, e2]
  exact own_mono h hb
theorem vI_one (l : List Int) : ∀ u ∈ vI l, u.oneCell' = true := fun u hu => by
  obtain ⟨x, _, rfl⟩ := List.mem_map.1 hu; rfl
theorem vI_ins (x : Int) (l : List Int) : ∀ u ∈ #[Value.int .i64 x].toList ++ vI l, u.oneCell' = true := fun u hu => by
  rcases List.mem_append.1 hu with hu | hu
  · simp only [List.mem_cons, List.not_mem_nil, or_false] at hu; subst hu; rfl
  · exact vI_one l u hu
theorem cellsS_len {n : Nat} (h8 : n ≤ 8) : (cellsS n).length ≤ 5000 := by
  have := len_csofar (f := 20) (a := 0) (b := 0) h8 (by omega) (by omega) (by omega)
  rw [csofar_end] at this
  unfold cellsS sort3 cells3
  rw [List.length_mergeSort, List.length_map]; exact this
/-- The rows so far. -/
structure Aro (w : World) (N M : Nat) (P : List (Nat × Int)) (T : Nat) : Prop where
  ex : ∃ ls, AroAt w N M ls ∧ RowsOk ls P ∧ ∀ i, (ls i).length ≤ T
theorem Aro.below {w w' : World} {N M T : Nat} {P : List (Nat × Int)} (h : Aro w N M P T) (hb : Below w.heap.size w w') : Aro w' N M P T := by
  obtain ⟨ls, h1, h2⟩ := h.ex
  exact ⟨ls, h1.below hb, h2⟩
theorem Aro.lt {w : World} {N M T : Nat} {P : List (Nat × Int)} (h : Aro w N M P T) : N < w.heap.size := by
  obtain ⟨ls, h1, _⟩ := h.ex; exact h1.lt

/-- The six pairs of a cell with the nodes a0, a1, a2. -/
def sixL (a0 a1 a2 : Nat) : List (Nat × Int) := [(a0, (a1 : Int)), (a0, (a2 : Int)), (a1, (a2 : Int)), (a1, (a0 : Int)), (a2, (a0 : Int)), (a2, (a1 : Int))]
theorem blkCell {w : World} {T j : Nat} {arr : Array Value} {ty : TypeId} {v : Value} (h : w.heap[T]? = some (.cells arr ty (0, 0))) (hv : arr[j]? = some v) : w.cell? ⟨T, j, none⟩ = some v := by
  simp only [World.cell?, h]; exact hv
theorem six_cells {w : World} {T a0 a1 a2 : Nat} {ty : TypeId} (h : w.heap[T]? = some (.cells #[.int .i64 (a0 : Int), .int .i64 (a1 : Int), .int .i64 (a0 : Int), .int .i64 (a2 : Int), .int .i64 (a1 : Int), .int .i64 (a2 : Int), .int .i64 (a1 : Int), .int .i64 (a0 : Int), .int .i64 (a2 : Int), .int .i64 (a0 : Int), .int .i64 (a2 : Int), .int .i64 (a1 : Int)] ty (0, 0))) :
    ∀ q (hq : q < (sixL a0 a1 a2).length), w.cell? ⟨T, q * 2, none⟩ = some (.int .i64 (((sixL a0 a1 a2)[q].1 : Nat) : Int)) ∧ w.cell? ⟨T, q * 2 + 1, none⟩ = some (.int .i64 (sixL a0 a1 a2)[q].2) := by
  intro q hq
  have : q = 0 ∨ q = 1 ∨ q = 2 ∨ q = 3 ∨ q = 4 ∨ q = 5 := by simp [sixL] at hq; omega
  rcases this with rfl | rfl | rfl | rfl | rfl | rfl <;> exact ⟨blkCell h rfl, blkCell h rfl⟩

set_option maxRecDepth 100000 in
set_option maxHeartbeats 4000000 in
/-- ref03.around -/
theorem raround_any (n : Nat) (h1 : 1 ≤ n) (h8 : n ≤ 8) (w : World) : Calls Tryz.prog 53 #[.int .i64 n] w fun e w' => ∃ N, e = .returned (.slice (some ⟨N, 0, none⟩) (nodesL n).length (nodesL n).length) ∧ AroAt w' N (nodesL n).length (nextL n) ∧ w.heap.size ≤ N ∧ Below w.heap.size w w' := by
  obtain ⟨M, hM⟩ : ∃ M, M = (nodesL n).length := ⟨_, rfl⟩
  have hcM : countI (n : Int) = (M : Int) := by
    rw [(countI_nat h1 h8).1, hM, nodes_len h1 h8]; simp
  have hM2 : M ≤ 2000 := by rw [hM]; exact (nodes_fit h1 h8).2
  rw [← hM]
  have HM := Lib.hid hM
  have HCM := Lib.hid hcM
  clear hM hcM
  go_enter Tryz.func53, Tryz.ntmps53
  go_wp2_with fail
  refine (rcells_any n h1 h8 _).mono ?_
  rintro e w1 ⟨v, rfl, hrow, hB1⟩
  have hBs1 := hB1.size
  obtain ⟨p, cap, bC, rfl, hcap, hpos, hat⟩ := hrow.form
  have HPOS := Lib.hid hpos
  have HAT := Lib.hid hat
  clear hpos hat hrow
  obtain ⟨CL, hCL⟩ : ∃ CL, CL = (cellsS n).length := ⟨_, rfl⟩
  have hCL5 : CL ≤ 5000 := by rw [hCL]; exact cellsS_len h8
  rw [← hCL] at hcap ⊢
  have HCL := Lib.hid hCL
  clear hCL
  go_wp2_with fail
  refine (rcount_any n _).mono ?_
  rintro e w2 ⟨rfl, rfl⟩
  rw [HCM.out]
  have hmk := run_make_row' (P := Tryz.prog) 55 23 (.slice none 0 0) 24 Tryz.underlying55 (by kernel_rfl) rfl .i64 .i64 M (by omega) (by omega)
  go_wp2
  clear hmk
  have hA0 := AroAt.made w1 M
  have hB2 : Below w1.heap.size w1 (w1.alloc (.cells (madeCells #[.slice none 0 0] M) 23)) := (Below.refl _ _).alloc (Nat.le_refl _) _
  obtain ⟨N, hN⟩ : ∃ N, N = w1.heap.size := ⟨_, rfl⟩
  rw [← hN] at hA0 ⊢
  generalize w1.alloc (.cells (madeCells #[.slice none 0 0] M) 23) = W2 at *
  have HNN := Lib.hid hN
  clear hN
  go_loopw [22] (fun i wr => ∃ m : Nat, m ≤ CL ∧ i = .int .i64 m ∧ Aro wr N M (((cellsS n).take m).flatMap six) (6 * m) ∧ Below w1.heap.size w1 wr) (fun i _ => CL - (intOf i).toNat)
  case atStart => exact ⟨0, by omega, rfl, ⟨fun _ => [], hA0, by simpa using RowsOk.start, fun i => by simp⟩, hB2⟩
  case round =>
    clear hA0 hB2
    obtain ⟨m, hm, rfl, hA, hB⟩ := hrel
    by_cases hlm : m < CL
    · have hdm : decide (m < CL) = true := decide_eq_true hlm
      have hml : m < (cellsS n).length := by rw [← HCL.out]; exact hlm
      obtain ⟨rfl, hbC0, hbC1⟩ := HPOS.out (by omega)
      obtain ⟨d0, d1, d2⟩ := HAT.out m hml
      have hin := cells_in h1 h8 (cellsS n)[m] (by have := List.getElem_mem hml; exact (List.mergeSort_perm _ _).mem_iff.1 this)
      have hsix : six (cellsS n)[m] = six ((cellsS n)[m].1, (cellsS n)[m].2.1, (cellsS n)[m].2.2) := rfl
      obtain ⟨a0, ha0⟩ : ∃ a : Nat, (a : Int) = (cellsS n)[m].1 := ⟨(cellsS n)[m].1.toNat, by omega⟩
      obtain ⟨a1, ha1⟩ : ∃ a : Nat, (a : Int) = (cellsS n)[m].2.1 := ⟨(cellsS n)[m].2.1.toNat, by omega⟩
      obtain ⟨a2, ha2⟩ : ∃ a : Nat, (a : Int) = (cellsS n)[m].2.2 := ⟨(cellsS n)[m].2.2.toNat, by omega⟩
      rw [← ha0, ← ha1, ← ha2, ← HM.out] at hin
      rw [← ha0, ← ha1, ← ha2] at hsix
      rw [← ha0] at d0
      rw [← ha1] at d1
      rw [← ha2] at d2
      obtain ⟨⟨_, hi0⟩, ⟨_, hi1⟩, ⟨_, hi2⟩⟩ := hin
      have HSX : Hid (six (cellsS n)[m] = [(a0, (a1 : Int)), (a0, (a2 : Int)), (a1, (a2 : Int)), (a1, (a0 : Int)), (a2, (a0 : Int)), (a2, (a1 : Int))]) := Lib.hid (by rw [hsix]; simp [six])
      clear hsix ha0 ha1 ha2
      replace d0 := RX.keep hB d0
      replace d1 := RX.keep hB d1
      replace d2 := RX.keep hB d2
      have hBs := hB.size
      have hbCr : bC < wr.heap.size := by omega
      have HBc := Lib.hid hbCr
      have hNr := hA.lt
      go_wp2
      have hBX : Below wr.heap.size wr ((wr.alloc (.cells #[.int .i64 (a0 : Int), .int .i64 (a1 : Int), .int .i64 (a2 : Int)] 34)).alloc (.cells #[.int .i64 (a0 : Int), .int .i64 (a1 : Int), .int .i64 (a0 : Int), .int .i64 (a2 : Int), .int .i64 (a1 : Int), .int .i64 (a2 : Int), .int .i64 (a1 : Int), .int .i64 (a0 : Int), .int .i64 (a2 : Int), .int .i64 (a0 : Int), .int .i64 (a2 : Int), .int .i64 (a1 : Int)] 124)) := (by repeat (first | (with_reducible assumption) | (with_reducible exact Below.refl _ _) | (with_reducible refine Below.setCell ?_ (by first | omega | (simp; done) | (simp; omega)) _) | (with_reducible refine Below.alloc ?_ (by first | omega | (simp; done) | (simp; omega)) _) | (with_reducible apply Below.drew) | assumption))
      have hTX : ((wr.alloc (.cells #[.int .i64 (a0 : Int), .int .i64 (a1 : Int), .int .i64 (a2 : Int)] 34)).alloc (.cells #[.int .i64 (a0 : Int), .int .i64 (a1 : Int), .int .i64 (a0 : Int), .int .i64 (a2 : Int), .int .i64 (a1 : Int), .int .i64 (a2 : Int), .int .i64 (a1 : Int), .int .i64 (a0 : Int), .int .i64 (a2 : Int), .int .i64 (a0 : Int), .int .i64 (a2 : Int), .int .i64 (a1 : Int)] 124)).heap[wr.heap.size + 1]? = some (.cells #[.int .i64 (a0 : Int), .int .i64 (a1 : Int), .int .i64 (a0 : Int), .int .i64 (a2 : Int), .int .i64 (a1 : Int), .int .i64 (a2 : Int), .int .i64 (a1 : Int), .int .i64 (a0 : Int), .int .i64 (a2 : Int), .int .i64 (a0 : Int), .int .i64 (a2 : Int), .int .i64 (a1 : Int)] 124 (0, 0)) := by
        have h9 := heap_alloc_new (wr.alloc (.cells #[.int .i64 (a0 : Int), .int .i64 (a1 : Int), .int .i64 (a2 : Int)] 34)) (.cells #[.int .i64 (a0 : Int), .int .i64 (a1 : Int), .int .i64 (a0 : Int), .int .i64 (a2 : Int), .int .i64 (a1 : Int), .int .i64 (a2 : Int), .int .i64 (a1 : Int), .int .i64 (a0 : Int), .int .i64 (a2 : Int), .int .i64 (a0 : Int), .int .i64 (a2 : Int), .int .i64 (a1 : Int)] 124)
        rwa [show (wr.alloc (.cells #[.int .i64 (a0 : Int), .int .i64 (a1 : Int), .int .i64 (a2 : Int)] 34)).heap.size = wr.heap.size + 1 by simp] at h9
      have hAX := hA.below hBX
      have hBX1 := hB.trans (hBX.mono hBs)
      have H6 := Lib.hid (fun (w' : World) h => six_cells (w := w') (T := wr.heap.size + 1) (a0 := a0) (a1 := a1) (a2 := a2) (ty := 124) h)
      have hPM : ∀ y ∈ sixL a0 a1 a2, y.1 < M := by
        intro y hy
        simp only [sixL, List.mem_cons, List.not_mem_nil, or_false] at hy
        rcases hy with rfl | rfl | rfl | rfl | rfl | rfl <;> dsimp only <;> omega
      have hP6 : (sixL a0 a1 a2).length = 6 := rfl
      have HSX2 : Hid (((cellsS n).take (m + 1)).flatMap six = ((cellsS n).take m).flatMap six ++ sixL a0 a1 a2) := Lib.hid (by
        rw [List.take_succ_eq_append_getElem hml, List.flatMap_append, List.flatMap_cons, HSX.out]; simp [sixL])
      obtain ⟨T6, hT6⟩ : ∃ T, T = wr.heap.size + 1 := ⟨_, rfl⟩
      rw [← hT6] at hTX H6 ⊢
      generalize ((wr.alloc (.cells #[.int .i64 (a0 : Int), .int .i64 (a1 : Int), .int .i64 (a2 : Int)] 34)).alloc (.cells #[.int .i64 (a0 : Int), .int .i64 (a1 : Int), .int .i64 (a0 : Int), .int .i64 (a2 : Int), .int .i64 (a1 : Int), .int .i64 (a2 : Int), .int .i64 (a1 : Int), .int .i64 (a0 : Int), .int .i64 (a2 : Int), .int .i64 (a0 : Int), .int .i64 (a2 : Int), .int .i64 (a1 : Int)] 124)) = WX at *
      generalize (#[.int .i64 (a0 : Int), .int .i64 (a1 : Int), .int .i64 (a0 : Int), .int .i64 (a2 : Int), .int .i64 (a1 : Int), .int .i64 (a2 : Int), .int .i64 (a1 : Int), .int .i64 (a0 : Int), .int .i64 (a2 : Int), .int .i64 (a0 : Int), .int .i64 (a2 : Int), .int .i64 (a1 : Int)] : Array Value) = arr at *
      generalize sixL a0 a1 a2 = P6 at *
      generalize ((cellsS n).take m).flatMap six = P0 at *
      have hNT : N < T6 := by omega
      have HPM := Lib.hid hPM
      have HP6 := Lib.hid hP6
      clear hA hB hBX HSX d0 d1 d2 hi0 hi1 hi2 hPM hP6 hBs hNr
      clear hT6
      go_loopw [58] (fun i wr => ∃ q : Nat, q ≤ 6 ∧ i = .int .i64 q ∧ Aro wr N M (P0 ++ P6.take q) (6 * m + q) ∧ Below w1.heap.size w1 wr ∧ wr.heap[T6]? = some (.cells arr 124 (0, 0))) (fun i _ => 6 - (intOf i).toNat)
      case atStart => exact ⟨0, by omega, rfl, by simpa using hAX, hBX1, hTX⟩
      case round =>
        clear hAX hBX1 hTX
        obtain ⟨q, hq, rfl, hA, hB, hT⟩ := hrel
        by_cases hq6 : q < 6
        · have hdq : decide (q < 6) = true := decide_eq_true hq6
          have hqP : q < P6.length := by rw [HP6.out]; exact hq6
          obtain ⟨c0, c1⟩ := H6.out _ hT q hqP
          have ha := HPM.out _ (List.getElem_mem hqP)
          have HPQ : Hid (P0 ++ P6.take (q + 1) = (P0 ++ P6.take q) ++ [(P6[q].1, P6[q].2)]) := Lib.hid (by rw [List.take_succ_eq_append_getElem hqP, List.append_assoc])
          generalize P6[q].1 = a at *
          generalize P6[q].2 = x at *
          have hNs := hA.lt
          have hTl : T6 < wr.heap.size := lt_of_block hT
          have hBs := hB.size
          have hdq2 : decide ((q : Int) < 6) = true := decide_eq_true (by omega)
          go_wp2
          have hb3 : Below wr.heap.size wr (wr.alloc (.cells #[.int .i64 (a : Int), .int .i64 x] 124)) := (Below.refl _ _).alloc (Nat.le_refl _) _
          have e0 : (wr.alloc (.cells #[.int .i64 (a : Int), .int .i64 x] 124)).cell? ⟨wr.heap.size, 0, none⟩ = some (.int .i64 (a : Int)) := blkCell (j := 0) (heap_alloc_new wr (.cells #[.int .i64 (a : Int), .int .i64 x] 124)) rfl
          have e1 : (wr.alloc (.cells #[.int .i64 (a : Int), .int .i64 x] 124)).cell? ⟨wr.heap.size, 1, none⟩ = some (.int .i64 x) := blkCell (j := 1) (heap_alloc_new wr (.cells #[.int .i64 (a : Int), .int .i64 x] 124)) rfl
          have hA3 := hA.below hb3
          have hB3 := hB.trans (hb3.mono hBs)
          have hT3 := (hb3.block T6 hTl).trans hT
          have hs3 : wr.heap.size < (wr.alloc (.cells #[.int .i64 (a : Int), .int .i64 x] 124)).heap.size := by simp
          obtain ⟨T9, hT9⟩ : ∃ T, T = wr.heap.size := ⟨_, rfl⟩
          rw [← hT9] at e0 e1 hNs hs3 hTl ⊢
          generalize wr.alloc (.cells #[.int .i64 (a : Int), .int .i64 x] 124) = W3 at *
          obtain ⟨ls, hL, hR, hlen⟩ := hA3.ex
          obtain ⟨pr, cp, br, r0, rf, rcap, rpos, rat, rnone, rown⟩ := hL.row ha
          have hl9 : (ls a).length ≤ 40000 := by have := hlen a; omega
          have HMORE : Hid (∀ (k : Nat), k ≤ (ls a).length → (∀ j (h : j < (ls a).length), j < k → (ls a)[j] < x) → (∀ h : k < (ls a).length, x < (ls a)[k]) → ∀ w' v', Below W3.heap.size W3 w' → w'.ownsRow (N + 1) 3 1 v' ((ls a).take k ++ x :: (ls a).drop k).length (((ls a).take k ++ x :: (ls a).drop k).map (Value.int .i64)) →
              Aro (w'.setCell ⟨N, a, none⟩ v') N M (P0 ++ P6.take (q + 1)) (6 * m + (q + 1)) ∧ Below w1.heap.size w1 (w'.setCell ⟨N, a, none⟩ v') ∧ (w'.setCell ⟨N, a, none⟩ v').heap[T6]? = some (.cells arr 124 (0, 0))) := Lib.hid (fun k hk g1 g2 w' v' hb ho => by
            refine ⟨⟨setTo ls a ((ls a).take k ++ x :: (ls a).drop k), hL.put hb ha ho, ?_, fun i => ?_⟩, (hB3.trans (hb.mono hB3.size)).setCell (by rw [← HNN.out]; exact Nat.le_refl _) _, ?_⟩
            · rw [HPQ.out]; exact hR.more g1 g2
            · unfold setTo
              split
              · rw [ins_len]; have := hlen a; omega
              · have := hlen i; omega
            · exact (Below.heap_setCell w' ⟨N, a, none⟩ v' T6 (by simp; omega)).trans ((hb.block T6 (by omega)).trans hT3))
          have HSAME : Hid (x ∈ ls a → ∀ w', Below W3.heap.size W3 w' → Aro w' N M (P0 ++ P6.take (q + 1)) (6 * m + (q + 1)) ∧ Below w1.heap.size w1 w' ∧ w'.heap[T6]? = some (.cells arr 124 (0, 0))) := Lib.hid (fun hx w' hb =>
            ⟨⟨ls, hL.below hb, by rw [HPQ.out]; exact hR.same hx, fun i => by have := hlen i; omega⟩, hB3.trans (hb.mono hB3.size), (hb.block T6 (by omega)).trans hT3⟩)
          generalize ls a = l at *
          have HPOS2 := Lib.hid rpos
          have HAT2 := Lib.hid rat
          have HNONE := Lib.hid rnone
          have HOWN := Lib.hid rown
          clear rpos rat rnone rown hL hR hlen hA3 hA hB hT hb3 hT3 c0 c1 hT9 hB3
          go_loopw [10] (fun i wk => ∃ k : Nat, k ≤ l.length ∧ i = .int .i64 k ∧ Hid (∀ j (h : j < l.length), j < k → l[j] < x) ∧ Below W3.heap.size W3 wk) (fun i _ => l.length - (intOf i).toNat)
          case atStart => exact ⟨0, by omega, rfl, Lib.hid (fun j _ h => by omega), (by repeat (first | (with_reducible assumption) | (with_reducible exact Below.refl _ _) | (with_reducible refine Below.setCell ?_ (by first | omega | (simp; done) | (simp; omega)) _) | (with_reducible refine Below.alloc ?_ (by first | omega | (simp; done) | (simp; omega)) _) | (with_reducible apply Below.drew) | assumption))⟩
          case round =>
            obtain ⟨k, hk, rfl, HK, hBk⟩ := hrel
            have f0 := RX.keep hBk e0
            have f1 := RX.keep hBk e1
            have g0 := RX.keep hBk r0
            by_cases hkl : k < l.length
            · have hdk : decide (k < l.length) = true := decide_eq_true hkl
              have hdk2 : decide ((k : Int) < (l.length : Int)) = true := decide_eq_true (by omega)
              obtain ⟨rfl, hbr0, hbr1⟩ := HPOS2.out (by omega)
              have y0 := RX.keep hBk (HAT2.out k hkl)
              obtain ⟨y, hy⟩ : ∃ y, y = l[k] := ⟨_, rfl⟩
              rw [← hy] at y0
              have HY := Lib.hid hy
              clear hy
              rcases (show y < x ∨ y = x ∨ x < y by omega) with hyx | hyx | hyx
              · have hdy : decide (y < x) = true := decide_eq_true hyx
                have HK2 : Hid (∀ j (h : j < l.length), j < k + 1 → l[j] < x) := Lib.hid (fun j h hj => by
                  by_cases e : j = k
                  · subst e; rw [← HY.out]; exact hyx
                  · exact HK.out j h (by omega))
                clear hyx
                go_wp2
                go_quiet (fail)
                go_wp2
                go_roundw
                case rel => first | exact ⟨k + 1, by omega, by go_num, HK2, below_drewN hBk _⟩ | ((repeat apply Exists.intro); refine ⟨⟨k + 1, by omega, ?_, HK2, below_drewN hBk _⟩, rfl⟩; first | rfl | go_num)
                case measure => simp [intOf]; omega
              · have hdy : decide (y < x) = false := decide_eq_false (by omega)
                have hey : (y == x) = true := by rw [beq_iff_eq]; omega
                have HS := Lib.hid (HSAME.out (by rw [← hyx, HY.out]; exact List.getElem_mem hkl))
                clear hyx
                go_wp2
                go_quiet (fail)
                go_wp2
                refine absW (F := fun w' => Below W3.heap.size W3 w') (below_drewN hBk _) ?_
                clear f0 f1 g0 y0 hBk
                rintro w5 hB5
                have f0 := RX.keep hB5 e0
                have f1 := RX.keep hB5 e1
                have g0 := RX.keep hB5 r0
                have y0 := RX.keep hB5 (HAT2.out k hkl)
                rw [← HY.out] at y0
                go_quiet (fail)
                go_wp2
                go_roundw
                case rel => first | exact ⟨q + 1, by omega, by go_num, (HS.out _ (below_drewN hB5 _)).1, (HS.out _ (below_drewN hB5 _)).2.1, (HS.out _ (below_drewN hB5 _)).2.2⟩ | ((repeat apply Exists.intro); refine ⟨⟨q + 1, by omega, ?_, (HS.out _ (below_drewN hB5 _)).1, (HS.out _ (below_drewN hB5 _)).2.1, (HS.out _ (below_drewN hB5 _)).2.2⟩, rfl⟩; first | rfl | go_num)
                case measure => simp [intOf]; omega
              · have hdy : decide (y < x) = false := decide_eq_false (by omega)
                have hey : (y == x) = false := by rw [beq_eq_false_iff_ne]; omega
                have HM2 := Lib.hid (HMORE.out k hk HK.out (fun _ => by rw [← HY.out]; exact hyx))
                clear hyx
                go_wp2
                go_quiet (fail)
                go_wp2
                refine absW (F := fun w' => Below W3.heap.size W3 w') (below_drewN hBk _) ?_
                clear f0 f1 g0 y0 hBk
                rintro w5 hB5
                have f0 := RX.keep hB5 e0
                have f1 := RX.keep hB5 e1
                have g0 := RX.keep hB5 r0
                have y0 := RX.keep hB5 (HAT2.out k hkl)
                rw [← HY.out] at y0
                go_quiet (fail)
                go_wp2
                have hkc : ¬ cp = k := by omega
                refine absW (F := fun w' => Below W3.heap.size W3 w') (below_drewN hB5 _) ?_
                clear f0 f1 g0 hB5
                rintro w6 hB6
                have f0 := RX.keep hB6 e0
                have f1 := RX.keep hB6 e1
                have g0 := RX.keep hB6 r0
                have hO6 := own_below HOWN.out hB6
                have hN6 : N < w6.heap.size := by have := hB6.size; omega
                have hT96 : T9 < w6.heap.size := by have := hB6.size; omega
                have rf6 : w6.frozen? ⟨N, a, none⟩ = false := (World.frozen?_of_block (hB6.block N (by omega))).trans rf
                refine RX.region RX.fN (fun w' => w'.cell? ⟨T9, 0, none⟩ = some (.int .i64 (a : Int)) ∧ w'.cell? ⟨T9, 1, none⟩ = some (.int .i64 x) ∧ w'.cell? ⟨N, a, none⟩ = some (.slice (some ⟨br, 0, none⟩) l.length cp)) (by kernel_rfl) (by kernel_rfl) (⟨(by (try have hLt := World.block_lt_of_cell? _ _ f0); (try simp only at hLt); (repeat first | rw [RX.cell_drew] | rw [World.cell?_setCell_other _ _ _ _ (by first | (simp; done) | (simp; omega) | omega)] | rw [RX.cell_alloc, if_neg (by first | (simp; done) | (simp; omega) | omega)]); first | exact f0 | (rw [RX.cell_alloc, if_pos (by first | (simp; done) | omega)]; exact f0)), (by (try have hLt := World.block_lt_of_cell? _ _ f1); (try simp only at hLt); (repeat first | rw [RX.cell_drew] | rw [World.cell?_setCell_other _ _ _ _ (by first | (simp; done) | (simp; omega) | omega)] | rw [RX.cell_alloc, if_neg (by first | (simp; done) | (simp; omega) | omega)]); first | exact f1 | (rw [RX.cell_alloc, if_pos (by first | (simp; done) | omega)]; exact f1)), (by (try have hLt := World.block_lt_of_cell? _ _ g0); (try simp only at hLt); (repeat first | rw [RX.cell_drew] | rw [World.cell?_setCell_other _ _ _ _ (by first | (simp; done) | (simp; omega) | omega)] | rw [RX.cell_alloc, if_neg (by first | (simp; done) | (simp; omega) | omega)]); first | exact g0 | (rw [RX.cell_alloc, if_pos (by first | (simp; done) | omega)]; exact g0))⟩) (fun OPS HO QR hQR => ?_)
                repeat
                  refine RX.step (fun R hR => ?_)
                  first
                  | (refine RX.one_skip (by first | rfl | (rw [HO.out]; rfl)) (by simp only [RX.put_some, RX.put_none, List.set_cons_zero, List.set_cons_succ]; rfl) ?_
                     refine hR _ _ ?_; clear hR R)
                  | (refine RX.one_move (by first | rfl | (rw [HO.out]; rfl)) rfl (by first | exact Or.inl rfl | exact Or.inr rfl) (by simp only [RX.eval_tmp, RX.eval_const, List.getD_cons_zero, List.getD_cons_succ]; rfl) (by simp only [RX.put_some, RX.put_none, List.set_cons_zero, List.set_cons_succ]; rfl) ?_
                     refine hR _ _ ?_; clear hR R)
                  | (refine RX.one_nil (by first | rfl | (rw [HO.out]; rfl)) rfl rfl (by simp only [RX.eval_tmp, RX.eval_const, List.getD_cons_zero, List.getD_cons_succ]; rfl) (by simp only [RX.put_some, RX.put_none, List.set_cons_zero, List.set_cons_succ]; rfl) ?_
                     refine hR _ _ ?_; clear hR R)
                  | (refine RX.one_float (by first | rfl | (rw [HO.out]; rfl)) rfl rfl rfl ?_
                     apply Exists.intro; apply Exists.intro
                     refine ⟨fun w' hS K hK => ?_, ?_, ?_⟩
                     · obtain ⟨hS1, hS2, hS3⟩ := hS; go_wp2; exact hK _ _ (by simp only [RX.arr_getD, List.getD_cons_zero, List.getD_cons_succ]; first | exact RX.dec_t (by omega) | exact RX.dec_f (by omega) | exact RX.beq_t (by omega) | exact RX.beq_f (by omega) | exact RX.bne_t (by omega) | exact RX.bne_f (by omega) | exact RX.bneB _ | rfl) rfl
                     · simp only [RX.put_some, RX.put_none, List.set_cons_zero, List.set_cons_succ]; rfl
                     refine hR _ _ ?_; clear hR R)
                refine RX.step (fun R hR => ?_)
                refine RX.one_chain (by first | rfl | (rw [HO.out]; rfl)) rfl (fun K hK => ?_)
                go_wp2
                refine ⟨⟨(by (try have hLt := World.block_lt_of_cell? _ _ f0); (try simp only at hLt); (repeat first | rw [RX.cell_drew] | rw [World.cell?_setCell_other _ _ _ _ (by first | (simp; done) | (simp; omega) | omega)] | rw [RX.cell_alloc, if_neg (by first | (simp; done) | (simp; omega) | omega)]); first | exact f0 | (rw [RX.cell_alloc, if_pos (by first | (simp; done) | omega)]; exact f0)), (by (try have hLt := World.block_lt_of_cell? _ _ f1); (try simp only at hLt); (repeat first | rw [RX.cell_drew] | rw [World.cell?_setCell_other _ _ _ _ (by first | (simp; done) | (simp; omega) | omega)] | rw [RX.cell_alloc, if_neg (by first | (simp; done) | (simp; omega) | omega)]); first | exact f1 | (rw [RX.cell_alloc, if_pos (by first | (simp; done) | omega)]; exact f1)), (by (try have hLt := World.block_lt_of_cell? _ _ g0); (try simp only at hLt); (repeat first | rw [RX.cell_drew] | rw [World.cell?_setCell_other _ _ _ _ (by first | (simp; done) | (simp; omega) | omega)] | rw [RX.cell_alloc, if_neg (by first | (simp; done) | (simp; omega) | omega)]); first | exact g0 | (rw [RX.cell_alloc, if_pos (by first | (simp; done) | omega)]; exact g0))⟩, hR _ _ ?_⟩; clear hR R
                repeat
                  refine RX.step (fun R hR => ?_)
                  first
                  | (refine RX.one_skip (by first | rfl | (rw [HO.out]; rfl)) (by simp only [RX.put_some, RX.put_none, List.set_cons_zero, List.set_cons_succ]; rfl) ?_
                     refine hR _ _ ?_; clear hR R)
                  | (refine RX.one_move (by first | rfl | (rw [HO.out]; rfl)) rfl (by first | exact Or.inl rfl | exact Or.inr rfl) (by simp only [RX.eval_tmp, RX.eval_const, List.getD_cons_zero, List.getD_cons_succ]; rfl) (by simp only [RX.put_some, RX.put_none, List.set_cons_zero, List.set_cons_succ]; rfl) ?_
                     refine hR _ _ ?_; clear hR R)
                  | (refine RX.one_nil (by first | rfl | (rw [HO.out]; rfl)) rfl rfl (by simp only [RX.eval_tmp, RX.eval_const, List.getD_cons_zero, List.getD_cons_succ]; rfl) (by simp only [RX.put_some, RX.put_none, List.set_cons_zero, List.set_cons_succ]; rfl) ?_
                     refine hR _ _ ?_; clear hR R)
                  | (refine RX.one_float (by first | rfl | (rw [HO.out]; rfl)) rfl rfl rfl ?_
                     apply Exists.intro; apply Exists.intro
                     refine ⟨fun w' hS K hK => ?_, ?_, ?_⟩
                     · obtain ⟨hS1, hS2, hS3⟩ := hS; go_wp2; exact hK _ _ (by simp only [RX.arr_getD, List.getD_cons_zero, List.getD_cons_succ]; first | exact RX.dec_t (by omega) | exact RX.dec_f (by omega) | exact RX.beq_t (by omega) | exact RX.beq_f (by omega) | exact RX.bne_t (by omega) | exact RX.bne_f (by omega) | exact RX.bneB _ | rfl) rfl
                     · simp only [RX.put_some, RX.put_none, List.set_cons_zero, List.set_cons_succ]; rfl
                     refine hR _ _ ?_; clear hR R)
                refine RX.step (fun R hR => ?_)
                refine RX.one_chain (by first | rfl | (rw [HO.out]; rfl)) rfl (fun K hK => ?_)
                have hb1 : Below w6.heap.size w6 (w6.drew.alloc (.cells #[.int .i64 x] 3)) := (by repeat (first | (with_reducible assumption) | (with_reducible exact Below.refl _ _) | (with_reducible refine Below.setCell ?_ (by first | omega | (simp; done) | (simp; omega)) _) | (with_reducible refine Below.alloc ?_ (by first | omega | (simp; done) | (simp; omega)) _) | (with_reducible apply Below.drew) | assumption))
                refine RX.wp_apr elInt _ _ rfl w6.heap.size #[.int .i64 x] (by first | (simp only [RX.eval_tmp, RX.eval_const, List.getD_cons_zero, List.getD_cons_succ]; done) | (simp only [RX.eval_tmp, RX.eval_const, List.getD_cons_zero, List.getD_cons_succ]; rfl)) (heap_alloc_new _ _) rfl (some ⟨br, k, none⟩) (l.length - k) _ (vI (l.drop k)) (by first | (simp only [RX.eval_tmp, RX.eval_const, List.getD_cons_zero, List.getD_cons_succ]; done) | (simp only [RX.eval_tmp, RX.eval_const, List.getD_cons_zero, List.getD_cons_succ]; rfl)) (by simp) (by have h9 := ((RX.SrcAt.of_own hO6).keep (fun _ _ hp => RX.keep hb1 hp)).cut (k := k) (cap := cp) (size := 1) (by omega) rcap; rw [if_neg hkc, Nat.mul_one, ← List.map_drop, show Option.map (fun x : Addr => x.add k) (some ⟨br, 0, none⟩) = some ⟨br, k, none⟩ from by simp [Addr.add_lit]] at h9; exact h9) (vI_one _) (by omega) (by omega) (fun v1 w7 hown1 hg1 hat1 => ?_)
                have hb7 : Below w6.heap.size w6 w7 := hb1.grown hg1 (by simp) (fun k' hk' => by injection hk' with hk'; omega)
                clear hat1 hg1
                have f07 := RX.keep hb7 f0
                have f17 := RX.keep hb7 f1
                have g07 := RX.keep hb7 g0
                refine hK _ _ ⟨⟨f07, f17, g07⟩, ?_⟩; clear hK K; refine RX.at_ (by simp only [RX.put_some, RX.put_none, List.set_cons_zero, List.set_cons_succ]; rfl) (hR _ _ ?_); clear hR R
                repeat
                  refine RX.step (fun R hR => ?_)
                  first
                  | (refine RX.one_skip (by first | rfl | (rw [HO.out]; rfl)) (by simp only [RX.put_some, RX.put_none, List.set_cons_zero, List.set_cons_succ]; rfl) ?_
                     refine hR _ _ ?_; clear hR R)
                  | (refine RX.one_move (by first | rfl | (rw [HO.out]; rfl)) rfl (by first | exact Or.inl rfl | exact Or.inr rfl) (by simp only [RX.eval_tmp, RX.eval_const, List.getD_cons_zero, List.getD_cons_succ]; rfl) (by simp only [RX.put_some, RX.put_none, List.set_cons_zero, List.set_cons_succ]; rfl) ?_
                     refine hR _ _ ?_; clear hR R)
                  | (refine RX.one_nil (by first | rfl | (rw [HO.out]; rfl)) rfl rfl (by simp only [RX.eval_tmp, RX.eval_const, List.getD_cons_zero, List.getD_cons_succ]; rfl) (by simp only [RX.put_some, RX.put_none, List.set_cons_zero, List.set_cons_succ]; rfl) ?_
                     refine hR _ _ ?_; clear hR R)
                  | (refine RX.one_float (by first | rfl | (rw [HO.out]; rfl)) rfl rfl rfl ?_
                     apply Exists.intro; apply Exists.intro
                     refine ⟨fun w' hS K hK => ?_, ?_, ?_⟩
                     · obtain ⟨hS1, hS2, hS3⟩ := hS; go_wp2; exact hK _ _ (by simp only [RX.arr_getD, List.getD_cons_zero, List.getD_cons_succ]; first | exact RX.dec_t (by omega) | exact RX.dec_f (by omega) | exact RX.beq_t (by omega) | exact RX.beq_f (by omega) | exact RX.bne_t (by omega) | exact RX.bne_f (by omega) | exact RX.bneB _ | rfl) rfl
                     · simp only [RX.put_some, RX.put_none, List.set_cons_zero, List.set_cons_succ]; rfl
                     refine hR _ _ ?_; clear hR R)
                refine RX.wpL_nil (hQR _ _ (⟨f07, f17, g07⟩) ?_); clear hQR QR HO OPS
                go_wp2
                have hs2 : RX.SrcAt w7.drew (some ⟨br, 0, none⟩) (k) (vI (l.take (k))) := by
                  have h9 := ((RX.SrcAt.of_own hO6).keep (fun _ _ hp => RX.keep hb7.drew hp)).take (k := k) (size := 1) (by omega)
                  rw [Nat.mul_one, ← List.map_take] at h9; exact h9
                refine RY.region RX.fN (fun w' => w'.cell? ⟨T9, 0, none⟩ = some (.int .i64 (a : Int)) ∧ w'.cell? ⟨T9, 1, none⟩ = some (.int .i64 x) ∧ w'.cell? ⟨N, a, none⟩ = some (.slice (some ⟨br, 0, none⟩) l.length cp)) (by kernel_rfl) (by kernel_rfl) (⟨(by (try have hLt := World.block_lt_of_cell? _ _ f07); (try simp only at hLt); (repeat first | rw [RX.cell_drew] | rw [World.cell?_setCell_other _ _ _ _ (by first | (simp; done) | (simp; omega) | omega)] | rw [RX.cell_alloc, if_neg (by first | (simp; done) | (simp; omega) | omega)]); first | exact f07 | (rw [RX.cell_alloc, if_pos (by first | (simp; done) | omega)]; exact f07)), (by (try have hLt := World.block_lt_of_cell? _ _ f17); (try simp only at hLt); (repeat first | rw [RX.cell_drew] | rw [World.cell?_setCell_other _ _ _ _ (by first | (simp; done) | (simp; omega) | omega)] | rw [RX.cell_alloc, if_neg (by first | (simp; done) | (simp; omega) | omega)]); first | exact f17 | (rw [RX.cell_alloc, if_pos (by first | (simp; done) | omega)]; exact f17)), (by (try have hLt := World.block_lt_of_cell? _ _ g07); (try simp only at hLt); (repeat first | rw [RX.cell_drew] | rw [World.cell?_setCell_other _ _ _ _ (by first | (simp; done) | (simp; omega) | omega)] | rw [RX.cell_alloc, if_neg (by first | (simp; done) | (simp; omega) | omega)]); first | exact g07 | (rw [RX.cell_alloc, if_pos (by first | (simp; done) | omega)]; exact g07))⟩) (fun OPS HO QR hQR => ?_)
                repeat
                  refine RY.step (fun R hR => ?_)
                  first
                  | (refine RY.one_skip (by first | rfl | (rw [HO.out]; rfl)) (by simp only [RX.put_some, RX.put_none, List.set_cons_zero, List.set_cons_succ]; rfl) ?_
                     refine hR _ _ ?_; clear hR R)
                  | (refine RY.one_move (by first | rfl | (rw [HO.out]; rfl)) rfl (by first | exact Or.inl rfl | exact Or.inr rfl) (by simp only [RX.eval_tmp, RX.eval_const, List.getD_cons_zero, List.getD_cons_succ]; rfl) (by simp only [RX.put_some, RX.put_none, List.set_cons_zero, List.set_cons_succ]; rfl) ?_
                     refine hR _ _ ?_; clear hR R)
                  | (refine RY.one_nil (by first | rfl | (rw [HO.out]; rfl)) rfl rfl (by simp only [RX.eval_tmp, RX.eval_const, List.getD_cons_zero, List.getD_cons_succ]; rfl) (by simp only [RX.put_some, RX.put_none, List.set_cons_zero, List.set_cons_succ]; rfl) ?_
                     refine hR _ _ ?_; clear hR R)
                  | (refine RY.one_float (by first | rfl | (rw [HO.out]; rfl)) rfl rfl rfl ?_
                     apply Exists.intro; apply Exists.intro
                     refine ⟨fun w' hS K hK => ?_, ?_, ?_⟩
                     · obtain ⟨hS1, hS2, hS3⟩ := hS; go_wp2; exact hK _ _ (by simp only [RX.arr_getD, List.getD_cons_zero, List.getD_cons_succ]; first | exact RX.dec_t (by omega) | exact RX.dec_f (by omega) | exact RX.beq_t (by omega) | exact RX.beq_f (by omega) | exact RX.bne_t (by omega) | exact RX.bne_f (by omega) | exact RX.bneB _ | rfl) rfl
                     · simp only [RX.put_some, RX.put_none, List.set_cons_zero, List.set_cons_succ]; rfl
                     refine hR _ _ ?_; clear hR R)
                refine RY.step (fun R hR => ?_)
                refine RY.one_chain (by first | rfl | (rw [HO.out]; rfl)) rfl (fun K hK => ?_)
                refine RX.wp_apg elInt _ _ rfl (some ⟨br, 0, none⟩) (k) (vI (l.take (k))) (by first | (simp only [RX.eval_tmp, RX.eval_const, List.getD_cons_zero, List.getD_cons_succ]; done) | (simp only [RX.eval_tmp, RX.eval_const, List.getD_cons_zero, List.getD_cons_succ]; rfl)) (fun e => by cases e) (by first | (simp; done) | (simp; omega)) hs2 w6.heap.size (1 + (l.length - k)) v1 _ (by first | (simp only [RX.eval_tmp, RX.eval_const, List.getD_cons_zero, List.getD_cons_succ]; done) | (simp only [RX.eval_tmp, RX.eval_const, List.getD_cons_zero, List.getD_cons_succ]; rfl)) (World.ownsRow.drew hown1) (by omega) (vI_ins _ _) (by omega) (by omega) (fun v2 w8 hown2 hg2 => ?_)
                have hb8 : Below w6.heap.size w6 w8 := hb7.drew.grown hg2 hb7.drew.size (fun k' hk' => by cases hk')
                obtain ⟨p2, c2, hv2, _⟩ := own_slice hown2
                subst hv2
                have f08 := RX.keep hb8 f0
                have f18 := RX.keep hb8 f1
                have g08 := RX.keep hb8 g0
                have rf8 : w8.frozen? ⟨N, a, none⟩ = false := (World.frozen?_of_block (hb8.block N hN6)).trans rf6
                have HF := Lib.hid (HM2.out w8 _ (hB6.trans (hb8.mono hB6.size)) (own_ins (by first | omega | simp) (by first | omega | simp) hown2 (by have := hb7.size; have := hB6.size; simp; omega)))
                clear hown1 hown2 hg2 hb1 hb7 hs2 f07 f17 g07 hO6 hb8
                refine hK _ _ ⟨.inr (⟨f08, f18, g08⟩), ?_⟩; clear hK K; refine RY.at_ (by simp only [RX.put_some, RX.put_none, List.set_cons_zero, List.set_cons_succ]; rfl) (hR _ _ ?_); clear hR R
                repeat
                  refine RY.step (fun R hR => ?_)
                  first
                  | (refine RY.one_skip (by first | rfl | (rw [HO.out]; rfl)) (by simp only [RX.put_some, RX.put_none, List.set_cons_zero, List.set_cons_succ]; rfl) ?_
                     refine hR _ _ ?_; clear hR R)
                  | (refine RY.one_move (by first | rfl | (rw [HO.out]; rfl)) rfl (by first | exact Or.inl rfl | exact Or.inr rfl) (by simp only [RX.eval_tmp, RX.eval_const, List.getD_cons_zero, List.getD_cons_succ]; rfl) (by simp only [RX.put_some, RX.put_none, List.set_cons_zero, List.set_cons_succ]; rfl) ?_
                     refine hR _ _ ?_; clear hR R)
                  | (refine RY.one_nil (by first | rfl | (rw [HO.out]; rfl)) rfl rfl (by simp only [RX.eval_tmp, RX.eval_const, List.getD_cons_zero, List.getD_cons_succ]; rfl) (by simp only [RX.put_some, RX.put_none, List.set_cons_zero, List.set_cons_succ]; rfl) ?_
                     refine hR _ _ ?_; clear hR R)
                  | (refine RY.one_float (by first | rfl | (rw [HO.out]; rfl)) rfl rfl rfl ?_
                     apply Exists.intro; apply Exists.intro
                     refine ⟨fun w' hS K hK => ?_, ?_, ?_⟩
                     · obtain ⟨hS1, hS2, hS3⟩ := hS; go_wp2; exact hK _ _ (by simp only [RX.arr_getD, List.getD_cons_zero, List.getD_cons_succ]; first | exact RX.dec_t (by omega) | exact RX.dec_f (by omega) | exact RX.beq_t (by omega) | exact RX.beq_f (by omega) | exact RX.bne_t (by omega) | exact RX.bne_f (by omega) | exact RX.bneB _ | rfl) rfl
                     · simp only [RX.put_some, RX.put_none, List.set_cons_zero, List.set_cons_succ]; rfl
                     refine hR _ _ ?_; clear hR R)
                refine RY.step (fun R hR => ?_)
                refine RY.one_chain (by first | rfl | (rw [HO.out]; rfl)) rfl (fun K hK => ?_)
                go_wp2
                first | refine ⟨(by first | exact .inl rfl | exact .inl trivial | trivial), hR _ _ (RY.wpL_nil (hQR _ _ ?_))⟩ | refine hR _ _ (RY.wpL_nil (hQR _ _ ?_)) | refine hQR _ _ ?_
                (try clear hR); (try clear R); clear hQR QR HO OPS
                go_wp2
                go_roundw
                case rel => first | exact ⟨q + 1, by omega, by go_num, HF.out.1, HF.out.2.1, HF.out.2.2⟩ | ((repeat apply Exists.intro); refine ⟨⟨q + 1, by omega, ?_, HF.out.1, HF.out.2.1, HF.out.2.2⟩, rfl⟩; first | rfl | go_num)
                case measure => simp [intOf]; omega
            · have ek : k = l.length := by omega
              have hdk : decide (k < l.length) = false := decide_eq_false hkl
              have hdk2 : decide ((k : Int) < (l.length : Int)) = false := decide_eq_false (by omega)
              have HM2 := Lib.hid (HMORE.out k hk HK.out (fun h => absurd h hkl))
              subst ek
              cases pr with
              | none =>
                obtain rfl := HNONE.out rfl
                have h0 : l.length = 0 := by omega
                obtain rfl : l = [] := List.eq_nil_of_length_eq_zero h0
                clear h0
                simp only [List.length_nil] at *
                go_wp2
                go_quiet (fail)
                go_wp2
                refine absW (F := fun w' => Below W3.heap.size W3 w') (below_drewN hBk _) ?_
                clear f0 f1 g0 hBk
                rintro w5 hB5
                have f0 := RX.keep hB5 e0
                have f1 := RX.keep hB5 e1
                have g0 := RX.keep hB5 r0
                go_quiet (fail)
                go_wp2
                refine absW (F := fun w' => Below W3.heap.size W3 w') (below_drewN hB5 _) ?_
                clear f0 f1 g0 hB5
                rintro w6 hB6
                have f0 := RX.keep hB6 e0
                have f1 := RX.keep hB6 e1
                have g0 := RX.keep hB6 r0
                have hO6 := own_below HOWN.out hB6
                have hN6 : N < w6.heap.size := by have := hB6.size; omega
                have hT96 : T9 < w6.heap.size := by have := hB6.size; omega
                have rf6 : w6.frozen? ⟨N, a, none⟩ = false := (World.frozen?_of_block (hB6.block N (by omega))).trans rf
                refine RX.region RX.fN (fun w' => w'.cell? ⟨T9, 0, none⟩ = some (.int .i64 (a : Int)) ∧ w'.cell? ⟨T9, 1, none⟩ = some (.int .i64 x) ∧ w'.cell? ⟨N, a, none⟩ = some (.slice none 0 0)) (by kernel_rfl) (by kernel_rfl) (⟨(by (try have hLt := World.block_lt_of_cell? _ _ f0); (try simp only at hLt); (repeat first | rw [RX.cell_drew] | rw [World.cell?_setCell_other _ _ _ _ (by first | (simp; done) | (simp; omega) | omega)] | rw [RX.cell_alloc, if_neg (by first | (simp; done) | (simp; omega) | omega)]); first | exact f0 | (rw [RX.cell_alloc, if_pos (by first | (simp; done) | omega)]; exact f0)), (by (try have hLt := World.block_lt_of_cell? _ _ f1); (try simp only at hLt); (repeat first | rw [RX.cell_drew] | rw [World.cell?_setCell_other _ _ _ _ (by first | (simp; done) | (simp; omega) | omega)] | rw [RX.cell_alloc, if_neg (by first | (simp; done) | (simp; omega) | omega)]); first | exact f1 | (rw [RX.cell_alloc, if_pos (by first | (simp; done) | omega)]; exact f1)), (by (try have hLt := World.block_lt_of_cell? _ _ g0); (try simp only at hLt); (repeat first | rw [RX.cell_drew] | rw [World.cell?_setCell_other _ _ _ _ (by first | (simp; done) | (simp; omega) | omega)] | rw [RX.cell_alloc, if_neg (by first | (simp; done) | (simp; omega) | omega)]); first | exact g0 | (rw [RX.cell_alloc, if_pos (by first | (simp; done) | omega)]; exact g0))⟩) (fun OPS HO QR hQR => ?_)
                repeat
                  refine RX.step (fun R hR => ?_)
                  first
                  | (refine RX.one_skip (by first | rfl | (rw [HO.out]; rfl)) (by simp only [RX.put_some, RX.put_none, List.set_cons_zero, List.set_cons_succ]; rfl) ?_
                     refine hR _ _ ?_; clear hR R)
                  | (refine RX.one_move (by first | rfl | (rw [HO.out]; rfl)) rfl (by first | exact Or.inl rfl | exact Or.inr rfl) (by simp only [RX.eval_tmp, RX.eval_const, List.getD_cons_zero, List.getD_cons_succ]; rfl) (by simp only [RX.put_some, RX.put_none, List.set_cons_zero, List.set_cons_succ]; rfl) ?_
                     refine hR _ _ ?_; clear hR R)
                  | (refine RX.one_nil (by first | rfl | (rw [HO.out]; rfl)) rfl rfl (by simp only [RX.eval_tmp, RX.eval_const, List.getD_cons_zero, List.getD_cons_succ]; rfl) (by simp only [RX.put_some, RX.put_none, List.set_cons_zero, List.set_cons_succ]; rfl) ?_
                     refine hR _ _ ?_; clear hR R)
                  | (refine RX.one_float (by first | rfl | (rw [HO.out]; rfl)) rfl rfl rfl ?_
                     apply Exists.intro; apply Exists.intro
                     refine ⟨fun w' hS K hK => ?_, ?_, ?_⟩
                     · obtain ⟨hS1, hS2, hS3⟩ := hS; go_wp2; exact hK _ _ (by simp only [RX.arr_getD, List.getD_cons_zero, List.getD_cons_succ]; first | exact RX.dec_t (by omega) | exact RX.dec_f (by omega) | exact RX.beq_t (by omega) | exact RX.beq_f (by omega) | exact RX.bne_t (by omega) | exact RX.bne_f (by omega) | exact RX.bneB _ | rfl) rfl
                     · simp only [RX.put_some, RX.put_none, List.set_cons_zero, List.set_cons_succ]; rfl
                     refine hR _ _ ?_; clear hR R)
                refine RX.step (fun R hR => ?_)
                refine RX.one_chain (by first | rfl | (rw [HO.out]; rfl)) rfl (fun K hK => ?_)
                go_wp2
                refine ⟨⟨(by (try have hLt := World.block_lt_of_cell? _ _ f0); (try simp only at hLt); (repeat first | rw [RX.cell_drew] | rw [World.cell?_setCell_other _ _ _ _ (by first | (simp; done) | (simp; omega) | omega)] | rw [RX.cell_alloc, if_neg (by first | (simp; done) | (simp; omega) | omega)]); first | exact f0 | (rw [RX.cell_alloc, if_pos (by first | (simp; done) | omega)]; exact f0)), (by (try have hLt := World.block_lt_of_cell? _ _ f1); (try simp only at hLt); (repeat first | rw [RX.cell_drew] | rw [World.cell?_setCell_other _ _ _ _ (by first | (simp; done) | (simp; omega) | omega)] | rw [RX.cell_alloc, if_neg (by first | (simp; done) | (simp; omega) | omega)]); first | exact f1 | (rw [RX.cell_alloc, if_pos (by first | (simp; done) | omega)]; exact f1)), (by (try have hLt := World.block_lt_of_cell? _ _ g0); (try simp only at hLt); (repeat first | rw [RX.cell_drew] | rw [World.cell?_setCell_other _ _ _ _ (by first | (simp; done) | (simp; omega) | omega)] | rw [RX.cell_alloc, if_neg (by first | (simp; done) | (simp; omega) | omega)]); first | exact g0 | (rw [RX.cell_alloc, if_pos (by first | (simp; done) | omega)]; exact g0))⟩, hR _ _ ?_⟩; clear hR R
                repeat
                  refine RX.step (fun R hR => ?_)
                  first
                  | (refine RX.one_skip (by first | rfl | (rw [HO.out]; rfl)) (by simp only [RX.put_some, RX.put_none, List.set_cons_zero, List.set_cons_succ]; rfl) ?_
                     refine hR _ _ ?_; clear hR R)
                  | (refine RX.one_move (by first | rfl | (rw [HO.out]; rfl)) rfl (by first | exact Or.inl rfl | exact Or.inr rfl) (by simp only [RX.eval_tmp, RX.eval_const, List.getD_cons_zero, List.getD_cons_succ]; rfl) (by simp only [RX.put_some, RX.put_none, List.set_cons_zero, List.set_cons_succ]; rfl) ?_
                     refine hR _ _ ?_; clear hR R)
                  | (refine RX.one_nil (by first | rfl | (rw [HO.out]; rfl)) rfl rfl (by simp only [RX.eval_tmp, RX.eval_const, List.getD_cons_zero, List.getD_cons_succ]; rfl) (by simp only [RX.put_some, RX.put_none, List.set_cons_zero, List.set_cons_succ]; rfl) ?_
                     refine hR _ _ ?_; clear hR R)
                  | (refine RX.one_float (by first | rfl | (rw [HO.out]; rfl)) rfl rfl rfl ?_
                     apply Exists.intro; apply Exists.intro
                     refine ⟨fun w' hS K hK => ?_, ?_, ?_⟩
                     · obtain ⟨hS1, hS2, hS3⟩ := hS; go_wp2; exact hK _ _ (by simp only [RX.arr_getD, List.getD_cons_zero, List.getD_cons_succ]; first | exact RX.dec_t (by omega) | exact RX.dec_f (by omega) | exact RX.beq_t (by omega) | exact RX.beq_f (by omega) | exact RX.bne_t (by omega) | exact RX.bne_f (by omega) | exact RX.bneB _ | rfl) rfl
                     · simp only [RX.put_some, RX.put_none, List.set_cons_zero, List.set_cons_succ]; rfl
                     refine hR _ _ ?_; clear hR R)
                refine RX.step (fun R hR => ?_)
                refine RX.one_chain (by first | rfl | (rw [HO.out]; rfl)) rfl (fun K hK => ?_)
                have hb1 : Below w6.heap.size w6 (w6.drew.alloc (.cells #[.int .i64 x] 3)) := (by repeat (first | (with_reducible assumption) | (with_reducible exact Below.refl _ _) | (with_reducible refine Below.setCell ?_ (by first | omega | (simp; done) | (simp; omega)) _) | (with_reducible refine Below.alloc ?_ (by first | omega | (simp; done) | (simp; omega)) _) | (with_reducible apply Below.drew) | assumption))
                refine RX.wp_apr elInt _ _ rfl w6.heap.size #[.int .i64 x] (by first | (simp only [RX.eval_tmp, RX.eval_const, List.getD_cons_zero, List.getD_cons_succ]; done) | (simp only [RX.eval_tmp, RX.eval_const, List.getD_cons_zero, List.getD_cons_succ]; rfl)) (heap_alloc_new _ _) rfl none (0) _ (vI (([] : List Int).drop 0)) (by first | (simp only [RX.eval_tmp, RX.eval_const, List.getD_cons_zero, List.getD_cons_succ]; done) | (simp only [RX.eval_tmp, RX.eval_const, List.getD_cons_zero, List.getD_cons_succ]; rfl)) (by simp) (RX.SrcAt.none _ _ _) (vI_one _) (by omega) (by omega) (fun v1 w7 hown1 hg1 hat1 => ?_)
                have hb7 : Below w6.heap.size w6 w7 := hb1.grown hg1 (by simp) (fun k' hk' => by injection hk' with hk'; omega)
                clear hat1 hg1
                have f07 := RX.keep hb7 f0
                have f17 := RX.keep hb7 f1
                have g07 := RX.keep hb7 g0
                refine hK _ _ ⟨⟨f07, f17, g07⟩, ?_⟩; clear hK K; refine RX.at_ (by simp only [RX.put_some, RX.put_none, List.set_cons_zero, List.set_cons_succ]; rfl) (hR _ _ ?_); clear hR R
                repeat
                  refine RX.step (fun R hR => ?_)
                  first
                  | (refine RX.one_skip (by first | rfl | (rw [HO.out]; rfl)) (by simp only [RX.put_some, RX.put_none, List.set_cons_zero, List.set_cons_succ]; rfl) ?_
                     refine hR _ _ ?_; clear hR R)
                  | (refine RX.one_move (by first | rfl | (rw [HO.out]; rfl)) rfl (by first | exact Or.inl rfl | exact Or.inr rfl) (by simp only [RX.eval_tmp, RX.eval_const, List.getD_cons_zero, List.getD_cons_succ]; rfl) (by simp only [RX.put_some, RX.put_none, List.set_cons_zero, List.set_cons_succ]; rfl) ?_
                     refine hR _ _ ?_; clear hR R)
                  | (refine RX.one_nil (by first | rfl | (rw [HO.out]; rfl)) rfl rfl (by simp only [RX.eval_tmp, RX.eval_const, List.getD_cons_zero, List.getD_cons_succ]; rfl) (by simp only [RX.put_some, RX.put_none, List.set_cons_zero, List.set_cons_succ]; rfl) ?_
                     refine hR _ _ ?_; clear hR R)
                  | (refine RX.one_float (by first | rfl | (rw [HO.out]; rfl)) rfl rfl rfl ?_
                     apply Exists.intro; apply Exists.intro
                     refine ⟨fun w' hS K hK => ?_, ?_, ?_⟩
                     · obtain ⟨hS1, hS2, hS3⟩ := hS; go_wp2; exact hK _ _ (by simp only [RX.arr_getD, List.getD_cons_zero, List.getD_cons_succ]; first | exact RX.dec_t (by omega) | exact RX.dec_f (by omega) | exact RX.beq_t (by omega) | exact RX.beq_f (by omega) | exact RX.bne_t (by omega) | exact RX.bne_f (by omega) | exact RX.bneB _ | rfl) rfl
                     · simp only [RX.put_some, RX.put_none, List.set_cons_zero, List.set_cons_succ]; rfl
                     refine hR _ _ ?_; clear hR R)
                refine RX.wpL_nil (hQR _ _ (⟨f07, f17, g07⟩) ?_); clear hQR QR HO OPS
                go_wp2
                have hs2 : RX.SrcAt w7.drew none (0) (vI (([] : List Int).take (0))) := by
                  have h9 := ((RX.SrcAt.of_own hO6).keep (fun _ _ hp => RX.keep hb7.drew hp)).take (k := 0) (size := 1) (by omega)
                  rw [Nat.mul_one, ← List.map_take] at h9; exact h9
                refine RY.region RX.fN (fun w' => w'.cell? ⟨T9, 0, none⟩ = some (.int .i64 (a : Int)) ∧ w'.cell? ⟨T9, 1, none⟩ = some (.int .i64 x) ∧ w'.cell? ⟨N, a, none⟩ = some (.slice none 0 0)) (by kernel_rfl) (by kernel_rfl) (⟨(by (try have hLt := World.block_lt_of_cell? _ _ f07); (try simp only at hLt); (repeat first | rw [RX.cell_drew] | rw [World.cell?_setCell_other _ _ _ _ (by first | (simp; done) | (simp; omega) | omega)] | rw [RX.cell_alloc, if_neg (by first | (simp; done) | (simp; omega) | omega)]); first | exact f07 | (rw [RX.cell_alloc, if_pos (by first | (simp; done) | omega)]; exact f07)), (by (try have hLt := World.block_lt_of_cell? _ _ f17); (try simp only at hLt); (repeat first | rw [RX.cell_drew] | rw [World.cell?_setCell_other _ _ _ _ (by first | (simp; done) | (simp; omega) | omega)] | rw [RX.cell_alloc, if_neg (by first | (simp; done) | (simp; omega) | omega)]); first | exact f17 | (rw [RX.cell_alloc, if_pos (by first | (simp; done) | omega)]; exact f17)), (by (try have hLt := World.block_lt_of_cell? _ _ g07); (try simp only at hLt); (repeat first | rw [RX.cell_drew] | rw [World.cell?_setCell_other _ _ _ _ (by first | (simp; done) | (simp; omega) | omega)] | rw [RX.cell_alloc, if_neg (by first | (simp; done) | (simp; omega) | omega)]); first | exact g07 | (rw [RX.cell_alloc, if_pos (by first | (simp; done) | omega)]; exact g07))⟩) (fun OPS HO QR hQR => ?_)
                repeat
                  refine RY.step (fun R hR => ?_)
                  first
                  | (refine RY.one_skip (by first | rfl | (rw [HO.out]; rfl)) (by simp only [RX.put_some, RX.put_none, List.set_cons_zero, List.set_cons_succ]; rfl) ?_
                     refine hR _ _ ?_; clear hR R)
                  | (refine RY.one_move (by first | rfl | (rw [HO.out]; rfl)) rfl (by first | exact Or.inl rfl | exact Or.inr rfl) (by simp only [RX.eval_tmp, RX.eval_const, List.getD_cons_zero, List.getD_cons_succ]; rfl) (by simp only [RX.put_some, RX.put_none, List.set_cons_zero, List.set_cons_succ]; rfl) ?_
                     refine hR _ _ ?_; clear hR R)
                  | (refine RY.one_nil (by first | rfl | (rw [HO.out]; rfl)) rfl rfl (by simp only [RX.eval_tmp, RX.eval_const, List.getD_cons_zero, List.getD_cons_succ]; rfl) (by simp only [RX.put_some, RX.put_none, List.set_cons_zero, List.set_cons_succ]; rfl) ?_
                     refine hR _ _ ?_; clear hR R)
                  | (refine RY.one_float (by first | rfl | (rw [HO.out]; rfl)) rfl rfl rfl ?_
                     apply Exists.intro; apply Exists.intro
                     refine ⟨fun w' hS K hK => ?_, ?_, ?_⟩
                     · obtain ⟨hS1, hS2, hS3⟩ := hS; go_wp2; exact hK _ _ (by simp only [RX.arr_getD, List.getD_cons_zero, List.getD_cons_succ]; first | exact RX.dec_t (by omega) | exact RX.dec_f (by omega) | exact RX.beq_t (by omega) | exact RX.beq_f (by omega) | exact RX.bne_t (by omega) | exact RX.bne_f (by omega) | exact RX.bneB _ | rfl) rfl
                     · simp only [RX.put_some, RX.put_none, List.set_cons_zero, List.set_cons_succ]; rfl
                     refine hR _ _ ?_; clear hR R)
                refine RY.step (fun R hR => ?_)
                refine RY.one_chain (by first | rfl | (rw [HO.out]; rfl)) rfl (fun K hK => ?_)
                refine RX.wp_apg elInt _ _ rfl none (0) (vI (([] : List Int).take (0))) (by first | (simp only [RX.eval_tmp, RX.eval_const, List.getD_cons_zero, List.getD_cons_succ]; done) | (simp only [RX.eval_tmp, RX.eval_const, List.getD_cons_zero, List.getD_cons_succ]; rfl)) (fun _ => rfl) (by first | (simp; done) | (simp; omega)) hs2 w6.heap.size (1 + (0)) v1 _ (by first | (simp only [RX.eval_tmp, RX.eval_const, List.getD_cons_zero, List.getD_cons_succ]; done) | (simp only [RX.eval_tmp, RX.eval_const, List.getD_cons_zero, List.getD_cons_succ]; rfl)) (World.ownsRow.drew hown1) (by omega) (vI_ins _ _) (by omega) (by omega) (fun v2 w8 hown2 hg2 => ?_)
                have hb8 : Below w6.heap.size w6 w8 := hb7.drew.grown hg2 hb7.drew.size (fun k' hk' => by cases hk')
                obtain ⟨p2, c2, hv2, _⟩ := own_slice hown2
                subst hv2
                have f08 := RX.keep hb8 f0
                have f18 := RX.keep hb8 f1
                have g08 := RX.keep hb8 g0
                have rf8 : w8.frozen? ⟨N, a, none⟩ = false := (World.frozen?_of_block (hb8.block N hN6)).trans rf6
                have HF := Lib.hid (HM2.out w8 _ (hB6.trans (hb8.mono hB6.size)) (own_ins (by first | omega | simp) (by first | omega | simp) hown2 (by have := hb7.size; have := hB6.size; simp; omega)))
                clear hown1 hown2 hg2 hb1 hb7 hs2 f07 f17 g07 hO6 hb8
                refine hK _ _ ⟨.inr (⟨f08, f18, g08⟩), ?_⟩; clear hK K; refine RY.at_ (by simp only [RX.put_some, RX.put_none, List.set_cons_zero, List.set_cons_succ]; rfl) (hR _ _ ?_); clear hR R
                repeat
                  refine RY.step (fun R hR => ?_)
                  first
                  | (refine RY.one_skip (by first | rfl | (rw [HO.out]; rfl)) (by simp only [RX.put_some, RX.put_none, List.set_cons_zero, List.set_cons_succ]; rfl) ?_
                     refine hR _ _ ?_; clear hR R)
                  | (refine RY.one_move (by first | rfl | (rw [HO.out]; rfl)) rfl (by first | exact Or.inl rfl | exact Or.inr rfl) (by simp only [RX.eval_tmp, RX.eval_const, List.getD_cons_zero, List.getD_cons_succ]; rfl) (by simp only [RX.put_some, RX.put_none, List.set_cons_zero, List.set_cons_succ]; rfl) ?_
                     refine hR _ _ ?_; clear hR R)
                  | (refine RY.one_nil (by first | rfl | (rw [HO.out]; rfl)) rfl rfl (by simp only [RX.eval_tmp, RX.eval_const, List.getD_cons_zero, List.getD_cons_succ]; rfl) (by simp only [RX.put_some, RX.put_none, List.set_cons_zero, List.set_cons_succ]; rfl) ?_
                     refine hR _ _ ?_; clear hR R)
                  | (refine RY.one_float (by first | rfl | (rw [HO.out]; rfl)) rfl rfl rfl ?_
                     apply Exists.intro; apply Exists.intro
                     refine ⟨fun w' hS K hK => ?_, ?_, ?_⟩
                     · obtain ⟨hS1, hS2, hS3⟩ := hS; go_wp2; exact hK _ _ (by simp only [RX.arr_getD, List.getD_cons_zero, List.getD_cons_succ]; first | exact RX.dec_t (by omega) | exact RX.dec_f (by omega) | exact RX.beq_t (by omega) | exact RX.beq_f (by omega) | exact RX.bne_t (by omega) | exact RX.bne_f (by omega) | exact RX.bneB _ | rfl) rfl
                     · simp only [RX.put_some, RX.put_none, List.set_cons_zero, List.set_cons_succ]; rfl
                     refine hR _ _ ?_; clear hR R)
                refine RY.step (fun R hR => ?_)
                refine RY.one_chain (by first | rfl | (rw [HO.out]; rfl)) rfl (fun K hK => ?_)
                go_wp2
                first | refine ⟨(by first | exact .inl rfl | exact .inl trivial | trivial), hR _ _ (RY.wpL_nil (hQR _ _ ?_))⟩ | refine hR _ _ (RY.wpL_nil (hQR _ _ ?_)) | refine hQR _ _ ?_
                (try clear hR); (try clear R); clear hQR QR HO OPS
                go_wp2
                go_roundw
                case rel => first | exact ⟨q + 1, by omega, by go_num, HF.out.1, HF.out.2.1, HF.out.2.2⟩ | ((repeat apply Exists.intro); refine ⟨⟨q + 1, by omega, ?_, HF.out.1, HF.out.2.1, HF.out.2.2⟩, rfl⟩; first | rfl | go_num)
                case measure => simp [intOf]; omega
              | some ar =>
                by_cases hcc : cp = l.length
                · obtain rfl := hcc
                  go_wp2
                  go_quiet (fail)
                  go_wp2
                  refine absW (F := fun w' => Below W3.heap.size W3 w') (below_drewN hBk _) ?_
                  clear f0 f1 g0 hBk
                  rintro w5 hB5
                  have f0 := RX.keep hB5 e0
                  have f1 := RX.keep hB5 e1
                  have g0 := RX.keep hB5 r0
                  go_quiet (fail)
                  go_wp2
                  refine absW (F := fun w' => Below W3.heap.size W3 w') (below_drewN hB5 _) ?_
                  clear f0 f1 g0 hB5
                  rintro w6 hB6
                  have f0 := RX.keep hB6 e0
                  have f1 := RX.keep hB6 e1
                  have g0 := RX.keep hB6 r0
                  have hO6 := own_below HOWN.out hB6
                  have hN6 : N < w6.heap.size := by have := hB6.size; omega
                  have hT96 : T9 < w6.heap.size := by have := hB6.size; omega
                  have rf6 : w6.frozen? ⟨N, a, none⟩ = false := (World.frozen?_of_block (hB6.block N (by omega))).trans rf
                  refine RX.region RX.fN (fun w' => w'.cell? ⟨T9, 0, none⟩ = some (.int .i64 (a : Int)) ∧ w'.cell? ⟨T9, 1, none⟩ = some (.int .i64 x) ∧ w'.cell? ⟨N, a, none⟩ = some (.slice (some ar) l.length l.length)) (by kernel_rfl) (by kernel_rfl) (⟨(by (try have hLt := World.block_lt_of_cell? _ _ f0); (try simp only at hLt); (repeat first | rw [RX.cell_drew] | rw [World.cell?_setCell_other _ _ _ _ (by first | (simp; done) | (simp; omega) | omega)] | rw [RX.cell_alloc, if_neg (by first | (simp; done) | (simp; omega) | omega)]); first | exact f0 | (rw [RX.cell_alloc, if_pos (by first | (simp; done) | omega)]; exact f0)), (by (try have hLt := World.block_lt_of_cell? _ _ f1); (try simp only at hLt); (repeat first | rw [RX.cell_drew] | rw [World.cell?_setCell_other _ _ _ _ (by first | (simp; done) | (simp; omega) | omega)] | rw [RX.cell_alloc, if_neg (by first | (simp; done) | (simp; omega) | omega)]); first | exact f1 | (rw [RX.cell_alloc, if_pos (by first | (simp; done) | omega)]; exact f1)), (by (try have hLt := World.block_lt_of_cell? _ _ g0); (try simp only at hLt); (repeat first | rw [RX.cell_drew] | rw [World.cell?_setCell_other _ _ _ _ (by first | (simp; done) | (simp; omega) | omega)] | rw [RX.cell_alloc, if_neg (by first | (simp; done) | (simp; omega) | omega)]); first | exact g0 | (rw [RX.cell_alloc, if_pos (by first | (simp; done) | omega)]; exact g0))⟩) (fun OPS HO QR hQR => ?_)
                  repeat
                    refine RX.step (fun R hR => ?_)
                    first
                    | (refine RX.one_skip (by first | rfl | (rw [HO.out]; rfl)) (by simp only [RX.put_some, RX.put_none, List.set_cons_zero, List.set_cons_succ]; rfl) ?_
                       refine hR _ _ ?_; clear hR R)
                    | (refine RX.one_move (by first | rfl | (rw [HO.out]; rfl)) rfl (by first | exact Or.inl rfl | exact Or.inr rfl) (by simp only [RX.eval_tmp, RX.eval_const, List.getD_cons_zero, List.getD_cons_succ]; rfl) (by simp only [RX.put_some, RX.put_none, List.set_cons_zero, List.set_cons_succ]; rfl) ?_
                       refine hR _ _ ?_; clear hR R)
                    | (refine RX.one_nil (by first | rfl | (rw [HO.out]; rfl)) rfl rfl (by simp only [RX.eval_tmp, RX.eval_const, List.getD_cons_zero, List.getD_cons_succ]; rfl) (by simp only [RX.put_some, RX.put_none, List.set_cons_zero, List.set_cons_succ]; rfl) ?_
                       refine hR _ _ ?_; clear hR R)
                    | (refine RX.one_float (by first | rfl | (rw [HO.out]; rfl)) rfl rfl rfl ?_
                       apply Exists.intro; apply Exists.intro
                       refine ⟨fun w' hS K hK => ?_, ?_, ?_⟩
                       · obtain ⟨hS1, hS2, hS3⟩ := hS; go_wp2; exact hK _ _ (by simp only [RX.arr_getD, List.getD_cons_zero, List.getD_cons_succ]; first | exact RX.dec_t (by omega) | exact RX.dec_f (by omega) | exact RX.beq_t (by omega) | exact RX.beq_f (by omega) | exact RX.bne_t (by omega) | exact RX.bne_f (by omega) | exact RX.bneB _ | rfl) rfl
                       · simp only [RX.put_some, RX.put_none, List.set_cons_zero, List.set_cons_succ]; rfl
                       refine hR _ _ ?_; clear hR R)
                  refine RX.step (fun R hR => ?_)
                  refine RX.one_chain (by first | rfl | (rw [HO.out]; rfl)) rfl (fun K hK => ?_)
                  go_wp2
                  refine ⟨⟨(by (try have hLt := World.block_lt_of_cell? _ _ f0); (try simp only at hLt); (repeat first | rw [RX.cell_drew] | rw [World.cell?_setCell_other _ _ _ _ (by first | (simp; done) | (simp; omega) | omega)] | rw [RX.cell_alloc, if_neg (by first | (simp; done) | (simp; omega) | omega)]); first | exact f0 | (rw [RX.cell_alloc, if_pos (by first | (simp; done) | omega)]; exact f0)), (by (try have hLt := World.block_lt_of_cell? _ _ f1); (try simp only at hLt); (repeat first | rw [RX.cell_drew] | rw [World.cell?_setCell_other _ _ _ _ (by first | (simp; done) | (simp; omega) | omega)] | rw [RX.cell_alloc, if_neg (by first | (simp; done) | (simp; omega) | omega)]); first | exact f1 | (rw [RX.cell_alloc, if_pos (by first | (simp; done) | omega)]; exact f1)), (by (try have hLt := World.block_lt_of_cell? _ _ g0); (try simp only at hLt); (repeat first | rw [RX.cell_drew] | rw [World.cell?_setCell_other _ _ _ _ (by first | (simp; done) | (simp; omega) | omega)] | rw [RX.cell_alloc, if_neg (by first | (simp; done) | (simp; omega) | omega)]); first | exact g0 | (rw [RX.cell_alloc, if_pos (by first | (simp; done) | omega)]; exact g0))⟩, hR _ _ ?_⟩; clear hR R
                  repeat
                    refine RX.step (fun R hR => ?_)
                    first
                    | (refine RX.one_skip (by first | rfl | (rw [HO.out]; rfl)) (by simp only [RX.put_some, RX.put_none, List.set_cons_zero, List.set_cons_succ]; rfl) ?_
                       refine hR _ _ ?_; clear hR R)
                    | (refine RX.one_move (by first | rfl | (rw [HO.out]; rfl)) rfl (by first | exact Or.inl rfl | exact Or.inr rfl) (by simp only [RX.eval_tmp, RX.eval_const, List.getD_cons_zero, List.getD_cons_succ]; rfl) (by simp only [RX.put_some, RX.put_none, List.set_cons_zero, List.set_cons_succ]; rfl) ?_
                       refine hR _ _ ?_; clear hR R)
                    | (refine RX.one_nil (by first | rfl | (rw [HO.out]; rfl)) rfl rfl (by simp only [RX.eval_tmp, RX.eval_const, List.getD_cons_zero, List.getD_cons_succ]; rfl) (by simp only [RX.put_some, RX.put_none, List.set_cons_zero, List.set_cons_succ]; rfl) ?_
                       refine hR _ _ ?_; clear hR R)
                    | (refine RX.one_float (by first | rfl | (rw [HO.out]; rfl)) rfl rfl rfl ?_
                       apply Exists.intro; apply Exists.intro
                       refine ⟨fun w' hS K hK => ?_, ?_, ?_⟩
                       · obtain ⟨hS1, hS2, hS3⟩ := hS; go_wp2; exact hK _ _ (by simp only [RX.arr_getD, List.getD_cons_zero, List.getD_cons_succ]; first | exact RX.dec_t (by omega) | exact RX.dec_f (by omega) | exact RX.beq_t (by omega) | exact RX.beq_f (by omega) | exact RX.bne_t (by omega) | exact RX.bne_f (by omega) | exact RX.bneB _ | rfl) rfl
                       · simp only [RX.put_some, RX.put_none, List.set_cons_zero, List.set_cons_succ]; rfl
                       refine hR _ _ ?_; clear hR R)
                  refine RX.step (fun R hR => ?_)
                  refine RX.one_chain (by first | rfl | (rw [HO.out]; rfl)) rfl (fun K hK => ?_)
                  have hb1 : Below w6.heap.size w6 (w6.drew.alloc (.cells #[.int .i64 x] 3)) := (by repeat (first | (with_reducible assumption) | (with_reducible exact Below.refl _ _) | (with_reducible refine Below.setCell ?_ (by first | omega | (simp; done) | (simp; omega)) _) | (with_reducible refine Below.alloc ?_ (by first | omega | (simp; done) | (simp; omega)) _) | (with_reducible apply Below.drew) | assumption))
                  refine RX.wp_apr elInt _ _ rfl w6.heap.size #[.int .i64 x] (by first | (simp only [RX.eval_tmp, RX.eval_const, List.getD_cons_zero, List.getD_cons_succ]; done) | (simp only [RX.eval_tmp, RX.eval_const, List.getD_cons_zero, List.getD_cons_succ]; rfl)) (heap_alloc_new _ _) rfl (some ar) (0) _ (vI (l.drop l.length)) (by first | (simp only [RX.eval_tmp, RX.eval_const, List.getD_cons_zero, List.getD_cons_succ]; done) | (simp only [RX.eval_tmp, RX.eval_const, List.getD_cons_zero, List.getD_cons_succ]; rfl)) (by simp) (RX.SrcAt.none _ _ _) (vI_one _) (by omega) (by omega) (fun v1 w7 hown1 hg1 hat1 => ?_)
                  have hb7 : Below w6.heap.size w6 w7 := hb1.grown hg1 (by simp) (fun k' hk' => by injection hk' with hk'; omega)
                  clear hat1 hg1
                  have f07 := RX.keep hb7 f0
                  have f17 := RX.keep hb7 f1
                  have g07 := RX.keep hb7 g0
                  refine hK _ _ ⟨⟨f07, f17, g07⟩, ?_⟩; clear hK K; refine RX.at_ (by simp only [RX.put_some, RX.put_none, List.set_cons_zero, List.set_cons_succ]; rfl) (hR _ _ ?_); clear hR R
                  repeat
                    refine RX.step (fun R hR => ?_)
                    first
                    | (refine RX.one_skip (by first | rfl | (rw [HO.out]; rfl)) (by simp only [RX.put_some, RX.put_none, List.set_cons_zero, List.set_cons_succ]; rfl) ?_
                       refine hR _ _ ?_; clear hR R)
                    | (refine RX.one_move (by first | rfl | (rw [HO.out]; rfl)) rfl (by first | exact Or.inl rfl | exact Or.inr rfl) (by simp only [RX.eval_tmp, RX.eval_const, List.getD_cons_zero, List.getD_cons_succ]; rfl) (by simp only [RX.put_some, RX.put_none, List.set_cons_zero, List.set_cons_succ]; rfl) ?_
                       refine hR _ _ ?_; clear hR R)
                    | (refine RX.one_nil (by first | rfl | (rw [HO.out]; rfl)) rfl rfl (by simp only [RX.eval_tmp, RX.eval_const, List.getD_cons_zero, List.getD_cons_succ]; rfl) (by simp only [RX.put_some, RX.put_none, List.set_cons_zero, List.set_cons_succ]; rfl) ?_
                       refine hR _ _ ?_; clear hR R)
                    | (refine RX.one_float (by first | rfl | (rw [HO.out]; rfl)) rfl rfl rfl ?_
                       apply Exists.intro; apply Exists.intro
                       refine ⟨fun w' hS K hK => ?_, ?_, ?_⟩
                       · obtain ⟨hS1, hS2, hS3⟩ := hS; go_wp2; exact hK _ _ (by simp only [RX.arr_getD, List.getD_cons_zero, List.getD_cons_succ]; first | exact RX.dec_t (by omega) | exact RX.dec_f (by omega) | exact RX.beq_t (by omega) | exact RX.beq_f (by omega) | exact RX.bne_t (by omega) | exact RX.bne_f (by omega) | exact RX.bneB _ | rfl) rfl
                       · simp only [RX.put_some, RX.put_none, List.set_cons_zero, List.set_cons_succ]; rfl
                       refine hR _ _ ?_; clear hR R)
                  refine RX.wpL_nil (hQR _ _ (⟨f07, f17, g07⟩) ?_); clear hQR QR HO OPS
                  go_wp2
                  have hs2 : RX.SrcAt w7.drew (some ar) (l.length) (vI (l.take (l.length))) := by
                    have h9 := ((RX.SrcAt.of_own hO6).keep (fun _ _ hp => RX.keep hb7.drew hp)).take (k := l.length) (size := 1) (by omega)
                    rw [Nat.mul_one, ← List.map_take] at h9; exact h9
                  refine RY.region RX.fN (fun w' => w'.cell? ⟨T9, 0, none⟩ = some (.int .i64 (a : Int)) ∧ w'.cell? ⟨T9, 1, none⟩ = some (.int .i64 x) ∧ w'.cell? ⟨N, a, none⟩ = some (.slice (some ar) l.length l.length)) (by kernel_rfl) (by kernel_rfl) (⟨(by (try have hLt := World.block_lt_of_cell? _ _ f07); (try simp only at hLt); (repeat first | rw [RX.cell_drew] | rw [World.cell?_setCell_other _ _ _ _ (by first | (simp; done) | (simp; omega) | omega)] | rw [RX.cell_alloc, if_neg (by first | (simp; done) | (simp; omega) | omega)]); first | exact f07 | (rw [RX.cell_alloc, if_pos (by first | (simp; done) | omega)]; exact f07)), (by (try have hLt := World.block_lt_of_cell? _ _ f17); (try simp only at hLt); (repeat first | rw [RX.cell_drew] | rw [World.cell?_setCell_other _ _ _ _ (by first | (simp; done) | (simp; omega) | omega)] | rw [RX.cell_alloc, if_neg (by first | (simp; done) | (simp; omega) | omega)]); first | exact f17 | (rw [RX.cell_alloc, if_pos (by first | (simp; done) | omega)]; exact f17)), (by (try have hLt := World.block_lt_of_cell? _ _ g07); (try simp only at hLt); (repeat first | rw [RX.cell_drew] | rw [World.cell?_setCell_other _ _ _ _ (by first | (simp; done) | (simp; omega) | omega)] | rw [RX.cell_alloc, if_neg (by first | (simp; done) | (simp; omega) | omega)]); first | exact g07 | (rw [RX.cell_alloc, if_pos (by first | (simp; done) | omega)]; exact g07))⟩) (fun OPS HO QR hQR => ?_)
                  repeat
                    refine RY.step (fun R hR => ?_)
                    first
                    | (refine RY.one_skip (by first | rfl | (rw [HO.out]; rfl)) (by simp only [RX.put_some, RX.put_none, List.set_cons_zero, List.set_cons_succ]; rfl) ?_
                       refine hR _ _ ?_; clear hR R)
                    | (refine RY.one_move (by first | rfl | (rw [HO.out]; rfl)) rfl (by first | exact Or.inl rfl | exact Or.inr rfl) (by simp only [RX.eval_tmp, RX.eval_const, List.getD_cons_zero, List.getD_cons_succ]; rfl) (by simp only [RX.put_some, RX.put_none, List.set_cons_zero, List.set_cons_succ]; rfl) ?_
                       refine hR _ _ ?_; clear hR R)
                    | (refine RY.one_nil (by first | rfl | (rw [HO.out]; rfl)) rfl rfl (by simp only [RX.eval_tmp, RX.eval_const, List.getD_cons_zero, List.getD_cons_succ]; rfl) (by simp only [RX.put_some, RX.put_none, List.set_cons_zero, List.set_cons_succ]; rfl) ?_
                       refine hR _ _ ?_; clear hR R)
                    | (refine RY.one_float (by first | rfl | (rw [HO.out]; rfl)) rfl rfl rfl ?_
                       apply Exists.intro; apply Exists.intro
                       refine ⟨fun w' hS K hK => ?_, ?_, ?_⟩
                       · obtain ⟨hS1, hS2, hS3⟩ := hS; go_wp2; exact hK _ _ (by simp only [RX.arr_getD, List.getD_cons_zero, List.getD_cons_succ]; first | exact RX.dec_t (by omega) | exact RX.dec_f (by omega) | exact RX.beq_t (by omega) | exact RX.beq_f (by omega) | exact RX.bne_t (by omega) | exact RX.bne_f (by omega) | exact RX.bneB _ | rfl) rfl
                       · simp only [RX.put_some, RX.put_none, List.set_cons_zero, List.set_cons_succ]; rfl
                       refine hR _ _ ?_; clear hR R)
                  refine RY.step (fun R hR => ?_)
                  refine RY.one_chain (by first | rfl | (rw [HO.out]; rfl)) rfl (fun K hK => ?_)
                  refine RX.wp_apg elInt _ _ rfl (some ar) (l.length) (vI (l.take (l.length))) (by first | (simp only [RX.eval_tmp, RX.eval_const, List.getD_cons_zero, List.getD_cons_succ]; done) | (simp only [RX.eval_tmp, RX.eval_const, List.getD_cons_zero, List.getD_cons_succ]; rfl)) (fun e => by cases e) (by first | (simp; done) | (simp; omega)) hs2 w6.heap.size (1 + (0)) v1 _ (by first | (simp only [RX.eval_tmp, RX.eval_const, List.getD_cons_zero, List.getD_cons_succ]; done) | (simp only [RX.eval_tmp, RX.eval_const, List.getD_cons_zero, List.getD_cons_succ]; rfl)) (World.ownsRow.drew hown1) (by omega) (vI_ins _ _) (by omega) (by omega) (fun v2 w8 hown2 hg2 => ?_)
                  have hb8 : Below w6.heap.size w6 w8 := hb7.drew.grown hg2 hb7.drew.size (fun k' hk' => by cases hk')
                  obtain ⟨p2, c2, hv2, _⟩ := own_slice hown2
                  subst hv2
                  have f08 := RX.keep hb8 f0
                  have f18 := RX.keep hb8 f1
                  have g08 := RX.keep hb8 g0
                  have rf8 : w8.frozen? ⟨N, a, none⟩ = false := (World.frozen?_of_block (hb8.block N hN6)).trans rf6
                  have HF := Lib.hid (HM2.out w8 _ (hB6.trans (hb8.mono hB6.size)) (own_ins (by first | omega | simp) (by first | omega | simp) hown2 (by have := hb7.size; have := hB6.size; simp; omega)))
                  clear hown1 hown2 hg2 hb1 hb7 hs2 f07 f17 g07 hO6 hb8
                  refine hK _ _ ⟨.inr (⟨f08, f18, g08⟩), ?_⟩; clear hK K; refine RY.at_ (by simp only [RX.put_some, RX.put_none, List.set_cons_zero, List.set_cons_succ]; rfl) (hR _ _ ?_); clear hR R
                  repeat
                    refine RY.step (fun R hR => ?_)
                    first
                    | (refine RY.one_skip (by first | rfl | (rw [HO.out]; rfl)) (by simp only [RX.put_some, RX.put_none, List.set_cons_zero, List.set_cons_succ]; rfl) ?_
                       refine hR _ _ ?_; clear hR R)
                    | (refine RY.one_move (by first | rfl | (rw [HO.out]; rfl)) rfl (by first | exact Or.inl rfl | exact Or.inr rfl) (by simp only [RX.eval_tmp, RX.eval_const, List.getD_cons_zero, List.getD_cons_succ]; rfl) (by simp only [RX.put_some, RX.put_none, List.set_cons_zero, List.set_cons_succ]; rfl) ?_
                       refine hR _ _ ?_; clear hR R)
                    | (refine RY.one_nil (by first | rfl | (rw [HO.out]; rfl)) rfl rfl (by simp only [RX.eval_tmp, RX.eval_const, List.getD_cons_zero, List.getD_cons_succ]; rfl) (by simp only [RX.put_some, RX.put_none, List.set_cons_zero, List.set_cons_succ]; rfl) ?_
                       refine hR _ _ ?_; clear hR R)
                    | (refine RY.one_float (by first | rfl | (rw [HO.out]; rfl)) rfl rfl rfl ?_
                       apply Exists.intro; apply Exists.intro
                       refine ⟨fun w' hS K hK => ?_, ?_, ?_⟩
                       · obtain ⟨hS1, hS2, hS3⟩ := hS; go_wp2; exact hK _ _ (by simp only [RX.arr_getD, List.getD_cons_zero, List.getD_cons_succ]; first | exact RX.dec_t (by omega) | exact RX.dec_f (by omega) | exact RX.beq_t (by omega) | exact RX.beq_f (by omega) | exact RX.bne_t (by omega) | exact RX.bne_f (by omega) | exact RX.bneB _ | rfl) rfl
                       · simp only [RX.put_some, RX.put_none, List.set_cons_zero, List.set_cons_succ]; rfl
                       refine hR _ _ ?_; clear hR R)
                  refine RY.step (fun R hR => ?_)
                  refine RY.one_chain (by first | rfl | (rw [HO.out]; rfl)) rfl (fun K hK => ?_)
                  go_wp2
                  first | refine ⟨(by first | exact .inl rfl | exact .inl trivial | trivial), hR _ _ (RY.wpL_nil (hQR _ _ ?_))⟩ | refine hR _ _ (RY.wpL_nil (hQR _ _ ?_)) | refine hQR _ _ ?_
                  (try clear hR); (try clear R); clear hQR QR HO OPS
                  go_wp2
                  go_roundw
                  case rel => first | exact ⟨q + 1, by omega, by go_num, HF.out.1, HF.out.2.1, HF.out.2.2⟩ | ((repeat apply Exists.intro); refine ⟨⟨q + 1, by omega, ?_, HF.out.1, HF.out.2.1, HF.out.2.2⟩, rfl⟩; first | rfl | go_num)
                  case measure => simp [intOf]; omega
                · have hcc2 : ¬ l.length = cp := fun e => hcc e.symm
                  go_wp2
                  go_quiet (fail)
                  go_wp2
                  refine absW (F := fun w' => Below W3.heap.size W3 w') (below_drewN hBk _) ?_
                  clear f0 f1 g0 hBk
                  rintro w5 hB5
                  have f0 := RX.keep hB5 e0
                  have f1 := RX.keep hB5 e1
                  have g0 := RX.keep hB5 r0
                  go_quiet (fail)
                  go_wp2
                  refine absW (F := fun w' => Below W3.heap.size W3 w') (below_drewN hB5 _) ?_
                  clear f0 f1 g0 hB5
                  rintro w6 hB6
                  have f0 := RX.keep hB6 e0
                  have f1 := RX.keep hB6 e1
                  have g0 := RX.keep hB6 r0
                  have hO6 := own_below HOWN.out hB6
                  have hN6 : N < w6.heap.size := by have := hB6.size; omega
                  have hT96 : T9 < w6.heap.size := by have := hB6.size; omega
                  have rf6 : w6.frozen? ⟨N, a, none⟩ = false := (World.frozen?_of_block (hB6.block N (by omega))).trans rf
                  refine RX.region RX.fN (fun w' => w'.cell? ⟨T9, 0, none⟩ = some (.int .i64 (a : Int)) ∧ w'.cell? ⟨T9, 1, none⟩ = some (.int .i64 x) ∧ w'.cell? ⟨N, a, none⟩ = some (.slice (some ar) l.length cp)) (by kernel_rfl) (by kernel_rfl) (⟨(by (try have hLt := World.block_lt_of_cell? _ _ f0); (try simp only at hLt); (repeat first | rw [RX.cell_drew] | rw [World.cell?_setCell_other _ _ _ _ (by first | (simp; done) | (simp; omega) | omega)] | rw [RX.cell_alloc, if_neg (by first | (simp; done) | (simp; omega) | omega)]); first | exact f0 | (rw [RX.cell_alloc, if_pos (by first | (simp; done) | omega)]; exact f0)), (by (try have hLt := World.block_lt_of_cell? _ _ f1); (try simp only at hLt); (repeat first | rw [RX.cell_drew] | rw [World.cell?_setCell_other _ _ _ _ (by first | (simp; done) | (simp; omega) | omega)] | rw [RX.cell_alloc, if_neg (by first | (simp; done) | (simp; omega) | omega)]); first | exact f1 | (rw [RX.cell_alloc, if_pos (by first | (simp; done) | omega)]; exact f1)), (by (try have hLt := World.block_lt_of_cell? _ _ g0); (try simp only at hLt); (repeat first | rw [RX.cell_drew] | rw [World.cell?_setCell_other _ _ _ _ (by first | (simp; done) | (simp; omega) | omega)] | rw [RX.cell_alloc, if_neg (by first | (simp; done) | (simp; omega) | omega)]); first | exact g0 | (rw [RX.cell_alloc, if_pos (by first | (simp; done) | omega)]; exact g0))⟩) (fun OPS HO QR hQR => ?_)
                  repeat
                    refine RX.step (fun R hR => ?_)
                    first
                    | (refine RX.one_skip (by first | rfl | (rw [HO.out]; rfl)) (by simp only [RX.put_some, RX.put_none, List.set_cons_zero, List.set_cons_succ]; rfl) ?_
                       refine hR _ _ ?_; clear hR R)
                    | (refine RX.one_move (by first | rfl | (rw [HO.out]; rfl)) rfl (by first | exact Or.inl rfl | exact Or.inr rfl) (by simp only [RX.eval_tmp, RX.eval_const, List.getD_cons_zero, List.getD_cons_succ]; rfl) (by simp only [RX.put_some, RX.put_none, List.set_cons_zero, List.set_cons_succ]; rfl) ?_
                       refine hR _ _ ?_; clear hR R)
                    | (refine RX.one_nil (by first | rfl | (rw [HO.out]; rfl)) rfl rfl (by simp only [RX.eval_tmp, RX.eval_const, List.getD_cons_zero, List.getD_cons_succ]; rfl) (by simp only [RX.put_some, RX.put_none, List.set_cons_zero, List.set_cons_succ]; rfl) ?_
                       refine hR _ _ ?_; clear hR R)
                    | (refine RX.one_float (by first | rfl | (rw [HO.out]; rfl)) rfl rfl rfl ?_
                       apply Exists.intro; apply Exists.intro
                       refine ⟨fun w' hS K hK => ?_, ?_, ?_⟩
                       · obtain ⟨hS1, hS2, hS3⟩ := hS; go_wp2; exact hK _ _ (by simp only [RX.arr_getD, List.getD_cons_zero, List.getD_cons_succ]; first | exact RX.dec_t (by omega) | exact RX.dec_f (by omega) | exact RX.beq_t (by omega) | exact RX.beq_f (by omega) | exact RX.bne_t (by omega) | exact RX.bne_f (by omega) | exact RX.bneB _ | rfl) rfl
                       · simp only [RX.put_some, RX.put_none, List.set_cons_zero, List.set_cons_succ]; rfl
                       refine hR _ _ ?_; clear hR R)
                  refine RX.step (fun R hR => ?_)
                  refine RX.one_chain (by first | rfl | (rw [HO.out]; rfl)) rfl (fun K hK => ?_)
                  go_wp2
                  refine ⟨⟨(by (try have hLt := World.block_lt_of_cell? _ _ f0); (try simp only at hLt); (repeat first | rw [RX.cell_drew] | rw [World.cell?_setCell_other _ _ _ _ (by first | (simp; done) | (simp; omega) | omega)] | rw [RX.cell_alloc, if_neg (by first | (simp; done) | (simp; omega) | omega)]); first | exact f0 | (rw [RX.cell_alloc, if_pos (by first | (simp; done) | omega)]; exact f0)), (by (try have hLt := World.block_lt_of_cell? _ _ f1); (try simp only at hLt); (repeat first | rw [RX.cell_drew] | rw [World.cell?_setCell_other _ _ _ _ (by first | (simp; done) | (simp; omega) | omega)] | rw [RX.cell_alloc, if_neg (by first | (simp; done) | (simp; omega) | omega)]); first | exact f1 | (rw [RX.cell_alloc, if_pos (by first | (simp; done) | omega)]; exact f1)), (by (try have hLt := World.block_lt_of_cell? _ _ g0); (try simp only at hLt); (repeat first | rw [RX.cell_drew] | rw [World.cell?_setCell_other _ _ _ _ (by first | (simp; done) | (simp; omega) | omega)] | rw [RX.cell_alloc, if_neg (by first | (simp; done) | (simp; omega) | omega)]); first | exact g0 | (rw [RX.cell_alloc, if_pos (by first | (simp; done) | omega)]; exact g0))⟩, hR _ _ ?_⟩; clear hR R
                  repeat
                    refine RX.step (fun R hR => ?_)
                    first
                    | (refine RX.one_skip (by first | rfl | (rw [HO.out]; rfl)) (by simp only [RX.put_some, RX.put_none, List.set_cons_zero, List.set_cons_succ]; rfl) ?_
                       refine hR _ _ ?_; clear hR R)
                    | (refine RX.one_move (by first | rfl | (rw [HO.out]; rfl)) rfl (by first | exact Or.inl rfl | exact Or.inr rfl) (by simp only [RX.eval_tmp, RX.eval_const, List.getD_cons_zero, List.getD_cons_succ]; rfl) (by simp only [RX.put_some, RX.put_none, List.set_cons_zero, List.set_cons_succ]; rfl) ?_
                       refine hR _ _ ?_; clear hR R)
                    | (refine RX.one_nil (by first | rfl | (rw [HO.out]; rfl)) rfl rfl (by simp only [RX.eval_tmp, RX.eval_const, List.getD_cons_zero, List.getD_cons_succ]; rfl) (by simp only [RX.put_some, RX.put_none, List.set_cons_zero, List.set_cons_succ]; rfl) ?_
                       refine hR _ _ ?_; clear hR R)
                    | (refine RX.one_float (by first | rfl | (rw [HO.out]; rfl)) rfl rfl rfl ?_
                       apply Exists.intro; apply Exists.intro
                       refine ⟨fun w' hS K hK => ?_, ?_, ?_⟩
                       · obtain ⟨hS1, hS2, hS3⟩ := hS; go_wp2; exact hK _ _ (by simp only [RX.arr_getD, List.getD_cons_zero, List.getD_cons_succ]; first | exact RX.dec_t (by omega) | exact RX.dec_f (by omega) | exact RX.beq_t (by omega) | exact RX.beq_f (by omega) | exact RX.bne_t (by omega) | exact RX.bne_f (by omega) | exact RX.bneB _ | rfl) rfl
                       · simp only [RX.put_some, RX.put_none, List.set_cons_zero, List.set_cons_succ]; rfl
                       refine hR _ _ ?_; clear hR R)
                  refine RX.step (fun R hR => ?_)
                  refine RX.one_chain (by first | rfl | (rw [HO.out]; rfl)) rfl (fun K hK => ?_)
                  have hb1 : Below w6.heap.size w6 (w6.drew.alloc (.cells #[.int .i64 x] 3)) := (by repeat (first | (with_reducible assumption) | (with_reducible exact Below.refl _ _) | (with_reducible refine Below.setCell ?_ (by first | omega | (simp; done) | (simp; omega)) _) | (with_reducible refine Below.alloc ?_ (by first | omega | (simp; done) | (simp; omega)) _) | (with_reducible apply Below.drew) | assumption))
                  refine RX.wp_apr elInt _ _ rfl w6.heap.size #[.int .i64 x] (by first | (simp only [RX.eval_tmp, RX.eval_const, List.getD_cons_zero, List.getD_cons_succ]; done) | (simp only [RX.eval_tmp, RX.eval_const, List.getD_cons_zero, List.getD_cons_succ]; rfl)) (heap_alloc_new _ _) rfl _ (0) _ (vI (l.drop l.length)) (by first | (simp only [RX.eval_tmp, RX.eval_const, List.getD_cons_zero, List.getD_cons_succ]; done) | (simp only [RX.eval_tmp, RX.eval_const, List.getD_cons_zero, List.getD_cons_succ]; rfl)) (by simp) (RX.SrcAt.none _ _ _) (vI_one _) (by omega) (by omega) (fun v1 w7 hown1 hg1 hat1 => ?_)
                  have hb7 : Below w6.heap.size w6 w7 := hb1.grown hg1 (by simp) (fun k' hk' => by injection hk' with hk'; omega)
                  clear hat1 hg1
                  have f07 := RX.keep hb7 f0
                  have f17 := RX.keep hb7 f1
                  have g07 := RX.keep hb7 g0
                  refine hK _ _ ⟨⟨f07, f17, g07⟩, ?_⟩; clear hK K; refine RX.at_ (by simp only [RX.put_some, RX.put_none, List.set_cons_zero, List.set_cons_succ]; rfl) (hR _ _ ?_); clear hR R
                  repeat
                    refine RX.step (fun R hR => ?_)
                    first
                    | (refine RX.one_skip (by first | rfl | (rw [HO.out]; rfl)) (by simp only [RX.put_some, RX.put_none, List.set_cons_zero, List.set_cons_succ]; rfl) ?_
                       refine hR _ _ ?_; clear hR R)
                    | (refine RX.one_move (by first | rfl | (rw [HO.out]; rfl)) rfl (by first | exact Or.inl rfl | exact Or.inr rfl) (by simp only [RX.eval_tmp, RX.eval_const, List.getD_cons_zero, List.getD_cons_succ]; rfl) (by simp only [RX.put_some, RX.put_none, List.set_cons_zero, List.set_cons_succ]; rfl) ?_
                       refine hR _ _ ?_; clear hR R)
                    | (refine RX.one_nil (by first | rfl | (rw [HO.out]; rfl)) rfl rfl (by simp only [RX.eval_tmp, RX.eval_const, List.getD_cons_zero, List.getD_cons_succ]; rfl) (by simp only [RX.put_some, RX.put_none, List.set_cons_zero, List.set_cons_succ]; rfl) ?_
                       refine hR _ _ ?_; clear hR R)
                    | (refine RX.one_float (by first | rfl | (rw [HO.out]; rfl)) rfl rfl rfl ?_
                       apply Exists.intro; apply Exists.intro
                       refine ⟨fun w' hS K hK => ?_, ?_, ?_⟩
                       · obtain ⟨hS1, hS2, hS3⟩ := hS; go_wp2; exact hK _ _ (by simp only [RX.arr_getD, List.getD_cons_zero, List.getD_cons_succ]; first | exact RX.dec_t (by omega) | exact RX.dec_f (by omega) | exact RX.beq_t (by omega) | exact RX.beq_f (by omega) | exact RX.bne_t (by omega) | exact RX.bne_f (by omega) | exact RX.bneB _ | rfl) rfl
                       · simp only [RX.put_some, RX.put_none, List.set_cons_zero, List.set_cons_succ]; rfl
                       refine hR _ _ ?_; clear hR R)
                  refine RX.wpL_nil (hQR _ _ (⟨f07, f17, g07⟩) ?_); clear hQR QR HO OPS
                  go_wp2
                  have hs2 : RX.SrcAt w7.drew (some ar) (l.length) (vI (l.take (l.length))) := by
                    have h9 := ((RX.SrcAt.of_own hO6).keep (fun _ _ hp => RX.keep hb7.drew hp)).take (k := l.length) (size := 1) (by omega)
                    rw [Nat.mul_one, ← List.map_take] at h9; exact h9
                  refine RY.region RX.fN (fun w' => w'.cell? ⟨T9, 0, none⟩ = some (.int .i64 (a : Int)) ∧ w'.cell? ⟨T9, 1, none⟩ = some (.int .i64 x) ∧ w'.cell? ⟨N, a, none⟩ = some (.slice (some ar) l.length cp)) (by kernel_rfl) (by kernel_rfl) (⟨(by (try have hLt := World.block_lt_of_cell? _ _ f07); (try simp only at hLt); (repeat first | rw [RX.cell_drew] | rw [World.cell?_setCell_other _ _ _ _ (by first | (simp; done) | (simp; omega) | omega)] | rw [RX.cell_alloc, if_neg (by first | (simp; done) | (simp; omega) | omega)]); first | exact f07 | (rw [RX.cell_alloc, if_pos (by first | (simp; done) | omega)]; exact f07)), (by (try have hLt := World.block_lt_of_cell? _ _ f17); (try simp only at hLt); (repeat first | rw [RX.cell_drew] | rw [World.cell?_setCell_other _ _ _ _ (by first | (simp; done) | (simp; omega) | omega)] | rw [RX.cell_alloc, if_neg (by first | (simp; done) | (simp; omega) | omega)]); first | exact f17 | (rw [RX.cell_alloc, if_pos (by first | (simp; done) | omega)]; exact f17)), (by (try have hLt := World.block_lt_of_cell? _ _ g07); (try simp only at hLt); (repeat first | rw [RX.cell_drew] | rw [World.cell?_setCell_other _ _ _ _ (by first | (simp; done) | (simp; omega) | omega)] | rw [RX.cell_alloc, if_neg (by first | (simp; done) | (simp; omega) | omega)]); first | exact g07 | (rw [RX.cell_alloc, if_pos (by first | (simp; done) | omega)]; exact g07))⟩) (fun OPS HO QR hQR => ?_)
                  repeat
                    refine RY.step (fun R hR => ?_)
                    first
                    | (refine RY.one_skip (by first | rfl | (rw [HO.out]; rfl)) (by simp only [RX.put_some, RX.put_none, List.set_cons_zero, List.set_cons_succ]; rfl) ?_
                       refine hR _ _ ?_; clear hR R)
                    | (refine RY.one_move (by first | rfl | (rw [HO.out]; rfl)) rfl (by first | exact Or.inl rfl | exact Or.inr rfl) (by simp only [RX.eval_tmp, RX.eval_const, List.getD_cons_zero, List.getD_cons_succ]; rfl) (by simp only [RX.put_some, RX.put_none, List.set_cons_zero, List.set_cons_succ]; rfl) ?_
                       refine hR _ _ ?_; clear hR R)
                    | (refine RY.one_nil (by first | rfl | (rw [HO.out]; rfl)) rfl rfl (by simp only [RX.eval_tmp, RX.eval_const, List.getD_cons_zero, List.getD_cons_succ]; rfl) (by simp only [RX.put_some, RX.put_none, List.set_cons_zero, List.set_cons_succ]; rfl) ?_
                       refine hR _ _ ?_; clear hR R)
                    | (refine RY.one_float (by first | rfl | (rw [HO.out]; rfl)) rfl rfl rfl ?_
                       apply Exists.intro; apply Exists.intro
                       refine ⟨fun w' hS K hK => ?_, ?_, ?_⟩
                       · obtain ⟨hS1, hS2, hS3⟩ := hS; go_wp2; exact hK _ _ (by simp only [RX.arr_getD, List.getD_cons_zero, List.getD_cons_succ]; first | exact RX.dec_t (by omega) | exact RX.dec_f (by omega) | exact RX.beq_t (by omega) | exact RX.beq_f (by omega) | exact RX.bne_t (by omega) | exact RX.bne_f (by omega) | exact RX.bneB _ | rfl) rfl
                       · simp only [RX.put_some, RX.put_none, List.set_cons_zero, List.set_cons_succ]; rfl
                       refine hR _ _ ?_; clear hR R)
                  refine RY.step (fun R hR => ?_)
                  refine RY.one_chain (by first | rfl | (rw [HO.out]; rfl)) rfl (fun K hK => ?_)
                  refine RX.wp_apg elInt _ _ rfl (some ar) (l.length) (vI (l.take (l.length))) (by first | (simp only [RX.eval_tmp, RX.eval_const, List.getD_cons_zero, List.getD_cons_succ]; done) | (simp only [RX.eval_tmp, RX.eval_const, List.getD_cons_zero, List.getD_cons_succ]; rfl)) (fun e => by cases e) (by first | (simp; done) | (simp; omega)) hs2 w6.heap.size (1 + (0)) v1 _ (by first | (simp only [RX.eval_tmp, RX.eval_const, List.getD_cons_zero, List.getD_cons_succ]; done) | (simp only [RX.eval_tmp, RX.eval_const, List.getD_cons_zero, List.getD_cons_succ]; rfl)) (World.ownsRow.drew hown1) (by omega) (vI_ins _ _) (by omega) (by omega) (fun v2 w8 hown2 hg2 => ?_)
                  have hb8 : Below w6.heap.size w6 w8 := hb7.drew.grown hg2 hb7.drew.size (fun k' hk' => by cases hk')
                  obtain ⟨p2, c2, hv2, _⟩ := own_slice hown2
                  subst hv2
                  have f08 := RX.keep hb8 f0
                  have f18 := RX.keep hb8 f1
                  have g08 := RX.keep hb8 g0
                  have rf8 : w8.frozen? ⟨N, a, none⟩ = false := (World.frozen?_of_block (hb8.block N hN6)).trans rf6
                  have HF := Lib.hid (HM2.out w8 _ (hB6.trans (hb8.mono hB6.size)) (own_ins (by first | omega | simp) (by first | omega | simp) hown2 (by have := hb7.size; have := hB6.size; simp; omega)))
                  clear hown1 hown2 hg2 hb1 hb7 hs2 f07 f17 g07 hO6 hb8
                  refine hK _ _ ⟨.inr (⟨f08, f18, g08⟩), ?_⟩; clear hK K; refine RY.at_ (by simp only [RX.put_some, RX.put_none, List.set_cons_zero, List.set_cons_succ]; rfl) (hR _ _ ?_); clear hR R
                  repeat
                    refine RY.step (fun R hR => ?_)
                    first
                    | (refine RY.one_skip (by first | rfl | (rw [HO.out]; rfl)) (by simp only [RX.put_some, RX.put_none, List.set_cons_zero, List.set_cons_succ]; rfl) ?_
                       refine hR _ _ ?_; clear hR R)
                    | (refine RY.one_move (by first | rfl | (rw [HO.out]; rfl)) rfl (by first | exact Or.inl rfl | exact Or.inr rfl) (by simp only [RX.eval_tmp, RX.eval_const, List.getD_cons_zero, List.getD_cons_succ]; rfl) (by simp only [RX.put_some, RX.put_none, List.set_cons_zero, List.set_cons_succ]; rfl) ?_
                       refine hR _ _ ?_; clear hR R)
                    | (refine RY.one_nil (by first | rfl | (rw [HO.out]; rfl)) rfl rfl (by simp only [RX.eval_tmp, RX.eval_const, List.getD_cons_zero, List.getD_cons_succ]; rfl) (by simp only [RX.put_some, RX.put_none, List.set_cons_zero, List.set_cons_succ]; rfl) ?_
                       refine hR _ _ ?_; clear hR R)
                    | (refine RY.one_float (by first | rfl | (rw [HO.out]; rfl)) rfl rfl rfl ?_
                       apply Exists.intro; apply Exists.intro
                       refine ⟨fun w' hS K hK => ?_, ?_, ?_⟩
                       · obtain ⟨hS1, hS2, hS3⟩ := hS; go_wp2; exact hK _ _ (by simp only [RX.arr_getD, List.getD_cons_zero, List.getD_cons_succ]; first | exact RX.dec_t (by omega) | exact RX.dec_f (by omega) | exact RX.beq_t (by omega) | exact RX.beq_f (by omega) | exact RX.bne_t (by omega) | exact RX.bne_f (by omega) | exact RX.bneB _ | rfl) rfl
                       · simp only [RX.put_some, RX.put_none, List.set_cons_zero, List.set_cons_succ]; rfl
                       refine hR _ _ ?_; clear hR R)
                  refine RY.step (fun R hR => ?_)
                  refine RY.one_chain (by first | rfl | (rw [HO.out]; rfl)) rfl (fun K hK => ?_)
                  go_wp2
                  first | refine ⟨(by first | exact .inl rfl | exact .inl trivial | trivial), hR _ _ (RY.wpL_nil (hQR _ _ ?_))⟩ | refine hR _ _ (RY.wpL_nil (hQR _ _ ?_)) | refine hQR _ _ ?_
                  (try clear hR); (try clear R); clear hQR QR HO OPS
                  go_wp2
                  go_roundw
                  case rel => first | exact ⟨q + 1, by omega, by go_num, HF.out.1, HF.out.2.1, HF.out.2.2⟩ | ((repeat apply Exists.intro); refine ⟨⟨q + 1, by omega, ?_, HF.out.1, HF.out.2.1, HF.out.2.2⟩, rfl⟩; first | rfl | go_num)
                  case measure => simp [intOf]; omega
        · have eq6 : q = 6 := by omega
          have hdq2 : decide ((q : Int) < 6) = false := decide_eq_false (by omega)
          rw [eq6, List.take_of_length_le (by rw [HP6.out]; exact Nat.le_refl _), ← HSX2.out] at hA
          have HA := Lib.hid hA
          clear hA
          go_wp2
          go_roundw
          case rel => first | exact ⟨m + 1, by omega, by go_num, HA.out, hB⟩ | ((repeat apply Exists.intro); refine ⟨⟨m + 1, by omega, ?_, HA.out, hB⟩, rfl⟩; first | rfl | go_num)
          case measure => simp [intOf]; omega
    · have em : m = CL := by omega
      have hdm : decide (m < CL) = false := decide_eq_false hlm
      have HFIN : Hid (AroAt wr N M (nextL n) ∧ w.heap.size ≤ N ∧ Below w.heap.size w wr) := Lib.hid (by
        obtain ⟨ls, hL, hR, _⟩ := hA.ex
        rw [em, HCL.out, List.take_length] at hR
        have e : ls = nextL n := funext fun i => rows_next h1 h8 hR i
        exact ⟨e ▸ hL, by rw [HNN.out]; exact hBs1, hB1.trans (hB.mono hBs1)⟩)
      clear hA hB
      go_wp2
      go_ret
      exact ⟨_, rfl, HFIN.out⟩
end Go.Proofs.YtlfhildbjipheaaGreatDoor
