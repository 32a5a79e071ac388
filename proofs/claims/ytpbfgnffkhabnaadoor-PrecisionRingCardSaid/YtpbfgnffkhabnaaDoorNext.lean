import Derived.Test.YtpbfgnffkhabnaaDoorFld
set_option linter.unusedSimpArgs false
set_option linter.unusedVariables false
namespace Go.Proofs.YtpbfgnffkhabnaaDoor
open Go.RowKit Go.Grid Go.Maps Go.Sort Go.Shelf

/-- A row of M rows of numbers, at block N: the lists ls. -/
def NextAt (w : World) (N M base : Nat) (ls : Nat → List Int) : Prop := ∃ vs : Nat → Value, w.rowIs N 24 M vs ∧ (∀ i, i < M → w.ownsRow base 3 1 (vs i) (ls i).length ((ls i).map (Value.int .i64))) ∧
  (∀ i j, i < M → j < M → i ≠ j → (vs i).ownBlock = none ∨ (vs i).ownBlock ≠ (vs j).ownBlock)
theorem NextAt.made (w : World) (M base : Nat) : NextAt (w.alloc (.cells (madeCells #[.slice none 0 0] M) 24)) w.heap.size M base (fun _ => []) :=
  ⟨fun _ => .slice none 0 0, World.rowIs_made w _ M _, fun _ _ => World.ownsRow_nil _ _ _ _, fun _ _ _ _ _ => .inl rfl⟩
theorem NextAt.kept {w w' : World} {N M base : Nat} {ls : Nat → List Int} {row : Option Nat} (h : NextAt w N M base ls) (hg : w.grownBy w' row) (hr : ∀ k, row = some k → w.heap.size ≤ k ∨ k < base ∧ k ≠ N) (hN : N < w.heap.size) : NextAt w' N M base ls := by
  obtain ⟨vs, h1, h2, h3⟩ := h
  refine ⟨vs, h1.of_block (hg.block N hN (fun e => ?_)), fun i hi => (h2 i hi).kept hg ?_, h3⟩
  · rcases hr N e.symm with h | h
    · omega
    · exact h.2 rfl
  · cases ho : (vs i).ownBlock with
    | none => exact .inl rfl
    | some k =>
      have hk := (h2 i hi).lt k ho
      refine .inr fun e => ?_
      rcases hr k e.symm with h | h <;> omega
theorem NextAt.lt {w : World} {N M base : Nat} {ls : Nat → List Int} (h : NextAt w N M base ls) : N < w.heap.size := by
  obtain ⟨vs, h1, _⟩ := h; exact h1.lt

def addTo (ls : Nat → List Int) (a : Nat) (x : Int) : Nat → List Int := fun i => if i = a then ls i ++ [x] else ls i
theorem NextAt.push {w w' : World} {N M base : Nat} {ls : Nat → List Int} {vs : Nat → Value} (h1 : w.rowIs N 24 M vs) (h2 : ∀ i, i < M → w.ownsRow base 3 1 (vs i) (ls i).length ((ls i).map (Value.int .i64)))
    (h3 : ∀ i j, i < M → j < M → i ≠ j → (vs i).ownBlock = none ∨ (vs i).ownBlock ≠ (vs j).ownBlock) {a : Nat} (ha : a < M) {x : Int} {v' : Value} {b0 : Nat} (hg : w.grownBy w' (vs a).ownBlock)
    (hown : w'.ownsRow base 3 1 v' ((ls a).length + 1) ((ls a).map (Value.int .i64) ++ [.int .i64 x])) (hat : v'.ownBlock = (vs a).ownBlock ∨ v'.ownBlock = some b0) (hb0 : w.heap.size ≤ b0) (hN : N < base) : NextAt (w'.setCell ⟨N, a, none⟩ v') N M base (addTo ls a x) := by
  have hNe : ∀ i, i < M → (vs i).ownBlock ≠ some N := fun i hi e => by have := ((h2 i hi).lt N e).1; omega
  refine ⟨fun i => if i = a then v' else vs i, (h1.of_block (hg.block N h1.lt (Ne.symm (hNe a ha)))).set a v', fun i hi => ?_, fun i j hi hj hij => ?_⟩
  · dsimp only
    by_cases hia : i = a
    · subst hia
      have e : addTo ls i x i = ls i ++ [x] := by simp [addTo]
      rw [e, if_pos rfl, List.length_append, List.map_append]
      exact ownsRow_setCell_other hown (fun e => by have h9 := (hown.lt N e).1; omega) _
    · have e : addTo ls a x i = ls i := by simp [addTo, hia]
      rw [e, if_neg hia]
      exact ownsRow_setCell_other ((h2 i hi).kept hg (h3 i a hi ha hia)) (hNe i hi) _
  · have hlow : ∀ i, i < M → (vs i).ownBlock = some b0 → False := fun i hi e => by have := ((h2 i hi).lt b0 e).2; omega
    dsimp only
    by_cases hia : i = a
    · subst hia
      rw [if_pos rfl, if_neg (Ne.symm hij)]
      rcases hat with h | h
      · rw [h]; exact h3 i j hi hj hij
      · rw [h]; exact .inr fun e => hlow j hj e.symm
    · rw [if_neg hia]
      by_cases hja : j = a
      · subst hja
        rw [if_pos rfl]
        rcases hat with h | h
        · rw [h]; exact h3 i j hi hj hij
        · rw [h]; exact .inr fun e => hlow i hi e
      · rw [if_neg hja]; exact h3 i j hi hj hij

/-- The neighbours, as the loop over the edges gathers them. -/
def adjTo (D : List I2) (k : Nat) : Nat → List Int := (D.take k).foldl (fun l e => addTo (addTo l e.1.toNat e.2) e.2.toNat e.1) (fun _ => [])
theorem adjTo_zero (D : List I2) : adjTo D 0 = fun _ => [] := by simp [adjTo]
theorem adjTo_succ {D : List I2} {k : Nat} (hk : k < D.length) : adjTo D (k + 1) = addTo (addTo (adjTo D k) D[k].1.toNat D[k].2) D[k].2.toNat D[k].1 := by
  unfold adjTo
  rw [List.take_succ_eq_append_getElem hk, List.foldl_append]; rfl
theorem addTo_len (ls : Nat → List Int) (a : Nat) (x : Int) (i : Nat) : (addTo ls a x i).length ≤ (ls i).length + 1 := by
  unfold addTo; split <;> simp
theorem adjTo_len (D : List I2) (i : Nat) : ∀ k, k ≤ D.length → (adjTo D k i).length ≤ 2 * k
  | 0, _ => by simp [adjTo]
  | k + 1, h => by
    rw [adjTo_succ (by omega)]
    have h0 := adjTo_len D i k (by omega)
    have h1 := addTo_len (adjTo D k) D[k].1.toNat D[k].2 i
    have h2 := addTo_len (addTo (adjTo D k) D[k].1.toNat D[k].2) D[k].2.toNat D[k].1 i
    omega
theorem elInt : RX.ElemOf Tryd.prog 24 3 (.int .i64 0) 1 8 := ⟨Tryd.underlying24, by kernel_rfl, rfl, by decide⟩
end Go.Proofs.YtpbfgnffkhabnaaDoor
