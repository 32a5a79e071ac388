import Derived.Test.YtpbfgnffkhabnaaDoorBuild1
import Derived.Deep.OwnRows
set_option linter.unusedSimpArgs false
set_option linter.unusedVariables false
namespace Go.Proofs.YtpbfgnffkhabnaaDoor
open Go.RowKit Go.Grid Go.Maps Go.Sort Go.Shelf

/-- Since W only new blocks have come, and the field c of the struct at block g has been written. -/
structure Fld (W w : World) (g c : Nat) : Prop where
  grown : W.grownBy w (some g)
  cells : ∀ j, j ≠ c → w.cell? ⟨g, j, none⟩ = W.cell? ⟨g, j, none⟩
  frz : ∀ j, w.frozen? ⟨g, j, none⟩ = W.frozen? ⟨g, j, none⟩
  lt : g < W.heap.size
theorem Fld.refl {W : World} {g c : Nat} (h : g < W.heap.size) : Fld W W g c := ⟨World.grownBy.refl _ _, fun _ _ => rfl, fun _ => rfl, h⟩
theorem Fld.step {W w w' : World} {g c : Nat} {row : Option Nat} (h : Fld W w g c) (hg : w.grownBy w' row) (hr : ∀ k, row = some k → W.heap.size ≤ k) : Fld W w' g c := by
  have hlt := h.lt
  have hsz := h.grown.size
  have hb : w'.heap[g]? = w.heap[g]? := hg.block g (by omega) (fun e => by have := hr g e.symm; omega)
  refine ⟨⟨hg.os.trans h.grown.os, hg.tape.trans h.grown.tape, hg.output.trans h.grown.output, Nat.le_trans hsz hg.size, fun k hk hne => ?_⟩, fun j hj => (World.cell?_of_block hb).trans (h.cells j hj), fun j => (World.frozen?_of_block hb).trans (h.frz j), hlt⟩
  exact (hg.block k (by omega) (fun e => by have := hr k e.symm; omega)).trans (h.grown.block k hk hne)
theorem Fld.below {W w w' : World} {g c : Nat} (h : Fld W w g c) (hb : Below w.heap.size w w') : Fld W w' g c :=
  h.step (row := none) ⟨hb.os, hb.tape, hb.output, hb.size, fun k hk _ => hb.block k hk⟩ (fun k e => by cases e)
theorem Fld.alloc {W w : World} {g c : Nat} (h : Fld W w g c) (o : Obj) : Fld W (w.alloc o) g c := h.step (World.grownBy_alloc w o none) (fun k e => by cases e)
theorem Fld.drew {W w : World} {g c : Nat} (h : Fld W w g c) : Fld W w.drew g c := ⟨⟨h.grown.os, h.grown.tape, h.grown.output, h.grown.size, h.grown.block⟩, h.cells, h.frz, h.lt⟩
theorem Fld.set {W w : World} {g c : Nat} (h : Fld W w g c) (v : Value) : Fld W (w.setCell ⟨g, c, none⟩ v) g c :=
  ⟨h.grown.trans (grownBy_setCell _ _ _ _), fun j hj => (World.cell?_setCell_other _ _ _ _ (by first | (simp; done) | (simp; omega) | omega)).trans (h.cells j hj), fun j => (World.frozen?_setCell _ _ _ _).trans (h.frz j), h.lt⟩
theorem Fld.size {W w : World} {g c : Nat} (h : Fld W w g c) : W.heap.size ≤ w.heap.size := h.grown.size
theorem Fld.block {W w : World} {g c : Nat} (h : Fld W w g c) {k : Nat} (hk : k < W.heap.size) (hne : k ≠ g) : w.heap[k]? = W.heap[k]? := h.grown.block k hk (by simp; exact hne)
theorem Fld.bel {W w : World} {g c B : Nat} (h : Fld W w g c) (hB : B ≤ g) : Below B W w :=
  ⟨h.grown.os, h.grown.tape, h.grown.output, h.grown.size, fun k hk => h.block (by have := h.lt; omega) (by omega)⟩
theorem Fld.net {W w : World} {g c n base : Nat} {L : List Pl} (h : Fld W w g c) (hc : 4 ≤ c) (hN : NetAt W g n base L) : NetAt w g n base L := by
  obtain ⟨v, B, h1, h2, h3, h4, h5⟩ := hN.nd
  have hb := hN.hb
  refine ⟨(h.cells 0 (by omega)).trans hN.cn, (h.cells 1 (by omega)).trans hN.ch, fun j => (h.frz j).trans (hN.fr j), ⟨hN.hb.1, Nat.le_trans hN.hb.2 h.size⟩, v, B, (h.cells 2 (by omega)).trans h1, (h.cells 3 (by omega)).trans h2, h3.kept h.grown ?_, h4.kept h.grown (by simp; omega), h5⟩
  cases ho : v.ownBlock with
  | none => exact .inl rfl
  | some k => have := (h3.lt k ho).1; exact .inr (by simp; omega)
theorem row_ne {w : World} {base s n b : Nat} {e e' : TypeId} {v : Value} {xs : List Value} {cur : Array Value} {fr : Nat × Nat} (h : w.ownsRow base e s v n xs) (hb : w.heap[b]? = some (.cells cur e' fr)) (hne : e ≠ e') : v.ownBlock ≠ some b := by
  rcases h.2 with ⟨rfl, _⟩ | ⟨g, c, cur1, rfl, _, hg, _⟩
  · simp [Value.ownBlock]
  · intro e
    simp [Value.ownBlock] at e
    subst e
    rw [hg] at hb
    simp at hb
    exact hne hb.2.1
/-- A row of other elements has been turned. -/
theorem NetAt.row {w w' : World} {g n base b : Nat} {L : List Pl} {cur : Array Value} {e' : TypeId} {fr : Nat × Nat} (h : NetAt w g n base L) (hg : w.grownBy w' (some b)) (hb : base ≤ b) (hc : w.heap[b]? = some (.cells cur e' fr)) (hne : 23 ≠ e') : NetAt w' g n base L := by
  obtain ⟨v, B, h1, h2, h3, h4, h5⟩ := h.nd
  have hb' := h.hb
  have hlt : g < w.heap.size := World.block_lt_of_cell? w _ h.cn
  have hgb : some g ≠ some b := by simp; omega
  refine ⟨hg.cell h.cn hgb, hg.cell h.ch hgb, fun j => (World.frozen?_of_block (hg.block g hlt hgb)).trans (h.fr j), ⟨h.hb.1, Nat.le_trans h.hb.2 hg.size⟩, v, B, hg.cell h1 hgb, hg.cell h2 hgb, h3.kept hg (.inr (row_ne h3 hc hne)), h4.kept hg (by simp; omega), h5⟩
theorem own_some {w : World} {base : Nat} {e : TypeId} {size : Nat} {v : Value} {n : Nat} {xs : List Value} (h : w.ownsRow base e size v n xs) (hn : 0 < n) : ∃ g cap cur, v = .slice (some ⟨g, 0, none⟩) n cap ∧ n ≤ cap ∧ base ≤ g ∧ w.heap[g]? = some (.cells cur e (0, 0)) := by
  rcases h.2 with ⟨rfl, rfl⟩ | ⟨g, cap, cur, rfl, hb, hg, hc, _⟩
  · omega
  · exact ⟨g, cap, cur, rfl, hc, hb, hg⟩

/-! ### Sorted lists are one -/
def sort3 (d : List I3) : List I3 := d.mergeSort fun x y => decide (¬ lt3 y x)
def sort2 (d : List I2) : List I2 := d.mergeSort fun x y => decide (¬ lt2 y x)
theorem sort3_one {d d' : List I3} (h : d'.Perm d) (hs : d'.Pairwise (fun x y => ¬ lt3 y x)) : d' = sort3 d := by
  refine List.Perm.eq_of_pairwise (le := fun x y => ¬ lt3 y x) ?_ hs ?_ (h.trans (List.mergeSort_perm _ _).symm)
  · intro a b _ _ h1 h2
    obtain ⟨a0, a1, a2⟩ := a
    obtain ⟨b0, b1, b2⟩ := b
    unfold lt3 at h1 h2
    simp only at h1 h2
    have e0 : a0 = b0 := by omega
    have e1 : a1 = b1 := by omega
    have e2 : a2 = b2 := by omega
    rw [e0, e1, e2]
  · have := List.pairwise_mergeSort (le := fun x y : I3 => decide (¬ lt3 y x)) (fun a b c h1 h2 => decide_eq_true (by have a1 := of_decide_eq_true h1; have a2 := of_decide_eq_true h2; unfold lt3 at *; omega)) (fun a b => by rcases (show ¬ lt3 b a ∨ ¬ lt3 a b by unfold lt3; omega) with h | h <;> simp [h]) d
    exact this.imp (fun h => by simpa using h)
theorem sort2_one {d d' : List I2} (h : d'.Perm d) (hs : d'.Pairwise (fun x y => ¬ lt2 y x)) : d' = sort2 d := by
  refine List.Perm.eq_of_pairwise (le := fun x y => ¬ lt2 y x) ?_ hs ?_ (h.trans (List.mergeSort_perm _ _).symm)
  · intro a b _ _ h1 h2
    obtain ⟨a0, a1⟩ := a
    obtain ⟨b0, b1⟩ := b
    unfold lt2 at h1 h2
    simp only at h1 h2
    have e0 : a0 = b0 := by omega
    have e1 : a1 = b1 := by omega
    rw [e0, e1]
  · have := List.pairwise_mergeSort (le := fun x y : I2 => decide (¬ lt2 y x)) (fun a b c h1 h2 => decide_eq_true (by have a1 := of_decide_eq_true h1; have a2 := of_decide_eq_true h2; unfold lt2 at *; omega)) (fun a b => by rcases (show ¬ lt2 b a ∨ ¬ lt2 a b by unfold lt2; omega) with h | h <;> simp [h]) d
    exact this.imp (fun h => by simpa using h)
theorem cells3_pos {n : Nat} (h1 : 1 ≤ n) : 0 < (cells3 n).length := by
  have h0 : tri (nodesL n) ⟨(cpos n 0 0 0).f, (cpos n 0 0 0).a + hh n, (cpos n 0 0 0).b, (cpos n 0 0 0).c⟩ ⟨(cpos n 0 0 0).f, (cpos n 0 0 0).a, (cpos n 0 0 0).b + hh n, (cpos n 0 0 0).c⟩ ⟨(cpos n 0 0 0).f, (cpos n 0 0 0).a, (cpos n 0 0 0).b, (cpos n 0 0 0).c + hh n⟩ ∈ cellsRaw n := by
    simp only [cellsRaw, cF, cA, cB, List.mem_flatMap, List.mem_range]
    exact ⟨0, by omega, 0, by omega, 0, by omega, by unfold cellsAt; exact List.mem_cons_self ..⟩
  have := List.length_pos_of_mem h0
  simpa [cells3] using this
theorem len_nodes {n : Nat} (hn : n ≤ 8) : (nodesL n).length ≤ 2000 := by
  have h1 : (nodesL n).length ≤ (faces n 20).length := List.length_filter_le _ _
  have h2 := len_faces n 20
  have h3 : 20 * ((n + 1) * (n + 1)) ≤ 20 * (9 * 9) := Nat.mul_le_mul (Nat.le_refl _) (Nat.mul_le_mul (by omega) (by omega))
  omega
theorem holds3_get {w : World} {b : Nat} {d : List I3} (h : HoldsK enc3 3 w b 0 d.toArray) (k : Nat) (hk : k < d.length) : w.cell? ⟨b, k * 3, none⟩ = some (.int .i64 d[k].1) ∧ w.cell? ⟨b, k * 3 + 1, none⟩ = some (.int .i64 d[k].2.1) ∧ w.cell? ⟨b, k * 3 + 2, none⟩ = some (.int .i64 d[k].2.2) := by
  have hk' : k < d.toArray.size := by simpa using hk
  have e : ∀ j, j / 3 = k → d.toArray[j / 3]! = d[k] := fun j hj => by rw [hj, getElem!_pos d.toArray k hk']; simp
  have h0 := (h (k * 3) (by rw [size_flatK]; omega)).1
  have h1 := (h (k * 3 + 1) (by rw [size_flatK]; omega)).1
  have h2 := (h (k * 3 + 2) (by rw [size_flatK]; omega)).1
  rw [get_flatK _ _ _ _ (by omega), e _ (by omega), show k * 3 % 3 = 0 by omega, Nat.zero_add] at h0
  rw [get_flatK _ _ _ _ (by omega), e _ (by omega), show (k * 3 + 1) % 3 = 1 by omega, Nat.zero_add] at h1
  rw [get_flatK _ _ _ _ (by omega), e _ (by omega), show (k * 3 + 2) % 3 = 2 by omega, Nat.zero_add] at h2
  exact ⟨h0, h1, h2⟩

/-- The sides of a cell. -/
def eds (c : I3) : List I2 := [(c.1, c.2.1), (c.1, c.2.2), (c.2.1, c.2.2)]
def edTo (d : List I3) (k : Nat) : List I2 := (d.take k).flatMap eds
theorem edTo_succ {d : List I3} {k : Nat} (hk : k < d.length) : edTo d (k + 1) = edTo d k ++ eds d[k] := by
  unfold edTo
  rw [List.take_succ_eq_append_getElem hk, List.flatMap_append]; simp
theorem edTo_len (d : List I3) : ∀ k, k ≤ d.length → (edTo d k).length = k * 3
  | 0, _ => by simp [edTo]
  | k + 1, h => by rw [edTo_succ h, List.length_append, edTo_len d k (by omega)]; simp [eds]; omega
theorem elEd : RX.ElemOf Tryd.prog 45 52 (.agg #[.int .i64 0, .int .i64 0]) 2 16 := ⟨Tryd.underlying45, by kernel_rfl, rfl, by decide⟩
end Go.Proofs.YtpbfgnffkhabnaaDoor
