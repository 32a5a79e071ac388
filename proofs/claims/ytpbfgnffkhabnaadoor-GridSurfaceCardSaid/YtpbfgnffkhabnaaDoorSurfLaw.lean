import Derived.Test.YtpbfgnffkhabnaaDoorNearLaw
import Derived.Test.YtpbfgnffkhabnaaDoorSurfP
import Derived.Test.YtpbfgnffkhabnaaDoorKMod
import Derived.Test.YtpbfgnffkhabnaaDoorKPrec
set_option linter.unusedSimpArgs false
set_option linter.unusedVariables false
namespace Go.Proofs.YtpbfgnffkhabnaaDoor
open Go.RowKit Go.Sort Go.Shelf Go.Grid

/-- A row of numbers that can be written, by a function. -/
def RowF (w : World) (b N : Nat) (D : Nat → Int) : Prop := ∀ k, k < N → w.cell? ⟨b, k, none⟩ = some (.int .i64 (D k)) ∧ w.frozen? ⟨b, k, none⟩ = false
theorem RowF.kept {w w' : World} {b N : Nat} {D : Nat → Int} (h : RowF w b N D) (hb : w'.heap[b]? = w.heap[b]?) : RowF w' b N D := fun k hk => ⟨(World.cell?_of_block hb).trans (h k hk).1, (World.frozen?_of_block hb).trans (h k hk).2⟩
theorem RowF.ext {w : World} {b N : Nat} {D D' : Nat → Int} (h : RowF w b N D) (he : ∀ k, k < N → D k = D' k) : RowF w b N D' := fun k hk => by rw [← he k hk]; exact h k hk
theorem RowF.set {w : World} {b N : Nat} {D : Nat → Int} (h : RowF w b N D) (a : Nat) (v : Int) : RowF (w.setCell ⟨b, a, none⟩ (.int .i64 v)) b N (fun k => if k = a then v else D k) := fun k hk => by
  refine ⟨?_, by rw [World.frozen?_setCell]; exact (h k hk).2⟩
  dsimp only
  by_cases hka : k = a
  · subst hka
    rw [if_pos rfl]
    exact World.cell?_setCell_same' _ _ _ (by rw [(h k hk).1]; rfl)
  · rw [if_neg hka]
    refine (World.cell?_setCell_other _ _ _ _ ?_).trans (h k hk).1
    simp [hka]
theorem RowF.made (w : World) (n : Nat) : RowF (w.alloc (.cells (madeCells #[.int .i64 0] n) 3)) w.heap.size n (fun _ => 0) := fun k hk => by
  have h := IntsAt.made w n k (by simpa using hk)
  rw [Nat.zero_add] at h
  simpa using h

set_option maxRecDepth 100000 in
/-- grid.Cells at a frequency that exists. -/
theorem gcells_any (n : Nat) (h1 : 1 ≤ n) (h2 : n ≤ 8) (w : World) (hT : HasTab w) : Calls Tryd.prog 28 #[.int .i64 n] w fun e w' => ∃ b cap, e = .returned (.tuple #[.slice (some ⟨b, 0, none⟩) (cellsS n).length cap, .int .i64 0]) ∧ (cellsS n).length ≤ cap ∧ HoldsK enc3 3 w' b 0 (cellsS n).toArray ∧ w.heap.size ≤ b ∧ Below w.heap.size w w' := by
  go_enter Tryd.func28, Tryd.ntmps28
  go_wp2_with fail
  refine (freq_any n _).mono ?_
  rintro e w1 ⟨rfl, rfl⟩
  rw [freqB_t (show 1 ≤ (n : Int) ∧ (n : Int) ≤ 8 by omega)]
  go_wp2_with fail
  refine (build_any n h1 h2 _ hT).mono ?_
  rintro e w2 ⟨rfl, hN, hb⟩
  obtain ⟨b, cap, e5, hc, hP, hgb⟩ := hN.cells
  have HK := Lib.hid (And.intro hc (And.intro hP (And.intro hgb hb)))
  clear hN hc hP hgb hb
  go_wp2
  go_ret2
  obtain ⟨hc, hP, hgb, hb⟩ := HK.out
  exact ⟨b, cap, rfl, hc, hP, by omega, hb⟩

/-- The cells' numbers in a row. -/
def TrisAt (w : World) (b : Nat) (C : List I3) : Prop := ∀ m (h : m < C.length), w.cell? ⟨b, m * 3, none⟩ = some (.int .i64 C[m].1) ∧ w.cell? ⟨b, m * 3 + 1, none⟩ = some (.int .i64 C[m].2.1) ∧ w.cell? ⟨b, m * 3 + 2, none⟩ = some (.int .i64 C[m].2.2)
theorem tris_of {w : World} {b : Nat} {C : List I3} (hH : HoldsK enc3 3 w b 0 C.toArray) : TrisAt w b C := by
  intro m h
  have hm2 : m < C.toArray.size := by simpa using h
  have eq1 : ∀ j, j / 3 = m → C.toArray[j / 3]! = C[m] := fun j hj => by rw [hj, getElem!_pos C.toArray m hm2]; simp
  have h0 := (hH (m * 3) (by rw [size_flatK]; omega)).1
  have h1 := (hH (m * 3 + 1) (by rw [size_flatK]; omega)).1
  have h2 := (hH (m * 3 + 2) (by rw [size_flatK]; omega)).1
  rw [get_flatK _ _ _ _ (by omega), eq1 _ (by omega), Nat.zero_add] at h0 h1 h2
  rw [show m * 3 % 3 = 0 by omega] at h0
  rw [show (m * 3 + 1) % 3 = 1 by omega] at h1
  rw [show (m * 3 + 2) % 3 = 2 by omega] at h2
  exact ⟨h0, h1, h2⟩

/-! ### What the loops reckon -/
def degN (E : List I2) (m k : Nat) : Int := (((degs (E.take m)).count (k : Int) : Nat) : Int)
theorem degN_zero (E : List I2) (k : Nat) : degN E 0 k = 0 := rfl
theorem degN_succ {E : List I2} {m : Nat} (hm : m < E.length) {a b : Nat} (he : E[m] = ((a : Int), (b : Int))) (hab : a ≠ b) (k : Nat) : degN E (m + 1) k = if k = b then degN E m b + 1 else if k = a then degN E m a + 1 else degN E m k := by
  have h : degs (E.take (m + 1)) = degs (E.take m) ++ [(a : Int), (b : Int)] := by
    rw [List.take_succ_eq_append_getElem hm, he]; simp [degs]
  unfold degN
  rw [h, List.count_append]
  have hc : [(a : Int), (b : Int)].count (k : Int) = if k = b then 1 else if k = a then 1 else 0 := by
    rw [List.count_cons, List.count_cons, List.count_nil]
    by_cases hkb : k = b
    · subst hkb
      rw [if_pos rfl, if_pos (by simp), if_neg (by simp; omega)]
    · rw [if_neg hkb, if_neg (by simp; omega)]
      by_cases hka : k = a
      · subst hka; rw [if_pos rfl, if_pos (by simp)]
      · rw [if_neg hka, if_neg (by simp; omega)]
  rw [hc]
  by_cases hkb : k = b
  · subst hkb; simp
  · rw [if_neg hkb, if_neg hkb]
    by_cases hka : k = a
    · subst hka; simp
    · rw [if_neg hka, if_neg hka]; simp
theorem degN_le (E : List I2) (m k : Nat) (hm : m ≤ E.length) : 0 ≤ degN E m k ∧ degN E m k ≤ 2 * m := by
  unfold degN
  have h := List.count_le_length (a := (k : Int)) (l := degs (E.take m))
  have hl : ∀ F : List I2, (degs F).length = 2 * F.length := by
    intro F
    induction F with
    | nil => rfl
    | cons x F ih => simp [degs] at ih ⊢; omega
  rw [hl, List.length_take] at h
  omega
def sideN (C : List I3) (E : List I2) (m j k : Nat) : Int := ((((C.take m).countP (fun c => decide (E.getD k (0, 0) ∈ eds c))) + (if k < j ∧ E.getD k (0, 0) ∈ eds (C.getD m (0, 0, 0)) then 1 else 0) : Nat) : Int)
def foundN (E : List I2) (c : I3) (j : Nat) : Int := (((E.take j).countP (fun e => decide (e ∈ eds c)) : Nat) : Int)
theorem foundN_succ {E : List I2} {c : I3} {j : Nat} (hj : j < E.length) : foundN E c (j + 1) = foundN E c j + (if E[j] ∈ eds c then 1 else 0) := by
  unfold foundN
  rw [List.take_succ_eq_append_getElem hj, List.countP_append, List.countP_singleton]
  by_cases h : E[j] ∈ eds c <;> simp [h]
theorem foundN_le (E : List I2) (c : I3) (j : Nat) : 0 ≤ foundN E c j ∧ foundN E c j ≤ E.length := by
  unfold foundN
  have h := List.countP_le_length (p := fun e => decide (e ∈ eds c)) (l := E.take j)
  rw [List.length_take] at h
  omega
theorem sideN_le (C : List I3) (E : List I2) (m j k : Nat) : 0 ≤ sideN C E m j k ∧ sideN C E m j k ≤ C.length + 1 := by
  unfold sideN
  have h := List.countP_le_length (p := fun c => decide (E.getD k (0, 0) ∈ eds c)) (l := C.take m)
  rw [List.length_take] at h
  split <;> omega
theorem sideN_no {C : List I3} {E : List I2} {m j : Nat} (hj : j < E.length) (h : ¬ E[j] ∈ eds (C.getD m (0, 0, 0))) (k : Nat) : sideN C E m (j + 1) k = sideN C E m j k := by
  unfold sideN
  by_cases hk : k = j
  · subst hk
    have : E.getD k (0, 0) = E[k] := by simp [hj]
    rw [this, if_neg (fun x => h x.2), if_neg (fun x => h x.2)]
  · have : (k < j + 1 ∧ E.getD k (0, 0) ∈ eds (C.getD m (0, 0, 0))) ↔ (k < j ∧ E.getD k (0, 0) ∈ eds (C.getD m (0, 0, 0))) := by
      constructor <;> rintro ⟨h1, h2⟩ <;> exact ⟨by omega, h2⟩
    simp only [this]
theorem sideN_yes {C : List I3} {E : List I2} {m j : Nat} (hj : j < E.length) (h : E[j] ∈ eds (C.getD m (0, 0, 0))) (k : Nat) : sideN C E m (j + 1) k = if k = j then sideN C E m j j + 1 else sideN C E m j k := by
  unfold sideN
  by_cases hk : k = j
  · subst hk
    have : E.getD k (0, 0) = E[k] := by simp [hj]
    rw [this, if_pos ⟨by omega, h⟩, if_pos rfl, if_neg (fun x => by omega)]
    simp
  · rw [if_neg hk]
    have : (k < j + 1 ∧ E.getD k (0, 0) ∈ eds (C.getD m (0, 0, 0))) ↔ (k < j ∧ E.getD k (0, 0) ∈ eds (C.getD m (0, 0, 0))) := by
      constructor <;> rintro ⟨h1, h2⟩ <;> exact ⟨by omega, h2⟩
    simp only [this]
theorem sideN_next {C : List I3} {E : List I2} {m : Nat} (hm : m < C.length) (k : Nat) (hk : k < E.length) : sideN C E m E.length k = sideN C E (m + 1) 0 k := by
  unfold sideN
  have hc : C.getD m (0, 0, 0) = C[m] := by simp [hm]
  rw [List.take_succ_eq_append_getElem hm, List.countP_append, List.countP_singleton, hc]
  by_cases h : E.getD k (0, 0) ∈ eds C[m]
  · rw [if_pos ⟨hk, h⟩, if_pos (decide_eq_true h), if_neg (fun x => by omega)]
  · rw [if_neg (fun x => h x.2), if_neg (by simpa using h), if_neg (fun x => by omega)]
theorem sideN_end (C : List I3) (E : List I2) (k : Nat) (hk : k < E.length) : sideN C E C.length 0 k = ((C.countP (fun c => decide (E[k] ∈ eds c)) : Nat) : Int) := by
  unfold sideN
  rw [List.take_length, if_neg (fun x => by omega)]
  simp [hk]
theorem sideN_zero (C : List I3) (E : List I2) (k : Nat) : sideN C E 0 0 k = 0 := by
  unfold sideN
  rw [if_neg (fun x => by omega)]; rfl
def fives (E : List I2) (j : Nat) : Int := (((List.range j).countP (fun k : Nat => (degs E).count (k : Int) == 5) : Nat) : Int)
theorem fives_succ (E : List I2) (j : Nat) : fives E (j + 1) = fives E j + (if degN E E.length j = 5 then 1 else 0) := by
  unfold fives degN
  rw [List.range_succ, List.countP_append, List.countP_singleton, List.take_length]
  by_cases h : (degs E).count (j : Int) = 5
  · rw [if_pos (by simpa using h), if_pos (by omega)]; simp
  · rw [if_neg (by simpa using h), if_neg (by omega)]; simp
theorem fives_le (E : List I2) (j : Nat) : 0 ≤ fives E j ∧ fives E j ≤ j := by
  unfold fives
  have h := List.countP_le_length (p := fun k : Nat => (degs E).count (k : Int) == 5) (l := List.range j)
  rw [List.length_range] at h
  omega

set_option maxRecDepth 100000 in
set_option maxHeartbeats 4000000 in
theorem surface_law (k : Int) (W : World) (hk1 : -9223372036854775808 ≤ k) (hk2 : k ≤ 9223372036854775807) (hT : HasTab W) :
    Calls Tryd.prog 5 #[.int .i64 k] W fun e w' => e = .returned (.bool true) ∧ Below W.heap.size W w' := by
  obtain ⟨n, hn⟩ : ∃ n : Nat, 1 + k % 5 = (n : Int) := ⟨(1 + k % 5).toNat, by omega⟩
  have hn1 : 1 ≤ n := by omega
  have hn5 : n ≤ 5 := by omega
  go_enter Tryd.func5, Tryd.ntmps5
  go_wp2_with fail
  refine (kmod_any k 5 W hk1 hk2 (by omega) (by omega)).mono ?_
  rintro e w1 ⟨rfl, rfl⟩
  go_wp2_with fail
  clear hn hk1 hk2
  refine (gnodes_any n (by omega) (by omega) W hT).mono ?_
  rintro e w1 ⟨nb, ncap, rfl, hncap, hown, hb1⟩
  clear hown
  go_wp2_with fail
  refine (edges_any n (by omega) (by omega) w1 (hT.below hb1)).mono ?_
  rintro e w2 ⟨eb, ecap, rfl, hecap, hP, heb, hb2⟩
  replace hb2 := hb1.trans (hb2.mono hb1.size)
  clear hb1
  go_wp2_with fail
  refine (gcells_any n (by omega) (by omega) w2 (hT.below hb2)).mono ?_
  rintro e w3 ⟨cb, ccap, rfl, hccap, hH, hcb, hb3⟩
  have HB3 := Lib.hid (hb2.trans (hb3.mono hb2.size))
  have hP3 := hP.kept (hb3.block eb (World.block_lt_of_cell? _ _ (hP.c0 0 (edges_pos hn1))))
  have hT3 := tris_of hH
  clear hP hH hb3 hb2
  obtain ⟨s1, s2, s3, s4, s5, s6⟩ := surf_all hn1 hn5
  have hE0 := edges_pos hn1
  have hC0 : 0 < (cellsS n).length := by unfold cellsS sort3; rw [List.length_mergeSort]; exact cells3_pos hn1
  have hEl := edges_len (n := n) (by omega)
  have hNl := nodes_len (n := n) (by omega) (by omega)
  obtain ⟨E, hE⟩ : ∃ E, E = edgesL n := ⟨_, rfl⟩
  obtain ⟨C, hC⟩ : ∃ C, C = cellsS n := ⟨_, rfl⟩
  obtain ⟨N, hN⟩ : ∃ N, N = (nodesL n).length := ⟨_, rfl⟩
  rw [← hE] at hP3 hecap hE0 hEl s1 s3 s4 s5 s6
  rw [← hC] at hT3 hccap s2 s3 s4 s5 hC0
  rw [← hN] at hncap hNl s1 s5 s6
  rw [← hE, ← hC, ← hN]
  clear hE hC hN
  have h64 : 0 ≤ 10 * (n : Int) * (n : Int) ∧ 10 * (n : Int) * (n : Int) ≤ 250 := by
    have h25 := Nat.mul_le_mul hn5 hn5
    have e : 10 * (n : Int) * (n : Int) = ((10 * (n * n) : Nat) : Int) := by push_cast; rw [Int.mul_assoc]
    omega
  have hq2 : 10 * (n : Int) * (n : Int) + 2 = (N : Int) := by rw [hNl]; push_cast; rfl
  have h10 : 10 ≤ 10 * (n : Int) * (n : Int) := by
    have h11 := Nat.mul_le_mul hn1 hn1
    have e : 10 * (n : Int) * (n : Int) = ((10 * (n * n) : Nat) : Int) := by push_cast; rw [Int.mul_assoc]
    omega
  have hN252 : 12 ≤ N ∧ N ≤ 252 := by omega
  have hq1 : (N : Int) - (E.length : Int) + (C.length : Int) = 2 := by omega
  have hCl : C.length ≤ 15002 := by omega
  clear hNl
  have hmk1 := run_make_row' (P := Tryd.prog) 24 3 (.int .i64 0) 8 Tryd.underlying24 (by kernel_rfl) rfl .i64 .i64 N (by omega) (by omega)
  have hmk2 := run_make_row' (P := Tryd.prog) 24 3 (.int .i64 0) 8 Tryd.underlying24 (by kernel_rfl) rfl .i64 .i64 E.length (by omega) (by omega)
  have HS := Lib.hid (And.intro s1 (And.intro s2 (And.intro s3 (And.intro s4 s6))))
  clear s1 s2 s3 s4 s6 s5
  go_wp2
  clear hq1 hq2 hmk1 hmk2
  refine absW (F := fun w' => RowF w' w3.heap.size N (degN E 0) ∧ RowF w' (w3.heap.size + 1) E.length (sideN C E 0 0) ∧ Below w3.heap.size w3 w') ⟨?_, ?_, ?_⟩ ?_
  · exact ((RowF.made w3 N).kept (heap_alloc_old _ _ (by simp))).ext (fun k hk => (degN_zero E k).symm)
  · have h := (RowF.made (w3.alloc (.cells (madeCells #[.int .i64 0] N) 3)) E.length).ext (D' := sideN C E 0 0) (fun k hk => (sideN_zero C E k).symm)
    rwa [World.size_alloc] at h
  · exact ((Below.refl w3.heap.size w3).alloc (Nat.le_refl _) _).alloc (by simp) _
  rintro W6 ⟨hR1, hR2, hb6⟩
  have hP6 := hP3.kept (hb6.block eb (World.block_lt_of_cell? _ _ (hP3.c0 0 hE0)))
  have hT6 : TrisAt W6 cb C := fun m hm => ⟨RX.keep hb6 (hT3 m hm).1, RX.keep hb6 (hT3 m hm).2.1, RX.keep hb6 (hT3 m hm).2.2⟩
  have hebl : eb < w3.heap.size := World.block_lt_of_cell? _ _ (hP3.c0 0 hE0)
  have hcbl : cb < w3.heap.size := World.block_lt_of_cell? _ _ (hT3 0 hC0).1
  have HB6 : Hid (Below W.heap.size W W6) := Lib.hid (HB3.out.trans (hb6.mono HB3.out.size))
  have hW3 := HB3.out.size
  clear hb6 hP3 hT3 HB3
  obtain ⟨R1, hR1e⟩ : ∃ R, R = w3.heap.size := ⟨_, rfl⟩
  obtain ⟨R2, hR2e⟩ : ∃ R, R = w3.heap.size + 1 := ⟨_, rfl⟩
  rw [← hR1e] at hR1 hebl hcbl hW3
  rw [← hR2e] at hR2
  rw [← hR2e, ← hR1e]
  have h12 : R1 ≠ R2 := by omega
  have he1 : eb ≠ R1 := by omega
  have he2 : eb ≠ R2 := by omega
  have hc1 : cb ≠ R1 := by omega
  have hc2 : cb ≠ R2 := by omega
  have hw1 : W.heap.size ≤ R1 := hW3
  have hw2 : W.heap.size ≤ R2 := by omega
  clear hR1e hR2e hebl hcbl hW3
  have HP6 := Lib.hid hP6
  have HT6 := Lib.hid hT6
  clear hP6 hT6
  have hl6 : R2 < W6.heap.size := World.block_lt_of_cell? _ _ (hR2 0 hE0).1
  have hl61 : R1 < W6.heap.size := World.block_lt_of_cell? _ _ (hR1 0 (by omega)).1
  go_loopw [79] (fun i wr => ∃ m : Nat, m ≤ E.length ∧ i = .int .i64 m ∧ RowF wr R1 N (degN E m) ∧ W6.grownBy wr (some R1)) (fun i _ => E.length - (intOf i).toNat)
  case atStart => exact ⟨0, Nat.zero_le _, rfl, hR1, World.grownBy.refl _ _⟩
  case round =>
    clear hR1
    obtain ⟨m, hm, rfl, hR, hg⟩ := hrel
    have hsz := hg.size
    by_cases hlt : m < E.length
    · have hdk : decide ((m : Int) < (E.length : Int)) = true := decide_eq_true (by omega)
      have x0 := hg.cell (HP6.out.c0 m hlt) (by simp; exact he1)
      have x1 := hg.cell (HP6.out.c1 m hlt) (by simp; exact he1)
      obtain ⟨g1, g2, g3⟩ := HS.out.1 E[m] (List.getElem_mem _)
      obtain ⟨a, b, hab⟩ : ∃ a b : Nat, E[m] = ((a : Int), (b : Int)) := ⟨E[m].1.toNat, E[m].2.toNat, by
        have h1 : ((E[m].1.toNat : Nat) : Int) = E[m].1 := by omega
        have h2 : ((E[m].2.toNat : Nat) : Int) = E[m].2 := by omega
        rw [h1, h2]⟩
      rw [hab] at x0 x1 g1 g2 g3
      dsimp only at x0 x1 g1 g2 g3
      have hne : a ≠ b := by omega
      have hne2 : b ≠ a := by omega
      have HSU := Lib.hid (degN_succ hlt hab hne)
      clear hab
      obtain ⟨da, fa⟩ := hR a (by omega)
      obtain ⟨db, fb⟩ := hR b (by omega)
      have ba := degN_le E m a hm
      have bb := degN_le E m b hm
      have HR := Lib.hid hR
      clear hR
      obtain ⟨va, hva⟩ : ∃ v, v = degN E m a := ⟨_, rfl⟩
      obtain ⟨vb, hvb⟩ : ∃ v, v = degN E m b := ⟨_, rfl⟩
      rw [← hva] at da ba
      rw [← hvb] at db bb
      have HV := Lib.hid (And.intro hva hvb)
      clear hva hvb
      have d1 : decide ((a : Int) < 0) = false := decide_eq_false (by omega)
      have d2 : decide ((b : Int) ≤ (a : Int)) = false := decide_eq_false (by omega)
      have d3 : decide ((N : Int) ≤ (b : Int)) = false := decide_eq_false (by omega)
      have k1 : (0 : Int) ≤ (a : Int) := by omega
      have k2 : (a : Int) < (N : Int) := by omega
      have k3 : (0 : Int) ≤ (b : Int) := by omega
      have k4 : (b : Int) < (N : Int) := by omega
      have k5 : (0 : Int) ≤ (m : Int) := by omega
      have k6 : (m : Int) < (E.length : Int) := by omega
      have hR1w : R1 < wr.heap.size := by omega
      have hR1n : ¬ (R1 = wr.heap.size) := by omega
      go_wp2
      go_roundw
      case rel =>
        refine ⟨m + 1, by omega, by go_num, ?_, grw_alloc ((hg.trans (grownBy_setCell _ _ _ _)).trans (grownBy_setCell _ _ _ _)) _⟩
        refine (((HR.out.set a (va + 1)).set b (vb + 1)).kept (heap_alloc_old _ _ (by simp [World.setCell]; exact hR1w))).ext (fun k hk => ?_)
        rw [HSU.out k, HV.out.1, HV.out.2]
      case measure => simp [intOf]; omega
    · obtain rfl : m = E.length := by omega
      have hR27 : RowF wr R2 E.length (sideN C E 0 0) := hR2.kept (hg.block R2 hl6 (by simp; omega))
      have HB7 : Hid (Below W.heap.size W wr) := Lib.hid (HB6.out.grown hg HB6.out.size (fun k hk => by injection hk with hk; omega))
      have HP7 : Hid (PairsAt wr eb E) := Lib.hid (HP6.out.kept (hg.block eb (World.block_lt_of_cell? _ _ (HP6.out.c0 0 hE0)) (by simp; exact he1)))
      have HT7 : Hid (TrisAt wr cb C) := Lib.hid (fun m hm => ⟨hg.cell (HT6.out m hm).1 (by simp; exact hc1), hg.cell (HT6.out m hm).2.1 (by simp; exact hc1), hg.cell (HT6.out m hm).2.2 (by simp; exact hc1)⟩)
      have hl7 : R2 < wr.heap.size := by omega
      have hl71 : R1 < wr.heap.size := by omega
      have HR1 := Lib.hid hR
      clear hg hR hR2 HB6 HP6 HT6 hl6 hl61 hsz
      obtain ⟨W7, hW7⟩ : ∃ W7, W7 = wr := ⟨_, rfl⟩
      rw [← hW7]
      rw [← hW7] at hR27 HB7 HP7 HT7 hl7 hl71 HR1
      clear hW7 wr
      go_wp2
      go_loopw [117] (fun i wr => ∃ m : Nat, m ≤ C.length ∧ i = .int .i64 m ∧ RowF wr R2 E.length (sideN C E m 0) ∧ W7.grownBy wr (some R2)) (fun i _ => C.length - (intOf i).toNat)
      case atStart => exact ⟨0, Nat.zero_le _, rfl, hR27, World.grownBy.refl _ _⟩
      case round =>
        clear hR27
        obtain ⟨m, hm, rfl, hR, hg⟩ := hrel
        have hsz := hg.size
        by_cases hlt : m < C.length
        · have hdk : decide ((m : Int) < (C.length : Int)) = true := decide_eq_true (by omega)
          obtain ⟨y0, y1, y2⟩ := HT7.out m hlt
          replace y0 := hg.cell y0 (by simp; exact hc2)
          replace y1 := hg.cell y1 (by simp; exact hc2)
          replace y2 := hg.cell y2 (by simp; exact hc2)
          have HC : Hid (C.getD m (0, 0, 0) = C[m] ∧ C[m] ∈ C) := Lib.hid ⟨by simp [hlt], List.getElem_mem _⟩
          obtain ⟨c, hc⟩ : ∃ c, c = C[m] := ⟨_, rfl⟩
          rw [← hc] at y0 y1 y2 HC
          clear hc
          obtain ⟨c0, c1, c2⟩ := c
          dsimp only at y0 y1 y2
          have hord := HS.out.2.1 _ HC.out.2
          dsimp only at hord
          have k5 : (0 : Int) ≤ (m : Int) := by omega
          have k6 : (m : Int) < (C.length : Int) := by omega
          have hR2w : R2 < wr.heap.size := by omega
          have HNX : Hid (∀ k, k < E.length → sideN C E m E.length k = sideN C E (m + 1) 0 k) := Lib.hid (fun k hk => sideN_next hlt k hk)
          have HRW := Lib.hid hR
          have HGW := Lib.hid hg
          clear hR hg
          go_wp2
          refine absW (F := fun w' => w'.cell? ⟨wr.heap.size, 0, none⟩ = some (.int .i64 c0) ∧ w'.cell? ⟨wr.heap.size, 1, none⟩ = some (.int .i64 c1) ∧ w'.cell? ⟨wr.heap.size, 2, none⟩ = some (.int .i64 c2) ∧ RowF w' R2 E.length (sideN C E m 0) ∧ W7.grownBy w' (some R2)) ⟨(by simp [RX.cell_drew, RX.cell_alloc, Nat.add_assoc]), (by simp [RX.cell_drew, RX.cell_alloc, Nat.add_assoc]), (by simp [RX.cell_drew, RX.cell_alloc, Nat.add_assoc]), HRW.out.kept (heap_alloc_old _ _ hR2w), grw_alloc HGW.out _⟩ ?_
          rintro W8 ⟨z0, z1, z2, hR8, hg8⟩
          obtain ⟨P, hPe⟩ : ∃ P, P = wr.heap.size := ⟨_, rfl⟩
          rw [← hPe] at z0 z1 z2
          rw [← hPe]
          have hPR : P ≠ R2 := by omega
          clear hPe HRW HGW y0 y1 y2 hsz hR2w
          have HP8 : Hid (PairsAt W8 eb E) := Lib.hid (HP7.out.kept (hg8.block eb (World.block_lt_of_cell? _ _ (HP7.out.c0 0 hE0)) (by simp; exact he2)))
          have hs8 := hg8.size
          have HG8 := Lib.hid hg8
          clear hg8
          go_loopw [16, 123] (fun f i w9 => ∃ j : Nat, j ≤ E.length ∧ f = .int .i64 (foundN E (c0, c1, c2) j) ∧ i = .int .i64 j ∧ RowF w9 R2 E.length (sideN C E m j) ∧ W8.grownBy w9 (some R2)) (fun _ i _ => E.length - (intOf i).toNat)
          case atStart => exact ⟨0, Nat.zero_le _, rfl, rfl, hR8, World.grownBy.refl _ _⟩
          case round =>
            clear hR8
            obtain ⟨j, hj, rfl, rfl, hR3, hg3⟩ := hrel
            have hg3s := hg3.size
            have hz0 := hg3.cell z0 (by simp; exact hPR)
            have hz1 := hg3.cell z1 (by simp; exact hPR)
            have hz2 := hg3.cell z2 (by simp; exact hPR)
            by_cases hltj : j < E.length
            · have hdj : decide ((j : Int) < (E.length : Int)) = true := decide_eq_true (by omega)
              have q0 := hg3.cell (HP8.out.c0 j hltj) (by simp; exact he2)
              have q1 := hg3.cell (HP8.out.c1 j hltj) (by simp; exact he2)
              have hfs := foundN_succ (c := (c0, c1, c2)) hltj
              have hsy := fun h => sideN_yes (C := C) (m := m) hltj h
              have hsn := fun h => sideN_no (C := C) (m := m) hltj h
              rw [HC.out.1] at hsy hsn
              obtain ⟨x, hx⟩ : ∃ x, x = E[j] := ⟨_, rfl⟩
              rw [← hx] at q0 q1 hfs hsy hsn
              clear hx
              obtain ⟨x0, x1⟩ := x
              dsimp only at q0 q1
              obtain ⟨es, fs⟩ := hR3 j hltj
              have bs := sideN_le C E m j j
              have bf := foundN_le E (c0, c1, c2) j
              have hjR : R2 < wr.heap.size := by omega
              have HRS : Hid (((x0, x1) ∈ eds (c0, c1, c2) → RowF ((wr.setCell ⟨R2, j, none⟩ (.int .i64 (sideN C E m j j + 1))).alloc (.cells #[.int .i64 x0, .int .i64 x1] 52)) R2 E.length (sideN C E m (j + 1))) ∧ (¬ (x0, x1) ∈ eds (c0, c1, c2) → RowF (wr.alloc (.cells #[.int .i64 x0, .int .i64 x1] 52)) R2 E.length (sideN C E m (j + 1)))) := Lib.hid ⟨fun h => by
                  refine ((hR3.set j _).kept (heap_alloc_old _ _ (by simp [World.setCell]; exact hjR))).ext (fun k hk => ?_)
                  rw [hsy h k], fun h => by
                  refine (hR3.kept (heap_alloc_old _ _ hjR)).ext (fun k hk => ?_)
                  rw [hsn h k]⟩
              obtain ⟨vs, hvs⟩ : ∃ v, v = sideN C E m j j := ⟨_, rfl⟩
              rw [← hvs] at es bs HRS
              clear hvs
              obtain ⟨vf, hvf⟩ : ∃ v, v = foundN E (c0, c1, c2) j := ⟨_, rfl⟩
              rw [← hvf] at bf hfs
              rw [← hvf]
              clear hvf
              have HFS : Hid (((x0, x1) ∈ eds (c0, c1, c2) → (Value.int .i64 (vf + 1)) = .int .i64 (foundN E (c0, c1, c2) (j + 1))) ∧ (¬ (x0, x1) ∈ eds (c0, c1, c2) → (Value.int .i64 vf) = .int .i64 (foundN E (c0, c1, c2) (j + 1)))) := Lib.hid ⟨fun h => by rw [hfs, if_pos h], fun h => by rw [hfs, if_neg h, Int.add_zero]⟩
              clear hfs hsy hsn hR3
              have HG3 := Lib.hid hg3
              have hjn : ¬ (R2 = wr.heap.size) := by omega
              have hPl : P < wr.heap.size := World.block_lt_of_cell? _ _ hz0
              have hPn : ¬ (P = wr.heap.size) := by omega
              clear hg3
              have k7 : (0 : Int) ≤ (j : Int) := by omega
              have k8 : (j : Int) < (E.length : Int) := by omega
              by_cases ha : x0 = c0
              · by_cases hb : x1 = c1
                · by_cases hd : x1 = c2
                  · exfalso; omega
                  · by_cases hf : x0 = c1
                    · exfalso; omega
                    · have hab : (x0 == c0) = true := by rw [beq_iff_eq]; exact ha
                      have hbb : (x1 == c1) = true := by rw [beq_iff_eq]; exact hb
                      have hdb : (x1 == c2) = false := by rw [beq_eq_false_iff_ne]; exact hd
                      have hfb : (x0 == c1) = false := by rw [beq_eq_false_iff_ne]; exact hf
                      have HM : Hid ((x0, x1) ∈ eds (c0, c1, c2)) := Lib.hid (by simp [eds]; omega)
                      clear ha hb hd hf
                      go_wp2
                      go_roundw
                      case rel => exact ⟨j + 1, by omega, (HFS.out.1 HM.out), by go_num, HRS.out.1 HM.out, grw_alloc (HG3.out.trans (grownBy_setCell _ _ _ _)) _⟩
                      case measure => simp [intOf]; omega
                · by_cases hd : x1 = c2
                  · by_cases hf : x0 = c1
                    · exfalso; omega
                    · have hab : (x0 == c0) = true := by rw [beq_iff_eq]; exact ha
                      have hbb : (x1 == c1) = false := by rw [beq_eq_false_iff_ne]; exact hb
                      have hdb : (x1 == c2) = true := by rw [beq_iff_eq]; exact hd
                      have hfb : (x0 == c1) = false := by rw [beq_eq_false_iff_ne]; exact hf
                      have HM : Hid ((x0, x1) ∈ eds (c0, c1, c2)) := Lib.hid (by simp [eds]; omega)
                      clear ha hb hd hf
                      go_wp2
                      go_roundw
                      case rel => exact ⟨j + 1, by omega, (HFS.out.1 HM.out), by go_num, HRS.out.1 HM.out, grw_alloc (HG3.out.trans (grownBy_setCell _ _ _ _)) _⟩
                      case measure => simp [intOf]; omega
                  · by_cases hf : x0 = c1
                    · exfalso; omega
                    · have hab : (x0 == c0) = true := by rw [beq_iff_eq]; exact ha
                      have hbb : (x1 == c1) = false := by rw [beq_eq_false_iff_ne]; exact hb
                      have hdb : (x1 == c2) = false := by rw [beq_eq_false_iff_ne]; exact hd
                      have hfb : (x0 == c1) = false := by rw [beq_eq_false_iff_ne]; exact hf
                      have HM : Hid (¬ (x0, x1) ∈ eds (c0, c1, c2)) := Lib.hid (by simp [eds]; omega)
                      clear ha hb hd hf
                      go_wp2
                      go_roundw
                      case rel => exact ⟨j + 1, by omega, (HFS.out.2 HM.out), by go_num, HRS.out.2 HM.out, grw_alloc HG3.out _⟩
                      case measure => simp [intOf]; omega
              · by_cases hb : x1 = c1
                · by_cases hd : x1 = c2
                  · exfalso; omega
                  · by_cases hf : x0 = c1
                    · have hab : (x0 == c0) = false := by rw [beq_eq_false_iff_ne]; exact ha
                      have hbb : (x1 == c1) = true := by rw [beq_iff_eq]; exact hb
                      have hdb : (x1 == c2) = false := by rw [beq_eq_false_iff_ne]; exact hd
                      have hfb : (x0 == c1) = true := by rw [beq_iff_eq]; exact hf
                      have HM : Hid (¬ (x0, x1) ∈ eds (c0, c1, c2)) := Lib.hid (by simp [eds]; omega)
                      clear ha hb hd hf
                      go_wp2
                      go_roundw
                      case rel => exact ⟨j + 1, by omega, (HFS.out.2 HM.out), by go_num, HRS.out.2 HM.out, grw_alloc HG3.out _⟩
                      case measure => simp [intOf]; omega
                    · have hab : (x0 == c0) = false := by rw [beq_eq_false_iff_ne]; exact ha
                      have hbb : (x1 == c1) = true := by rw [beq_iff_eq]; exact hb
                      have hdb : (x1 == c2) = false := by rw [beq_eq_false_iff_ne]; exact hd
                      have hfb : (x0 == c1) = false := by rw [beq_eq_false_iff_ne]; exact hf
                      have HM : Hid (¬ (x0, x1) ∈ eds (c0, c1, c2)) := Lib.hid (by simp [eds]; omega)
                      clear ha hb hd hf
                      go_wp2
                      go_roundw
                      case rel => exact ⟨j + 1, by omega, (HFS.out.2 HM.out), by go_num, HRS.out.2 HM.out, grw_alloc HG3.out _⟩
                      case measure => simp [intOf]; omega
                · by_cases hd : x1 = c2
                  · by_cases hf : x0 = c1
                    · have hab : (x0 == c0) = false := by rw [beq_eq_false_iff_ne]; exact ha
                      have hbb : (x1 == c1) = false := by rw [beq_eq_false_iff_ne]; exact hb
                      have hdb : (x1 == c2) = true := by rw [beq_iff_eq]; exact hd
                      have hfb : (x0 == c1) = true := by rw [beq_iff_eq]; exact hf
                      have HM : Hid ((x0, x1) ∈ eds (c0, c1, c2)) := Lib.hid (by simp [eds]; omega)
                      clear ha hb hd hf
                      go_wp2
                      go_roundw
                      case rel => exact ⟨j + 1, by omega, (HFS.out.1 HM.out), by go_num, HRS.out.1 HM.out, grw_alloc (HG3.out.trans (grownBy_setCell _ _ _ _)) _⟩
                      case measure => simp [intOf]; omega
                    · have hab : (x0 == c0) = false := by rw [beq_eq_false_iff_ne]; exact ha
                      have hbb : (x1 == c1) = false := by rw [beq_eq_false_iff_ne]; exact hb
                      have hdb : (x1 == c2) = true := by rw [beq_iff_eq]; exact hd
                      have hfb : (x0 == c1) = false := by rw [beq_eq_false_iff_ne]; exact hf
                      have HM : Hid (¬ (x0, x1) ∈ eds (c0, c1, c2)) := Lib.hid (by simp [eds]; omega)
                      clear ha hb hd hf
                      go_wp2
                      go_roundw
                      case rel => exact ⟨j + 1, by omega, (HFS.out.2 HM.out), by go_num, HRS.out.2 HM.out, grw_alloc HG3.out _⟩
                      case measure => simp [intOf]; omega
                  · by_cases hf : x0 = c1
                    · have hab : (x0 == c0) = false := by rw [beq_eq_false_iff_ne]; exact ha
                      have hbb : (x1 == c1) = false := by rw [beq_eq_false_iff_ne]; exact hb
                      have hdb : (x1 == c2) = false := by rw [beq_eq_false_iff_ne]; exact hd
                      have hfb : (x0 == c1) = true := by rw [beq_iff_eq]; exact hf
                      have HM : Hid (¬ (x0, x1) ∈ eds (c0, c1, c2)) := Lib.hid (by simp [eds]; omega)
                      clear ha hb hd hf
                      go_wp2
                      go_roundw
                      case rel => exact ⟨j + 1, by omega, (HFS.out.2 HM.out), by go_num, HRS.out.2 HM.out, grw_alloc HG3.out _⟩
                      case measure => simp [intOf]; omega
                    · have hab : (x0 == c0) = false := by rw [beq_eq_false_iff_ne]; exact ha
                      have hbb : (x1 == c1) = false := by rw [beq_eq_false_iff_ne]; exact hb
                      have hdb : (x1 == c2) = false := by rw [beq_eq_false_iff_ne]; exact hd
                      have hfb : (x0 == c1) = false := by rw [beq_eq_false_iff_ne]; exact hf
                      have HM : Hid (¬ (x0, x1) ∈ eds (c0, c1, c2)) := Lib.hid (by simp [eds]; omega)
                      clear ha hb hd hf
                      go_wp2
                      go_roundw
                      case rel => exact ⟨j + 1, by omega, (HFS.out.2 HM.out), by go_num, HRS.out.2 HM.out, grw_alloc HG3.out _⟩
                      case measure => simp [intOf]; omega
            · obtain rfl : j = E.length := by omega
              have HF3 : foundN E (c0, c1, c2) E.length = 3 := by
                unfold foundN
                rw [List.take_length, HS.out.2.2.1 _ HC.out.2]; rfl
              rw [HF3]
              have HG9 := Lib.hid (HG8.out.trans hg3)
              have HR9 : Hid (RowF wr R2 E.length (sideN C E (m + 1) 0)) := Lib.hid (hR3.ext HNX.out)
              clear hg3 hR3 HF3
              go_wp2
              go_roundw
              case rel => exact ⟨m + 1, by omega, by go_num, HR9.out, HG9.out⟩
              case measure => simp [intOf]; omega
        · obtain rfl : m = C.length := by omega
          have HR9 : Hid (RowF wr R1 N (degN E E.length)) := Lib.hid (HR1.out.kept (hg.block R1 hl71 (by simp; exact h12)))
          have HR29 : Hid (RowF wr R2 E.length (fun _ => 2)) := Lib.hid (hR.ext (fun k hk => by
            rw [sideN_end C E k hk, HS.out.2.2.2.1 _ (List.getElem_mem hk)]; rfl))
          have HB9 : Hid (Below W.heap.size W wr) := Lib.hid (HB7.out.grown hg HB7.out.size (fun k hk => by injection hk with hk; omega))
          have HD : Hid ((∀ k, k < N → degN E E.length k = 5 ∨ degN E E.length k = 6) ∧ fives E N = 12) := Lib.hid (by
            have h := HS.out.2.2.2.2
            unfold degOk at h
            simp only [Bool.and_eq_true, List.all_eq_true, List.mem_range, Bool.or_eq_true, beq_iff_eq] at h
            refine ⟨fun k hk => ?_, ?_⟩
            · unfold degN
              rw [List.take_length]
              rcases h.1 k hk with e | e <;> rw [e]
              · exact .inl rfl
              · exact .inr rfl
            · unfold fives
              rw [h.2]; rfl)
          clear hR hg HR1 HB7 HP7 HT7 HS
          go_wp2
          go_loopw [19, 20] (fun f i w9 => ∃ j : Nat, j ≤ N ∧ f = .int .i64 (fives E j) ∧ i = .int .i64 j ∧ RowF w9 R1 N (degN E E.length) ∧ RowF w9 R2 E.length (fun _ => 2) ∧ Below W.heap.size W w9) (fun _ i _ => N - (intOf i).toNat)
          case atStart => exact ⟨0, Nat.zero_le _, rfl, rfl, HR9.out, HR29.out, HB9.out⟩
          case round =>
            obtain ⟨j, hj, rfl, rfl, hr1, hr2, hb⟩ := hrel
            clear HR9 HR29 HB9
            by_cases hltj : j < N
            · have hdj : decide ((j : Int) < (N : Int)) = true := decide_eq_true (by omega)
              have k7 : (0 : Int) ≤ (j : Int) := by omega
              have k8 : (j : Int) < (N : Int) := by omega
              obtain ⟨dj, _⟩ := hr1 j hltj
              have h56 := HD.out.1 j hltj
              have hfs := fives_succ E j
              have bf := fives_le E j
              have HK := Lib.hid (And.intro hr1 (And.intro hr2 hb))
              clear hr1 hr2 hb
              obtain ⟨vd, hvd⟩ : ∃ v, v = degN E E.length j := ⟨_, rfl⟩
              rw [← hvd] at dj h56 hfs
              clear hvd
              obtain ⟨vf, hvf⟩ : ∃ v, v = fives E j := ⟨_, rfl⟩
              rw [← hvf] at bf hfs
              rw [← hvf]
              clear hvf
              rcases h56 with rfl | rfl
              · rw [if_pos rfl] at hfs
                have HFS := Lib.hid hfs
                clear hfs
                go_wp2
                go_roundw
                case rel => exact ⟨j + 1, by omega, by rw [HFS.out], by go_num, HK.out.1, HK.out.2.1, HK.out.2.2⟩
                case measure => simp [intOf]; omega
              · rw [if_neg (by omega), Int.add_zero] at hfs
                have HFS := Lib.hid hfs
                clear hfs
                go_wp2
                go_roundw
                case rel => exact ⟨j + 1, by omega, by rw [HFS.out], by go_num, HK.out.1, HK.out.2.1, HK.out.2.2⟩
                case measure => simp [intOf]; omega
            · obtain rfl : j = N := by omega
              rw [HD.out.2]
              clear HD hr1
              have HR2 := Lib.hid hr2
              have HB2 := Lib.hid hb
              clear hr2 hb
              go_wp2
              go_loopw [21] (fun i w9 => ∃ j : Nat, j ≤ E.length ∧ i = .int .i64 j ∧ RowF w9 R2 E.length (fun _ => 2) ∧ Below W.heap.size W w9) (fun i _ => E.length - (intOf i).toNat)
              case atStart => exact ⟨0, Nat.zero_le _, rfl, HR2.out, HB2.out⟩
              case round =>
                obtain ⟨j2, hj2, rfl, hr2, hb⟩ := hrel
                clear HR2 HB2
                by_cases hltj : j2 < E.length
                · have hdj : decide ((j2 : Int) < (E.length : Int)) = true := decide_eq_true (by omega)
                  have k7 : (0 : Int) ≤ (j2 : Int) := by omega
                  have k8 : (j2 : Int) < (E.length : Int) := by omega
                  obtain ⟨dj, _⟩ := hr2 j2 hltj
                  have HK := Lib.hid (And.intro hr2 hb)
                  clear hr2 hb
                  go_wp2
                  go_roundw
                  case rel => exact ⟨j2 + 1, by omega, by go_num, HK.out.1, HK.out.2⟩
                  case measure => simp [intOf]; omega
                · obtain rfl : j2 = E.length := by omega
                  have hTw := hT.below hb
                  have HBF := Lib.hid hb
                  clear hr2 hb
                  go_wp2_with fail
                  refine (awake03_any wr hTw).mono ?_
                  rintro e w10 ⟨rfl, hb10⟩
                  have HBG := Lib.hid (HBF.out.trans (hb10.mono HBF.out.size))
                  clear hb10
                  go_wp2
                  go_ret
                  exact ⟨rfl, HBG.out⟩
end Go.Proofs.YtpbfgnffkhabnaaDoor
