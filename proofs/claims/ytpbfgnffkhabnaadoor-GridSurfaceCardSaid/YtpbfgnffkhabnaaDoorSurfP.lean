import Derived.Test.YtpbfgnffkhabnaaDoorSurf3
import Derived.Test.YtpbfgnffkhabnaaDoorSurf4
import Derived.Test.YtpbfgnffkhabnaaDoorSurf5
set_option linter.unusedSimpArgs false
set_option linter.unusedVariables false
namespace Go.Proofs.YtpbfgnffkhabnaaDoor
open Go.RowKit Go.Grid Go.Maps Go.Sort Go.Shelf

theorem comp_dbl {E : List I2} (h : E.Pairwise lt2) : comp (dbl E) (dbl E).length = E := by
  have key : ∀ k, k ≤ E.length → comp (dbl E) (2 * k) = E.take k := by
    intro k
    induction k with
    | zero => intro _; rfl
    | succ k ih =>
      intro hk
      have hl := dbl_len E
      have h0 : 2 * k < (dbl E).length := by omega
      have h1 : 2 * k + 1 < (dbl E).length := by omega
      have g0 : (dbl E)[2 * k] = E[k] := by rw [dbl_get]; congr 1; omega
      have g1 : (dbl E)[2 * k + 1] = E[k] := by rw [dbl_get]; congr 1; omega
      have n0 : newAt (dbl E) (2 * k) = true := by
        by_cases hk0 : k = 0
        · subst hk0; simp [newAt]
        · refine newAt_true h0 ?_
          have g2 : (dbl E)[2 * k - 1] = E[k - 1] := by rw [dbl_get]; congr 1; omega
          rw [g0, g2]
          intro e
          have := List.pairwise_iff_getElem.1 h (k - 1) k (by omega) (by omega) (by omega)
          rw [e] at this
          unfold lt2 at this; omega
      have n1 : newAt (dbl E) (2 * k + 1) = false := newAt_false (by omega) h1 (by
        have : (dbl E)[2 * k + 1 - 1] = E[k] := by rw [dbl_get]; congr 1; omega
        rw [g1, this])
      rw [show 2 * (k + 1) = 2 * k + 1 + 1 by omega, comp_no n1, comp_yes h0 n0, ih (by omega), g0, List.take_succ_eq_append_getElem (by omega)]
  have := key E.length (Nat.le_refl _)
  rwa [List.take_length, ← dbl_len] at this

theorem count_flat {C : List I3} (h : ∀ c ∈ C, (eds c).Nodup) (e : I2) : (C.flatMap eds).count e = C.countP (fun c => decide (e ∈ eds c)) := by
  induction C with
  | nil => rfl
  | cons c C ih =>
    rw [List.flatMap_cons, List.count_append, ih (fun d hd => h d (List.mem_cons_of_mem _ hd)), List.countP_cons]
    have hc := h c (by simp)
    by_cases hm : e ∈ eds c
    · rw [hc.count, if_pos hm, if_pos (decide_eq_true hm)]; omega
    · rw [List.count_eq_zero_of_not_mem hm, if_neg (by simpa using hm)]; omega
theorem count_dbl {E : List I2} (h : E.Nodup) {e : I2} (he : e ∈ E) : (dbl E).count e = 2 := by
  have key : ∀ E : List I2, (dbl E).count e = 2 * E.count e := by
    intro E
    induction E with
    | nil => rfl
    | cons x E ih => rw [dbl_cons, List.count_cons, List.count_cons, List.count_cons, ih]; split <;> omega
  rw [key, h.count, if_pos he]
theorem countP_mem {E l : List I2} (hE : E.Nodup) (hl : l.Nodup) (h : ∀ x ∈ l, x ∈ E) : E.countP (fun e => decide (e ∈ l)) = l.length := by
  rw [List.countP_eq_length_filter]
  refine List.Perm.length_eq ?_
  refine (List.perm_ext_iff_of_nodup (hE.filter _) hl).2 (fun a => ?_)
  rw [List.mem_filter, decide_eq_true_eq]
  exact ⟨fun h => h.2, fun ha => ⟨h a ha, ha⟩⟩

/-- The grid is a closed surface. -/
structure Surf (n : Nat) : Prop where
  ed : ∀ e ∈ edgesL n, 0 ≤ e.1 ∧ e.1 < e.2 ∧ e.2 < ((nodesL n).length : Int)
  ce : ∀ c ∈ cellsS n, c.1 < c.2.1 ∧ c.2.1 < c.2.2
  found : ∀ c ∈ cellsS n, (edgesL n).countP (fun e => decide (e ∈ eds c)) = 3
  sides : ∀ e ∈ edgesL n, (cellsS n).countP (fun c => decide (e ∈ eds c)) = 2
  euler : (nodesL n).length + (cellsS n).length = (edgesL n).length + 2
  deg : degOk (nodesL n).length (degs (edgesL n)) = true

theorem surf_chk {n : Nat} (h1 : 1 ≤ n) (h8 : n ≤ 8) (h : chk n = true) : Surf n := by
  unfold chk chk1 chk2 chk3 at h
  simp only [Bool.and_eq_true, List.all_eq_true, beq_iff_eq, decide_eq_true_eq] at h
  obtain ⟨⟨⟨⟨hC, hT⟩, hA⟩, hN⟩, hD⟩ := h
  have hP := ms_perm ltB2 11 ((cellsF (nodesL n) n).flatMap eds)
  rw [hT] at hP
  generalize evens (ms ltB2 11 ((cellsF (nodesL n) n).flatMap eds)) = E at *
  have hE := ascB_pair hA
  have hEn := asc_nodup hE
  have hcs : (cellsS n).Perm (cellsF (nodesL n) n) := by
    rw [← cells3_fast]; exact List.mergeSort_perm _ _
  have hraw : (edRaw n).Perm (dbl E) := by
    unfold edRaw edTo
    rw [List.take_length]
    exact (hcs.flatMap_right eds).trans hP.symm
  have hsort : dbl E = sort2 (edRaw n) := sort2_one hraw.symm (by
    have key : ∀ F : List I2, F.Pairwise lt2 → (dbl F).Pairwise (fun a b => ¬ lt2 b a) := by
      intro F hF
      induction F with
      | nil => exact List.Pairwise.nil
      | cons x F ih =>
        obtain ⟨h1, h2⟩ := List.pairwise_cons.1 hF
        have hx : ∀ z ∈ dbl F, ¬ lt2 z x := fun z hz => by
          have := h1 z (mem_dbl.1 hz)
          unfold lt2 at *; omega
        rw [dbl_cons]
        refine List.pairwise_cons.2 ⟨fun z hz => ?_, List.pairwise_cons.2 ⟨hx, ih h2⟩⟩
        rcases List.mem_cons.1 hz with rfl | hz
        · unfold lt2; omega
        · exact hx z hz
    exact key E hE)
  have hed : edgesL n = E := by
    unfold edgesL
    rw [← hsort, comp_dbl hE]
  have hce : ∀ c ∈ cellsS n, c.1 < c.2.1 ∧ c.2.1 < c.2.2 := fun c hc => hC c (hcs.mem_iff.1 hc)
  have hnd : ∀ c ∈ cellsS n, (eds c).Nodup := fun c hc => by
    obtain ⟨h1, h2⟩ := hce c hc
    unfold eds
    simp only [List.nodup_cons, List.mem_cons, List.not_mem_nil, or_false, Prod.mk.injEq, not_or, not_false_eq_true, List.nodup_nil, and_true]
    omega
  have hmem : ∀ e, e ∈ E ↔ ∃ c ∈ cellsS n, e ∈ eds c := fun e => by
    rw [← mem_dbl, ← hraw.mem_iff]
    unfold edRaw edTo
    rw [List.take_length, List.mem_flatMap]
  refine ⟨fun e he => ?_, hce, fun c hc => ?_, fun e he => ?_, ?_, ?_⟩
  · obtain ⟨i1, i2, i3, i4⟩ := edges_in h1 h8 e he
    rw [hed] at he
    obtain ⟨c, hc, hm⟩ := (hmem e).1 he
    obtain ⟨h3, h4⟩ := hce c hc
    refine ⟨i1, ?_, i4⟩
    simp only [eds, List.mem_cons, List.not_mem_nil, or_false] at hm
    rcases hm with rfl | rfl | rfl <;> simp only <;> omega
  · rw [hed]
    have := countP_mem hEn (hnd c hc) (fun x hx => (hmem x).2 ⟨c, hc, hx⟩)
    rw [this]; rfl
  · rw [hed] at he
    have := count_flat hnd e
    rw [← this]
    have h2 : (edRaw n).count e = 2 := by rw [hraw.count_eq, count_dbl hEn he]
    unfold edRaw edTo at h2
    rwa [List.take_length] at h2
  · rw [hcs.length_eq, hed]; exact hN
  · rw [hed]; exact hD
theorem surf_all {n : Nat} (h1 : 1 ≤ n) (h5 : n ≤ 5) : Surf n := by
  have h : n = 1 ∨ n = 2 ∨ n = 3 ∨ n = 4 ∨ n = 5 := by omega
  rcases h with rfl | rfl | rfl | rfl | rfl
  · exact surf_chk (by omega) (by omega) chk_1
  · exact surf_chk (by omega) (by omega) chk_2
  · exact surf_chk (by omega) (by omega) chk_3
  · exact surf_chk (by omega) (by omega) chk_4
  · exact surf_chk (by omega) (by omega) chk_5
end Go.Proofs.YtpbfgnffkhabnaaDoor
