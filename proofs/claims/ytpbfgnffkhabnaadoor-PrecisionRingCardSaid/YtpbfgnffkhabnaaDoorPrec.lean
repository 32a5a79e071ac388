import Derived.Test.YtpbfgnffkhabnaaDoorBuild2
set_option linter.unusedSimpArgs false
set_option linter.unusedVariables false
namespace Go.Proofs.YtpbfgnffkhabnaaDoor
open Go.RowKit Go.Grid Go.Maps Go.Sort Go.Shelf

def freqB (n : Int) : Bool := decide (1 ≤ n ∧ n ≤ 8)
theorem freqB_t {n : Int} (h : 1 ≤ n ∧ n ≤ 8) : freqB n = true := decide_eq_true h
theorem freqB_f {n : Int} (h : ¬ (1 ≤ n ∧ n ≤ 8)) : freqB n = false := decide_eq_false h
theorem freq_any (n : Int) (w : World) : Calls Tryd.prog 53 #[.int .i64 n] w fun e w' => e = .returned (.bool (freqB n)) ∧ w = w' := by
  by_cases h : 1 ≤ n
  · by_cases h2 : n ≤ 8
    · have HD : Hid (freqB n = true) := Lib.hid (freqB_t ⟨h, h2⟩)
      go_enter Tryd.func53, Tryd.ntmps53
      go_wp2
      go_ret
      rw [HD.out]; exact ⟨rfl, rfl⟩
    · have HD : Hid (freqB n = false) := Lib.hid (freqB_f (by omega))
      go_enter Tryd.func53, Tryd.ntmps53
      go_wp2
      go_ret
      rw [HD.out]; exact ⟨rfl, rfl⟩
  · have HD : Hid (freqB n = false) := Lib.hid (freqB_f (by omega))
    go_enter Tryd.func53, Tryd.ntmps53
    go_wp2
    go_ret
    rw [HD.out]; exact ⟨rfl, rfl⟩

/-- grid.Count -/
def countI (n : Int) : Int := if 1 ≤ n ∧ n ≤ 8 then 10 * n * n + 2 else 0
theorem count_any (n : Int) (w : World) : Calls Tryd.prog 14 #[.int .i64 n] w fun e w' => e = .returned (.int .i64 (countI n)) ∧ w = w' := by
  by_cases h : 1 ≤ n ∧ n ≤ 8
  · have HC : Hid (countI n = 10 * n * n + 2) := Lib.hid (by unfold countI; rw [if_pos h])
    have h1 : 0 ≤ 10 * n * n := Int.mul_nonneg (by omega) (by omega)
    have h2 : 10 * n * n ≤ 640 := by
      have := Int.mul_le_mul (show 10 * n ≤ 80 by omega) h.2 (by omega) (by omega)
      omega
    go_enter Tryd.func14, Tryd.ntmps14
    go_wp2_with fail
    refine (freq_any n _).mono ?_
    rintro e w1 ⟨rfl, rfl⟩
    rw [freqB_t h]
    go_wp2
    go_ret
    rw [HC.out]; exact ⟨rfl, rfl⟩
  · have HC : Hid (countI n = 0) := Lib.hid (by unfold countI; rw [if_neg h])
    go_enter Tryd.func14, Tryd.ntmps14
    go_wp2_with fail
    refine (freq_any n _).mono ?_
    rintro e w1 ⟨rfl, rfl⟩
    rw [freqB_f h]
    go_wp2
    go_ret
    rw [HC.out]; exact ⟨rfl, rfl⟩

set_option maxRecDepth 100000 in
/-- grid.Edges at a frequency that exists. -/
theorem edges_any (n : Nat) (h1 : 1 ≤ n) (h2 : n ≤ 8) (w : World) (hT : HasTab w) : Calls Tryd.prog 27 #[.int .i64 n] w fun e w' => ∃ b cap, e = .returned (.tuple #[.slice (some ⟨b, 0, none⟩) (edgesL n).length cap, .int .i64 0]) ∧ (edgesL n).length ≤ cap ∧ PairsAt w' b (edgesL n) ∧ w.heap.size ≤ b ∧ Below w.heap.size w w' := by
  go_enter Tryd.func27, Tryd.ntmps27
  go_wp2_with fail
  refine (freq_any n _).mono ?_
  rintro e w1 ⟨rfl, rfl⟩
  rw [freqB_t (show 1 ≤ (n : Int) ∧ (n : Int) ≤ 8 by omega)]
  go_wp2_with fail
  refine (build_any n h1 h2 _ hT).mono ?_
  rintro e w2 ⟨rfl, hN, hb⟩
  obtain ⟨b, cap, e5, hc, hP, hgb⟩ := hN.edges
  have HK := Lib.hid (And.intro hc (And.intro hP (And.intro hgb hb)))
  clear hN hc hP hgb hb
  go_wp2
  go_ret2
  obtain ⟨hc, hP, hgb, hb⟩ := HK.out
  exact ⟨b, cap, rfl, hc, hP, by omega, hb⟩

theorem pwithin_any (n lo hi : Int) (w : World) : Calls Tryd.prog 102 #[.int .i64 n, .int .i64 lo, .int .i64 hi] w fun e w' => e = .returned (.bool (decide (lo ≤ n) && decide (n ≤ hi))) ∧ w = w' := by
  by_cases h : lo ≤ n
  · by_cases h2 : n ≤ hi
    · go_enter Tryd.func102, Tryd.ntmps102
      go_wp2
      go_ret
      simp [h, h2]
    · go_enter Tryd.func102, Tryd.ntmps102
      go_wp2
      go_ret
      simp [h2]
  · go_enter Tryd.func102, Tryd.ntmps102
    go_wp2
    go_ret
    simp; omega
theorem pwithin_yes (n lo hi : Int) (w : World) (h : lo ≤ n ∧ n ≤ hi) : Calls Tryd.prog 102 #[.int .i64 n, .int .i64 lo, .int .i64 hi] w fun e w' => e = .returned (.bool true) ∧ w = w' := by
  refine (pwithin_any n lo hi w).mono ?_
  rintro e w' ⟨rfl, rfl⟩
  simp [h.1, h.2]
theorem pwithin_no (n lo hi : Int) (w : World) (h : ¬ (lo ≤ n ∧ n ≤ hi)) : Calls Tryd.prog 102 #[.int .i64 n, .int .i64 lo, .int .i64 hi] w fun e w' => e = .returned (.bool false) ∧ w = w' := by
  refine (pwithin_any n lo hi w).mono ?_
  rintro e w' ⟨rfl, rfl⟩
  refine ⟨?_, rfl⟩
  have : (decide (lo ≤ n) && decide (n ≤ hi)) = false := by
    rw [Bool.and_eq_false_iff, decide_eq_false_iff_not, decide_eq_false_iff_not]; omega
  rw [this]

/-- A precision, as the program holds it. -/
def prv (f s a : Int) : Value := .agg #[.int .i64 f, .int .i64 s, .int .i64 a]
def PrOk (f s a : Int) : Prop := 1 ≤ f ∧ f ≤ 8 ∧ 0 ≤ s ∧ s ≤ 1000000 ∧ 1 ≤ a ∧ a ≤ 1000000
instance (f s a : Int) : Decidable (PrOk f s a) := by unfold PrOk; infer_instance
def prErr (f s a : Int) : Int := if PrOk f s a then 0 else 1
set_option maxRecDepth 100000 in
set_option maxHeartbeats 1000000 in
theorem pcheck_any (f s a : Int) (w : World) : Calls Tryd.prog 101 #[prv f s a] w fun e w' => e = .returned (.int .i64 (prErr f s a)) ∧ Below w.heap.size w w' := by
  unfold prv
  have yes : PrOk f s a → prErr f s a = 0 := fun h => if_pos h
  have no : ¬ PrOk f s a → prErr f s a = 1 := fun h => if_neg h
  by_cases h1 : 1 ≤ f ∧ f ≤ 8
  · by_cases h2 : 0 ≤ s ∧ s ≤ 1000000
    · by_cases h3 : 1 ≤ a ∧ a ≤ 1000000
      · have HE := Lib.hid (yes (by unfold PrOk; omega))
        clear yes no
        go_enter Tryd.func101, Tryd.ntmps101
        go_wp2_with (go_at_call 102; refine (pwithin_yes _ _ _ _ (by omega)).mono ?_; rintro e w' ⟨rfl, rfl⟩)
        go_ret
        rw [HE.out]; exact ⟨rfl, (Below.refl _ _).alloc (Nat.le_refl _) _⟩
      · have HE := Lib.hid (no (by unfold PrOk; omega))
        clear yes no
        go_enter Tryd.func101, Tryd.ntmps101
        go_wp2_with (go_at_call 102; first | (refine (pwithin_yes _ _ _ _ (by omega)).mono ?_; rintro e w' ⟨rfl, rfl⟩) | (refine (pwithin_no _ _ _ _ (by omega)).mono ?_; rintro e w' ⟨rfl, rfl⟩))
        go_ret
        rw [HE.out]; exact ⟨rfl, (Below.refl _ _).alloc (Nat.le_refl _) _⟩
    · have HE := Lib.hid (no (by unfold PrOk; omega))
      clear yes no
      go_enter Tryd.func101, Tryd.ntmps101
      go_wp2_with (go_at_call 102; first | (refine (pwithin_yes _ _ _ _ (by omega)).mono ?_; rintro e w' ⟨rfl, rfl⟩) | (refine (pwithin_no _ _ _ _ (by omega)).mono ?_; rintro e w' ⟨rfl, rfl⟩))
      go_ret
      rw [HE.out]; exact ⟨rfl, (Below.refl _ _).alloc (Nat.le_refl _) _⟩
  · have HE := Lib.hid (no (by unfold PrOk; omega))
    clear yes no
    go_enter Tryd.func101, Tryd.ntmps101
    go_wp2_with (go_at_call 102; first | (refine (pwithin_yes _ _ _ _ (by omega)).mono ?_; rintro e w' ⟨rfl, rfl⟩) | (refine (pwithin_no _ _ _ _ (by omega)).mono ?_; rintro e w' ⟨rfl, rfl⟩))
    go_ret
    rw [HE.out]; exact ⟨rfl, (Below.refl _ _).alloc (Nat.le_refl _) _⟩
end Go.Proofs.YtpbfgnffkhabnaaDoor
