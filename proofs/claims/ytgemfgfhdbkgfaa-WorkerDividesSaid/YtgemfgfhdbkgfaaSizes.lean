import Derived.Test.YtgemfgfhdbkgfaaDivide
import Derived.Test.YtgemfgfhdbkgfaaPlain24
set_option linter.unusedSimpArgs false
set_option linter.unusedVariables false
namespace Go.Proofs.Ytgemfgfhdbkgfaa
open Go.RowKit

/-- The cells of a row that a call has made. -/
def CellsAt (w : World) (g : Nat) (xs : List Value) : Prop := ∀ j u, xs[j]? = some u → w.cell? ⟨g, j, none⟩ = some u
theorem cellsAt_of_own {w : World} {base e size n cap g : Nat} {xs : List Value} (h : w.ownsRow base e size (.slice (some ⟨g, 0, none⟩) n cap) n xs) : CellsAt w g xs := by
  intro j u hj
  have := h.cells (g := g) rfl j u hj
  by_cases h0 : j = 0
  · subst h0; simpa [Addr.add] using this
  · simpa [Addr.add, h0] using this
theorem CellsAt.below {w w' : World} {B g : Nat} {xs : List Value} (h : CellsAt w g xs) (hb : Below B w w') (hg : g < B) : CellsAt w' g xs := fun j u hj => (hb.cell hg).trans (h j u hj)

set_option maxRecDepth 100000 in
set_option maxHeartbeats 1000000 in
theorem awake24 (w : World) : Calls Try.prog 6 #[] w fun e w' => e = .returned (.bool true) ∧ Below w.heap.size w w' := by
  go_enter Try.func6, Try.ntmps6
  go_wp2_with fail
  refine (divide_ok 12 1 5 _ (by omega) (by omega) (by omega) (by omega) (by omega) (by omega)).mono ?_
  rintro e w1 ⟨v, rfl, hown, hb⟩
  obtain ⟨g, cap, rfl, hg, hgl⟩ := hown.form (by decide)
  have hc := cellsAt_of_own hown
  have c0 : w1.cell? ⟨g, 0, none⟩ = some (.int .i64 0) := hc 0 _ rfl
  have c1 : w1.cell? ⟨g, 1, none⟩ = some (.int .i64 2) := hc 1 _ rfl
  have c2 : w1.cell? ⟨g, 2, none⟩ = some (.int .i64 0) := hc 2 _ rfl
  have c3 : w1.cell? ⟨g, 3, none⟩ = some (.int .i64 0) := hc 3 _ rfl
  have c4 : w1.cell? ⟨g, 18, none⟩ = some (.int .i64 0) := hc 18 _ rfl
  have c5 : w1.cell? ⟨g, 19, none⟩ = some (.int .i64 1) := hc 19 _ rfl
  clear hc hown
  go_wp2
  go_ret
  exact ⟨rfl, hb⟩

theorem partsTo_get (nodes rows workers : Int) : ∀ (n k : Nat), k < n → ∀ j, j < 4 → (partsTo nodes rows workers n)[k * 4 + j]? = (partCells nodes rows workers k)[j]?
  | 0, k, h, _, _ => by omega
  | n + 1, k, h, j, hj => by
    rw [partsTo_succ]
    have hlen : ∀ m, (partsTo nodes rows workers m).length = m * 4 := fun m => by
      induction m with
      | zero => rfl
      | succ m ih => rw [partsTo_succ, List.length_append, ih]; simp [partCells]; omega
    by_cases hk : k < n
    · rw [List.getElem?_append_left (by rw [hlen]; omega)]
      exact partsTo_get nodes rows workers n k hk j hj
    · obtain rfl : k = n := by omega
      rw [List.getElem?_append_right (by rw [hlen]; omega), hlen]
      congr 1; omega

set_option maxRecDepth 100000 in
set_option maxHeartbeats 2000000 in
theorem sizes_any (a0 a1 a2 : Int) (w : World) (h0 : 0 ≤ a0) (h0' : a0 ≤ 255) (h1 : 0 ≤ a1) (h1' : a1 ≤ 255) (h2 : 0 ≤ a2) (h2' : a2 ≤ 255) :
    Calls Try.prog 3 #[.int .u8 a0, .int .u8 a1, .int .u8 a2] w fun e w' => e = .returned (.bool true) ∧ Below w.heap.size w w' := by
  obtain ⟨m, hm⟩ : ∃ m : Nat, 1 + a2 % 16 = (m : Int) := ⟨(1 + a2 % 16).toNat, by omega⟩
  have hm1 : 1 ≤ m := by omega
  have hm2 : m ≤ 16 := by omega
  go_enter Try.func3, Try.ntmps3
  go_wp2_with fail
  refine (awake24 _).mono ?_
  rintro e w1 ⟨rfl, hb1⟩
  go_wp2_with fail
  refine (divide_ok _ _ _ _ (by omega) (by omega) (by omega) (by omega) (by omega) (by omega)).mono ?_
  rintro e w2 ⟨v, rfl, hown, hb2⟩
  rw [show ((m : Int).toNat) = m from by omega] at hown
  obtain ⟨g, cap, rfl, hg, hgl⟩ := hown.form (by omega)
  have hc := cellsAt_of_own hown
  have hB : Below w.heap.size w w2 := hb1.trans (hb2.mono hb1.size)
  clear hown hb1 hb2 hm
  go_wp2
  go_loopw [10, 11, 41] (fun x y i wr => ∃ k : Nat, k ≤ m ∧ i = .int .i64 k ∧ x = .int .i64 (k * a0 / m) ∧ y = .int .i64 (k * a1 / m) ∧ Below w2.heap.size w2 wr) (fun _ _ i _ => m - (intOf i).toNat)
  case atStart => exact ⟨0, Nat.zero_le _, rfl, by simp, by simp, Below.refl _ _⟩
  case round =>
    obtain ⟨k, hk, rfl, rfl, rfl, hb⟩ := hrel
    by_cases hlt : k < m
    · have c0 : wr.cell? ⟨g, k * 4, none⟩ = some (.int .i64 (k * a0 / m)) := (hb.cell hgl).trans (hc _ _ (partsTo_get a0 a1 m m k hlt 0 (by omega)))
      have c1 : wr.cell? ⟨g, k * 4 + 1, none⟩ = some (.int .i64 ((k + 1) * a0 / m)) := (hb.cell hgl).trans (hc _ _ (partsTo_get a0 a1 m m k hlt 1 (by omega)))
      have c2 : wr.cell? ⟨g, k * 4 + 2, none⟩ = some (.int .i64 (k * a1 / m)) := (hb.cell hgl).trans (hc _ _ (partsTo_get a0 a1 m m k hlt 2 (by omega)))
      have c3 : wr.cell? ⟨g, k * 4 + 3, none⟩ = some (.int .i64 ((k + 1) * a1 / m)) := (hb.cell hgl).trans (hc _ _ (partsTo_get a0 a1 m m k hlt 3 (by omega)))
      have s0 := size_bounds a0 m k h0 (by omega)
      have s1 := size_bounds a1 m k h1 (by omega)
      have b0 : 0 ≤ a0 / (m : Int) := Int.ediv_nonneg h0 (by omega)
      have b1 : 0 ≤ a1 / (m : Int) := Int.ediv_nonneg h1 (by omega)
      have b2 : (a0 + m - 1) / (m : Int) ≤ 300 := Int.le_trans (Int.ediv_le_self _ (by omega)) (by omega)
      have b3 : (a1 + m - 1) / (m : Int) ≤ 300 := Int.le_trans (Int.ediv_le_self _ (by omega)) (by omega)
      have hne : ((k : Int) + 1) = ((k + 1 : Nat) : Int) := by omega
      have HN := Lib.hid hne
      clear hc hne
      go_wp2
      refine RX.region RX.fL (fun w' => w' = _) (by kernel_rfl) (by kernel_rfl) rfl (fun OPS HO QR hQR => ?_)
      repeat
        refine RX.step (fun R hR => ?_)
        first
        | (refine RX.one_skip (by first | rfl | (rw [HO.out]; rfl)) (by simp only [RX.put_some, List.set_cons_zero, List.set_cons_succ]; rfl) ?_
           refine hR _ _ ?_; clear hR R)
        | (refine RX.one_move (by first | rfl | (rw [HO.out]; rfl)) rfl (by first | exact Or.inl rfl | exact Or.inr rfl) (by simp only [RX.eval_tmp, RX.eval_const, List.getD_cons_zero, List.getD_cons_succ]; rfl) (by simp only [RX.put_some, List.set_cons_zero, List.set_cons_succ]; rfl) ?_
           refine hR _ _ ?_; clear hR R)
        | (refine RX.one_float (by first | rfl | (rw [HO.out]; rfl)) rfl rfl rfl ?_
           apply Exists.intro; apply Exists.intro
           refine ⟨fun w' hS K hK => ?_, ?_, ?_⟩
           · subst hS; go_wp2; exact hK _ _ (by simp only [RX.arr_getD, List.getD_cons_zero, List.getD_cons_succ]; rfl) rfl
           · simp only [RX.put_some, List.set_cons_zero, List.set_cons_succ]; rfl
           refine hR _ _ ?_; clear hR R)
      refine RX.wpL_nil (hQR _ _ rfl ?_); clear hQR QR HO OPS
      go_wp2
      refine RX.region RX.fL (fun w' => w' = _) (by kernel_rfl) (by kernel_rfl) rfl (fun OPS HO QR hQR => ?_)
      repeat
        refine RX.step (fun R hR => ?_)
        first
        | (refine RX.one_skip (by first | rfl | (rw [HO.out]; rfl)) (by simp only [RX.put_some, List.set_cons_zero, List.set_cons_succ]; rfl) ?_
           refine hR _ _ ?_; clear hR R)
        | (refine RX.one_move (by first | rfl | (rw [HO.out]; rfl)) rfl (by first | exact Or.inl rfl | exact Or.inr rfl) (by simp only [RX.eval_tmp, RX.eval_const, List.getD_cons_zero, List.getD_cons_succ]; rfl) (by simp only [RX.put_some, List.set_cons_zero, List.set_cons_succ]; rfl) ?_
           refine hR _ _ ?_; clear hR R)
        | (refine RX.one_float (by first | rfl | (rw [HO.out]; rfl)) rfl rfl rfl ?_
           apply Exists.intro; apply Exists.intro
           refine ⟨fun w' hS K hK => ?_, ?_, ?_⟩
           · subst hS; go_wp2; exact hK _ _ (by simp only [RX.arr_getD, List.getD_cons_zero, List.getD_cons_succ]; rfl) rfl
           · simp only [RX.put_some, List.set_cons_zero, List.set_cons_succ]; rfl
           refine hR _ _ ?_; clear hR R)
      refine RX.wpL_nil (hQR _ _ rfl ?_); clear hQR QR HO OPS
      go_wp2
      have hb' := ((hb.alloc hb.size (.cells #[Value.int .i64 (k * a0 / m), .int .i64 ((k + 1) * a0 / m), .int .i64 (k * a1 / m), .int .i64 ((k + 1) * a1 / m)] 28)).drew).drew
      go_roundw
      case rel => exact ⟨k + 1, by omega, by go_num, by rw [← HN.out], by rw [← HN.out], hb'⟩
      case measure => simp [intOf]; omega
    · obtain rfl : k = m := by omega
      have e0 : ((k : Int) * a0 / k) = a0 := Int.mul_ediv_cancel_left _ (by omega)
      have e1 : ((k : Int) * a1 / k) = a1 := Int.mul_ediv_cancel_left _ (by omega)
      go_wp2
      go_ret
      exact ⟨rfl, hB.trans (hb.mono hB.size)⟩
end Go.Proofs.Ytgemfgfhdbkgfaa
