import Derived.Test.YtpbfgnffkhabnaaDoorKSum
import Derived.Test.YtpbfgnffkhabnaaDoorKAwake
set_option linter.unusedSimpArgs false
set_option linter.unusedVariables false
namespace Go.Proofs.YtpbfgnffkhabnaaDoor
open Go.RowKit

theorem mul_self_nn (x : Int) : 0 ≤ x * x := by
  rcases Int.le_total 0 x with h | h
  · exact Int.mul_nonneg h h
  · have := Int.mul_nonneg (show 0 ≤ -x by omega) (show 0 ≤ -x by omega)
    rwa [Int.neg_mul_neg] at this
theorem product_wv (a b : Int) (w : World) (ha : -9223372036854775808 ≤ a) (ha' : a ≤ 9223372036854775807) (hb : -9223372036854775808 ≤ b) (hb' : b ≤ 9223372036854775807) :
    Calls Tryd.prog 31 #[.int .i64 a, .int .i64 b] w fun e w' => e = .returned (wv (a * b)) ∧ Below w.heap.size w w' := by
  refine (product_any a b w ha ha' hb hb').mono ?_
  rintro e w' ⟨rfl, h⟩
  refine ⟨?_, h⟩
  obtain ⟨b1, b2⟩ := mul_bound a b ha ha' hb hb'
  have g1 : wrap64 (a * b / 18446744073709551616) = a * b / 18446744073709551616 := by unfold wrap64; omega
  unfold wv; rw [g1]
theorem compare_wv (p q : Int) (w : World) (hp : -170141183460469231731687303715884105728 ≤ p) (hp' : p < 170141183460469231731687303715884105728) (hq : -170141183460469231731687303715884105728 ≤ q) (hq' : q < 170141183460469231731687303715884105728) :
    Calls Tryd.prog 33 #[wv p, wv q] w fun e w' => e = .returned (.int .i64 (sgn p q)) ∧ Below w.heap.size w w' := by
  refine (compare_any _ _ _ _ w).mono ?_
  rintro e w' ⟨rfl, h⟩
  refine ⟨?_, h⟩
  have g1 : wrap64 (p / 18446744073709551616) = p / 18446744073709551616 := by unfold wrap64; omega
  have g2 : wrap64 (q / 18446744073709551616) = q / 18446744073709551616 := by unfold wrap64; omega
  rw [g1, g2, cmpW_num _ _ _ _ (by omega) (by omega) (by omega) (by omega),
    show p / 18446744073709551616 * 18446744073709551616 + p % 18446744073709551616 = p by omega, show q / 18446744073709551616 * 18446744073709551616 + q % 18446744073709551616 = q by omega]

theorem negate_at (v : Value) (p : Int) (hv : v = wv p) (w : World) :
    Calls Tryd.prog 32 #[v] w fun e w' => e = .returned (wv (-p)) ∧ Below w.heap.size w w' := by
  subst hv; exact negate_any p w
theorem compare_at (p : Int) (v : Value) (q : Int) (hv : wv q = v) (w : World) (hp : -85070591730234615865843651857942052864 ≤ p) (hp' : p ≤ 85070591730234615865843651857942052864) :
    q = 0 → Calls Tryd.prog 33 #[wv p, v] w fun e w' => e = .returned (.int .i64 (sgn p 0)) ∧ Below w.heap.size w w' := by
  intro h; subst hv h; exact compare_wv p 0 w (by omega) (by omega) (by omega) (by omega)

set_option maxRecDepth 100000 in
set_option maxHeartbeats 1000000 in
theorem ring_any (x a1 a2 : Int) (hx : -9223372036854775808 ≤ x) (hx' : x ≤ 9223372036854775807) (h1 : -9223372036854775808 ≤ a1) (h1' : a1 ≤ 9223372036854775807) (h2 : -9223372036854775808 ≤ a2) (h2' : a2 ≤ 9223372036854775807) (w : World) (hT : HasTab w) :
    Calls Tryd.prog 6 #[.int .i64 x, .int .i64 a1, .int .i64 a2] w fun e w' => e = .returned (.bool true) ∧ Below w.heap.size w w' := by
  go_enter Tryd.func6, Tryd.ntmps6
  go_wp2_with fail
  refine (awake22_any w hT).mono ?_
  rintro e w1 ⟨rfl, hb1⟩
  go_wp2_with fail
  have eb : a1.tdiv 2 = a1 / 2 + (if 0 ≤ a1 ∨ (2 : Int) ∣ a1 then 0 else 1) := Int.tdiv_eq_ediv
  have ec : a2.tdiv 2 = a2 / 2 + (if 0 ≤ a2 ∨ (2 : Int) ∣ a2 then 0 else 1) := Int.tdiv_eq_ediv
  generalize a1.tdiv 2 = b at *
  generalize a2.tdiv 2 = c at *
  have vb : -4611686018427387904 ≤ b := by split at eb <;> omega
  have vb' : b ≤ 4611686018427387903 := by split at eb <;> omega
  have vc : -4611686018427387904 ≤ c := by split at ec <;> omega
  have vc' : c ≤ 4611686018427387903 := by split at ec <;> omega
  clear eb ec
  obtain ⟨H, L, hS⟩ : ∃ H L, wv (x * b + x * c) = .agg #[.int .i64 H, .int .u64 L] := ⟨_, _, rfl⟩
  obtain ⟨H2, L2, hN⟩ : ∃ H L, wv (-(x * b)) = .agg #[.int .i64 H, .int .u64 L] := ⟨_, _, rfl⟩
  have hSum : Hid (wv (x * (b + c)) = .agg #[.int .i64 H, .int .u64 L]) := by show _ = _; rw [Int.mul_add]; exact hS
  have hNeg : Hid (wv (x * -b) = .agg #[.int .i64 H2, .int .u64 L2]) := by show _ = _; rw [Int.mul_neg]; exact hN
  have hZero : Hid (wv (x * b + x * c + -(x * b + x * c)) = .agg #[.int .i64 0, .int .u64 0]) := by show _ = _; rw [Int.add_right_neg]; exact wv_zero.symm
  have hS := Lib.hid hS
  have hN := Lib.hid hN
  have hsq := Lib.hid (mul_bound x x hx hx' hx hx')
  have hnn : Hid (0 ≤ sgn (x * x) 0) := by
    show _ ≤ _
    have := mul_self_nn x
    unfold sgn; (repeat' split) <;> omega
  have hcase : (x < b ∧ sgn x b = -1) ∨ (¬ x < b ∧ b < x ∧ sgn x b = 1) ∨ (¬ x < b ∧ ¬ b < x ∧ sgn x b = 0) := by
    unfold sgn; (repeat' split) <;> omega
  refine (product_wv _ _ _ (by omega) (by omega) (by omega) (by omega)).mono ?_
  rintro e w2 ⟨rfl, hb2⟩
  have hB2 : Below w.heap.size w w2 := Below.trans (by repeat (first | (with_reducible assumption) | (with_reducible exact Below.refl _ _) | (with_reducible refine Below.setCell ?_ (by first | omega | (simp; done) | (simp; omega)) _) | (with_reducible refine Below.alloc ?_ (by first | omega | (simp; done) | (simp; omega)) _) | (with_reducible apply Below.drew) | assumption)) (hb2.mono hb1.size)
  go_wp2_with fail
  refine (product_wv _ _ _ (by omega) (by omega) (by omega) (by omega)).mono ?_
  rintro e w3 ⟨rfl, hb3⟩
  have hB3 : Below w.heap.size w w3 := hB2.trans (hb3.mono hB2.size)
  go_wp2_with fail
  refine (add_any _ _ _).mono ?_
  rintro e w4 ⟨rfl, hb4⟩
  have hB4 : Below w.heap.size w w4 := hB3.trans (hb4.mono hB3.size)
  rw [hS.out]
  clear hb1 hb2 hb3 hb4 hB2 hB3
  rcases hcase with ⟨hc1, hs⟩ | ⟨hc1, hc2, hs⟩ | ⟨hc1, hc2, hs⟩
  · go_wp2
    have hB : Below w.heap.size w (w4.alloc (.cells #[.int .i64 H, .int .u64 L] 58)) := hB4.alloc hB4.size _
    have k1 : (w4.alloc (.cells #[.int .i64 H, .int .u64 L] 58)).cell? ⟨w4.heap.size, 0, none⟩ = some (.int .i64 H) := (by simp [RX.cell_drew, RX.cell_alloc, Nat.add_assoc])
    have k2 : (w4.alloc (.cells #[.int .i64 H, .int .u64 L] 58)).cell? ⟨w4.heap.size, 1, none⟩ = some (.int .u64 L) := (by simp [RX.cell_drew, RX.cell_alloc, Nat.add_assoc])
    generalize (w4.alloc (.cells #[.int .i64 H, .int .u64 L] 58)) = W0 at *
    generalize w4.heap.size = g at *
    clear hB4
    refine RX.region RX.fL (fun w' => w'.cell? ⟨g, 0, none⟩ = some (.int .i64 H) ∧ w'.cell? ⟨g, 1, none⟩ = some (.int .u64 L)) (by kernel_rfl) (by kernel_rfl) (⟨k1, k2⟩) (fun OPS HO QR hQR => ?_)
    have hB := hB.drew
    repeat
      refine RX.step (fun R hR => ?_)
      first
      | (refine RX.one_skip (by first | rfl | (rw [HO.out]; rfl)) (by simp only [RX.put_some, RX.put_none, List.set_cons_zero, List.set_cons_succ]; rfl) ?_
         refine hR _ _ ?_; clear hR R)
      | (refine RX.one_move (by first | rfl | (rw [HO.out]; rfl)) rfl (by first | exact Or.inl rfl | exact Or.inr rfl) (by simp only [RX.eval_tmp, RX.eval_const, List.getD_cons_zero, List.getD_cons_succ]; rfl) (by simp only [RX.put_some, RX.put_none, List.set_cons_zero, List.set_cons_succ]; rfl) ?_
         refine hR _ _ ?_; clear hR R)
      | (refine RX.one_nil (by first | rfl | (rw [HO.out]; rfl)) rfl rfl (by simp only [RX.eval_tmp, RX.eval_const, List.getD_cons_zero, List.getD_cons_succ]; rfl) (by simp only [RX.put_some, RX.put_none, List.set_cons_zero, List.set_cons_succ]; rfl) ?_
         refine hR _ _ ?_; clear hR R)
      | (refine RX.one_float (by first | rfl | (rw [HO.out]; rfl)) rfl rfl rfl ?_
         apply Exists.intro; apply Exists.intro
         refine ⟨fun w' hS K hK => ?_, ?_, ?_⟩
         · obtain ⟨hS1, hS2⟩ := hS; go_wp2; exact hK _ _ (by simp only [RX.arr_getD, List.getD_cons_zero, List.getD_cons_succ]; first | exact RX.dec_t (by omega) | exact RX.dec_f (by omega) | exact RX.beq_t (by omega) | exact RX.beq_f (by omega) | exact RX.bne_t (by omega) | exact RX.bne_f (by omega) | exact RX.bneB _ | rfl) rfl
         · simp only [RX.put_some, RX.put_none, List.set_cons_zero, List.set_cons_succ]; rfl
         refine hR _ _ ?_; clear hR R)
    refine RX.step (fun R hR => ?_)
    refine RX.one_chain (by first | rfl | (rw [HO.out]; rfl)) rfl (fun K hK => ?_)
    go_wp2_with fail
    refine (product_wv _ _ _ (by omega) (by omega) (by omega) (by omega)).mono ?_
    rintro e wa ⟨rfl, hb⟩
    have hBn : Below w.heap.size w wa := hB.trans (hb.mono hB.size)
    have m1 := RX.keep hb k1
    have m2 := RX.keep hb k2
    clear hb hB k1 k2
    rw [hSum.out]
    refine hK _ _ ⟨⟨m1, m2⟩, hR _ _ ?_⟩; clear hK K hR R
    have hB := hBn; have k1 := m1; have k2 := m2
    clear hBn m1 m2
    repeat
      refine RX.step (fun R hR => ?_)
      first
      | (refine RX.one_skip (by first | rfl | (rw [HO.out]; rfl)) (by simp only [RX.put_some, RX.put_none, List.set_cons_zero, List.set_cons_succ]; rfl) ?_
         refine hR _ _ ?_; clear hR R)
      | (refine RX.one_move (by first | rfl | (rw [HO.out]; rfl)) rfl (by first | exact Or.inl rfl | exact Or.inr rfl) (by simp only [RX.eval_tmp, RX.eval_const, List.getD_cons_zero, List.getD_cons_succ]; rfl) (by simp only [RX.put_some, RX.put_none, List.set_cons_zero, List.set_cons_succ]; rfl) ?_
         refine hR _ _ ?_; clear hR R)
      | (refine RX.one_nil (by first | rfl | (rw [HO.out]; rfl)) rfl rfl (by simp only [RX.eval_tmp, RX.eval_const, List.getD_cons_zero, List.getD_cons_succ]; rfl) (by simp only [RX.put_some, RX.put_none, List.set_cons_zero, List.set_cons_succ]; rfl) ?_
         refine hR _ _ ?_; clear hR R)
      | (refine RX.one_float (by first | rfl | (rw [HO.out]; rfl)) rfl rfl rfl ?_
         apply Exists.intro; apply Exists.intro
         refine ⟨fun w' hS K hK => ?_, ?_, ?_⟩
         · obtain ⟨hS1, hS2⟩ := hS; go_wp2; exact hK _ _ (by simp only [RX.arr_getD, List.getD_cons_zero, List.getD_cons_succ]; first | exact RX.dec_t (by omega) | exact RX.dec_f (by omega) | exact RX.beq_t (by omega) | exact RX.beq_f (by omega) | exact RX.bne_t (by omega) | exact RX.bne_f (by omega) | exact RX.bneB _ | rfl) rfl
         · simp only [RX.put_some, RX.put_none, List.set_cons_zero, List.set_cons_succ]; rfl
         refine hR _ _ ?_; clear hR R)
    refine RX.step (fun R hR => ?_)
    refine RX.one_chain (by first | rfl | (rw [HO.out]; rfl)) rfl (fun K hK => ?_)
    go_wp2_with fail
    refine (product_wv _ _ _ (by omega) (by omega) (by omega) (by omega)).mono ?_
    rintro e wb ⟨rfl, hb⟩
    have hBn : Below w.heap.size w wb := hB.trans (hb.mono hB.size)
    have m1 := RX.keep hb k1
    have m2 := RX.keep hb k2
    clear hb hB k1 k2
    rw [hNeg.out]
    refine hK _ _ ⟨⟨m1, m2⟩, hR _ _ ?_⟩; clear hK K hR R
    have hB := hBn; have k1 := m1; have k2 := m2
    clear hBn m1 m2
    repeat
      refine RX.step (fun R hR => ?_)
      first
      | (refine RX.one_skip (by first | rfl | (rw [HO.out]; rfl)) (by simp only [RX.put_some, RX.put_none, List.set_cons_zero, List.set_cons_succ]; rfl) ?_
         refine hR _ _ ?_; clear hR R)
      | (refine RX.one_move (by first | rfl | (rw [HO.out]; rfl)) rfl (by first | exact Or.inl rfl | exact Or.inr rfl) (by simp only [RX.eval_tmp, RX.eval_const, List.getD_cons_zero, List.getD_cons_succ]; rfl) (by simp only [RX.put_some, RX.put_none, List.set_cons_zero, List.set_cons_succ]; rfl) ?_
         refine hR _ _ ?_; clear hR R)
      | (refine RX.one_nil (by first | rfl | (rw [HO.out]; rfl)) rfl rfl (by simp only [RX.eval_tmp, RX.eval_const, List.getD_cons_zero, List.getD_cons_succ]; rfl) (by simp only [RX.put_some, RX.put_none, List.set_cons_zero, List.set_cons_succ]; rfl) ?_
         refine hR _ _ ?_; clear hR R)
      | (refine RX.one_float (by first | rfl | (rw [HO.out]; rfl)) rfl rfl rfl ?_
         apply Exists.intro; apply Exists.intro
         refine ⟨fun w' hS K hK => ?_, ?_, ?_⟩
         · obtain ⟨hS1, hS2⟩ := hS; go_wp2; exact hK _ _ (by simp only [RX.arr_getD, List.getD_cons_zero, List.getD_cons_succ]; first | exact RX.dec_t (by omega) | exact RX.dec_f (by omega) | exact RX.beq_t (by omega) | exact RX.beq_f (by omega) | exact RX.bne_t (by omega) | exact RX.bne_f (by omega) | exact RX.bneB _ | rfl) rfl
         · simp only [RX.put_some, RX.put_none, List.set_cons_zero, List.set_cons_succ]; rfl
         refine hR _ _ ?_; clear hR R)
    refine RX.step (fun R hR => ?_)
    refine RX.one_chain (by first | rfl | (rw [HO.out]; rfl)) rfl (fun K hK => ?_)
    go_wp2_with fail
    refine (product_wv _ _ _ (by omega) (by omega) (by omega) (by omega)).mono ?_
    rintro e wc ⟨rfl, hb⟩
    have hBn : Below w.heap.size w wc := hB.trans (hb.mono hB.size)
    have m1 := RX.keep hb k1
    have m2 := RX.keep hb k2
    clear hb hB k1 k2
    skip
    refine hK _ _ ⟨⟨m1, m2⟩, hR _ _ ?_⟩; clear hK K hR R
    have hB := hBn; have k1 := m1; have k2 := m2
    clear hBn m1 m2
    repeat
      refine RX.step (fun R hR => ?_)
      first
      | (refine RX.one_skip (by first | rfl | (rw [HO.out]; rfl)) (by simp only [RX.put_some, RX.put_none, List.set_cons_zero, List.set_cons_succ]; rfl) ?_
         refine hR _ _ ?_; clear hR R)
      | (refine RX.one_move (by first | rfl | (rw [HO.out]; rfl)) rfl (by first | exact Or.inl rfl | exact Or.inr rfl) (by simp only [RX.eval_tmp, RX.eval_const, List.getD_cons_zero, List.getD_cons_succ]; rfl) (by simp only [RX.put_some, RX.put_none, List.set_cons_zero, List.set_cons_succ]; rfl) ?_
         refine hR _ _ ?_; clear hR R)
      | (refine RX.one_nil (by first | rfl | (rw [HO.out]; rfl)) rfl rfl (by simp only [RX.eval_tmp, RX.eval_const, List.getD_cons_zero, List.getD_cons_succ]; rfl) (by simp only [RX.put_some, RX.put_none, List.set_cons_zero, List.set_cons_succ]; rfl) ?_
         refine hR _ _ ?_; clear hR R)
      | (refine RX.one_float (by first | rfl | (rw [HO.out]; rfl)) rfl rfl rfl ?_
         apply Exists.intro; apply Exists.intro
         refine ⟨fun w' hS K hK => ?_, ?_, ?_⟩
         · obtain ⟨hS1, hS2⟩ := hS; go_wp2; exact hK _ _ (by simp only [RX.arr_getD, List.getD_cons_zero, List.getD_cons_succ]; first | exact RX.dec_t (by omega) | exact RX.dec_f (by omega) | exact RX.beq_t (by omega) | exact RX.beq_f (by omega) | exact RX.bne_t (by omega) | exact RX.bne_f (by omega) | exact RX.bneB _ | rfl) rfl
         · simp only [RX.put_some, RX.put_none, List.set_cons_zero, List.set_cons_succ]; rfl
         refine hR _ _ ?_; clear hR R)
    refine RX.step (fun R hR => ?_)
    refine RX.one_chain (by first | rfl | (rw [HO.out]; rfl)) rfl (fun K hK => ?_)
    go_wp2_with fail
    refine (negate_any _ _).mono ?_
    rintro e wd ⟨rfl, hb⟩
    have hBn : Below w.heap.size w wd := hB.trans (hb.mono hB.size)
    have m1 := RX.keep hb k1
    have m2 := RX.keep hb k2
    clear hb hB k1 k2
    rw [hN.out]
    refine hK _ _ ⟨⟨m1, m2⟩, hR _ _ ?_⟩; clear hK K hR R
    have hB := hBn; have k1 := m1; have k2 := m2
    clear hBn m1 m2
    repeat
      refine RX.step (fun R hR => ?_)
      first
      | (refine RX.one_skip (by first | rfl | (rw [HO.out]; rfl)) (by simp only [RX.put_some, RX.put_none, List.set_cons_zero, List.set_cons_succ]; rfl) ?_
         refine hR _ _ ?_; clear hR R)
      | (refine RX.one_move (by first | rfl | (rw [HO.out]; rfl)) rfl (by first | exact Or.inl rfl | exact Or.inr rfl) (by simp only [RX.eval_tmp, RX.eval_const, List.getD_cons_zero, List.getD_cons_succ]; rfl) (by simp only [RX.put_some, RX.put_none, List.set_cons_zero, List.set_cons_succ]; rfl) ?_
         refine hR _ _ ?_; clear hR R)
      | (refine RX.one_nil (by first | rfl | (rw [HO.out]; rfl)) rfl rfl (by simp only [RX.eval_tmp, RX.eval_const, List.getD_cons_zero, List.getD_cons_succ]; rfl) (by simp only [RX.put_some, RX.put_none, List.set_cons_zero, List.set_cons_succ]; rfl) ?_
         refine hR _ _ ?_; clear hR R)
      | (refine RX.one_float (by first | rfl | (rw [HO.out]; rfl)) rfl rfl rfl ?_
         apply Exists.intro; apply Exists.intro
         refine ⟨fun w' hS K hK => ?_, ?_, ?_⟩
         · obtain ⟨hS1, hS2⟩ := hS; go_wp2; exact hK _ _ (by simp only [RX.arr_getD, List.getD_cons_zero, List.getD_cons_succ]; first | exact RX.dec_t (by omega) | exact RX.dec_f (by omega) | exact RX.beq_t (by omega) | exact RX.beq_f (by omega) | exact RX.bne_t (by omega) | exact RX.bne_f (by omega) | exact RX.bneB _ | rfl) rfl
         · simp only [RX.put_some, RX.put_none, List.set_cons_zero, List.set_cons_succ]; rfl
         refine hR _ _ ?_; clear hR R)
    refine RX.step (fun R hR => ?_)
    refine RX.one_chain (by first | rfl | (rw [HO.out]; rfl)) rfl (fun K hK => ?_)
    go_wp2_with fail
    refine (negate_at _ _ hS.out.symm _).mono ?_
    rintro e we ⟨rfl, hb⟩
    have hBn : Below w.heap.size w we := hB.trans (hb.mono hB.size)
    have m1 := RX.keep hb k1
    have m2 := RX.keep hb k2
    clear hb hB k1 k2
    skip
    refine hK _ _ ⟨⟨m1, m2⟩, hR _ _ ?_⟩; clear hK K hR R
    have hB := hBn; have k1 := m1; have k2 := m2
    clear hBn m1 m2
    repeat
      refine RX.step (fun R hR => ?_)
      first
      | (refine RX.one_skip (by first | rfl | (rw [HO.out]; rfl)) (by simp only [RX.put_some, RX.put_none, List.set_cons_zero, List.set_cons_succ]; rfl) ?_
         refine hR _ _ ?_; clear hR R)
      | (refine RX.one_move (by first | rfl | (rw [HO.out]; rfl)) rfl (by first | exact Or.inl rfl | exact Or.inr rfl) (by simp only [RX.eval_tmp, RX.eval_const, List.getD_cons_zero, List.getD_cons_succ]; rfl) (by simp only [RX.put_some, RX.put_none, List.set_cons_zero, List.set_cons_succ]; rfl) ?_
         refine hR _ _ ?_; clear hR R)
      | (refine RX.one_nil (by first | rfl | (rw [HO.out]; rfl)) rfl rfl (by simp only [RX.eval_tmp, RX.eval_const, List.getD_cons_zero, List.getD_cons_succ]; rfl) (by simp only [RX.put_some, RX.put_none, List.set_cons_zero, List.set_cons_succ]; rfl) ?_
         refine hR _ _ ?_; clear hR R)
      | (refine RX.one_float (by first | rfl | (rw [HO.out]; rfl)) rfl rfl rfl ?_
         apply Exists.intro; apply Exists.intro
         refine ⟨fun w' hS K hK => ?_, ?_, ?_⟩
         · obtain ⟨hS1, hS2⟩ := hS; go_wp2; exact hK _ _ (by simp only [RX.arr_getD, List.getD_cons_zero, List.getD_cons_succ]; first | exact RX.dec_t (by omega) | exact RX.dec_f (by omega) | exact RX.beq_t (by omega) | exact RX.beq_f (by omega) | exact RX.bne_t (by omega) | exact RX.bne_f (by omega) | exact RX.bneB _ | rfl) rfl
         · simp only [RX.put_some, RX.put_none, List.set_cons_zero, List.set_cons_succ]; rfl
         refine hR _ _ ?_; clear hR R)
    refine RX.step (fun R hR => ?_)
    refine RX.one_chain (by first | rfl | (rw [HO.out]; rfl)) rfl (fun K hK => ?_)
    go_wp2_with fail
    refine (add_at _ _ _ _ hS.out.symm rfl _).mono ?_
    rintro e wf ⟨rfl, hb⟩
    have hBn : Below w.heap.size w wf := hB.trans (hb.mono hB.size)
    have m1 := RX.keep hb k1
    have m2 := RX.keep hb k2
    clear hb hB k1 k2
    rw [hZero.out]
    refine hK _ _ ⟨⟨m1, m2⟩, hR _ _ ?_⟩; clear hK K hR R
    have hB := hBn; have k1 := m1; have k2 := m2
    clear hBn m1 m2
    repeat
      refine RX.step (fun R hR => ?_)
      first
      | (refine RX.one_skip (by first | rfl | (rw [HO.out]; rfl)) (by simp only [RX.put_some, RX.put_none, List.set_cons_zero, List.set_cons_succ]; rfl) ?_
         refine hR _ _ ?_; clear hR R)
      | (refine RX.one_move (by first | rfl | (rw [HO.out]; rfl)) rfl (by first | exact Or.inl rfl | exact Or.inr rfl) (by simp only [RX.eval_tmp, RX.eval_const, List.getD_cons_zero, List.getD_cons_succ]; rfl) (by simp only [RX.put_some, RX.put_none, List.set_cons_zero, List.set_cons_succ]; rfl) ?_
         refine hR _ _ ?_; clear hR R)
      | (refine RX.one_nil (by first | rfl | (rw [HO.out]; rfl)) rfl rfl (by simp only [RX.eval_tmp, RX.eval_const, List.getD_cons_zero, List.getD_cons_succ]; rfl) (by simp only [RX.put_some, RX.put_none, List.set_cons_zero, List.set_cons_succ]; rfl) ?_
         refine hR _ _ ?_; clear hR R)
      | (refine RX.one_float (by first | rfl | (rw [HO.out]; rfl)) rfl rfl rfl ?_
         apply Exists.intro; apply Exists.intro
         refine ⟨fun w' hS K hK => ?_, ?_, ?_⟩
         · obtain ⟨hS1, hS2⟩ := hS; go_wp2; exact hK _ _ (by simp only [RX.arr_getD, List.getD_cons_zero, List.getD_cons_succ]; first | exact RX.dec_t (by omega) | exact RX.dec_f (by omega) | exact RX.beq_t (by omega) | exact RX.beq_f (by omega) | exact RX.bne_t (by omega) | exact RX.bne_f (by omega) | exact RX.bneB _ | rfl) rfl
         · simp only [RX.put_some, RX.put_none, List.set_cons_zero, List.set_cons_succ]; rfl
         refine hR _ _ ?_; clear hR R)
    refine RX.step (fun R hR => ?_)
    refine RX.one_chain (by first | rfl | (rw [HO.out]; rfl)) rfl (fun K hK => ?_)
    go_wp2_with fail
    refine (wide_any _ (by omega) (by omega) _).mono ?_
    rintro e wg ⟨rfl, hb⟩
    have hBn : Below w.heap.size w wg := hB.trans (hb.mono hB.size)
    have m1 := RX.keep hb k1
    have m2 := RX.keep hb k2
    clear hb hB k1 k2
    skip
    refine hK _ _ ⟨⟨m1, m2⟩, hR _ _ ?_⟩; clear hK K hR R
    have hB := hBn; have k1 := m1; have k2 := m2
    clear hBn m1 m2
    repeat
      refine RX.step (fun R hR => ?_)
      first
      | (refine RX.one_skip (by first | rfl | (rw [HO.out]; rfl)) (by simp only [RX.put_some, RX.put_none, List.set_cons_zero, List.set_cons_succ]; rfl) ?_
         refine hR _ _ ?_; clear hR R)
      | (refine RX.one_move (by first | rfl | (rw [HO.out]; rfl)) rfl (by first | exact Or.inl rfl | exact Or.inr rfl) (by simp only [RX.eval_tmp, RX.eval_const, List.getD_cons_zero, List.getD_cons_succ]; rfl) (by simp only [RX.put_some, RX.put_none, List.set_cons_zero, List.set_cons_succ]; rfl) ?_
         refine hR _ _ ?_; clear hR R)
      | (refine RX.one_nil (by first | rfl | (rw [HO.out]; rfl)) rfl rfl (by simp only [RX.eval_tmp, RX.eval_const, List.getD_cons_zero, List.getD_cons_succ]; rfl) (by simp only [RX.put_some, RX.put_none, List.set_cons_zero, List.set_cons_succ]; rfl) ?_
         refine hR _ _ ?_; clear hR R)
      | (refine RX.one_float (by first | rfl | (rw [HO.out]; rfl)) rfl rfl rfl ?_
         apply Exists.intro; apply Exists.intro
         refine ⟨fun w' hS K hK => ?_, ?_, ?_⟩
         · obtain ⟨hS1, hS2⟩ := hS; go_wp2; exact hK _ _ (by simp only [RX.arr_getD, List.getD_cons_zero, List.getD_cons_succ]; first | exact RX.dec_t (by omega) | exact RX.dec_f (by omega) | exact RX.beq_t (by omega) | exact RX.beq_f (by omega) | exact RX.bne_t (by omega) | exact RX.bne_f (by omega) | exact RX.bneB _ | rfl) rfl
         · simp only [RX.put_some, RX.put_none, List.set_cons_zero, List.set_cons_succ]; rfl
         refine hR _ _ ?_; clear hR R)
    refine RX.step (fun R hR => ?_)
    refine RX.one_chain (by first | rfl | (rw [HO.out]; rfl)) rfl (fun K hK => ?_)
    go_wp2_with fail
    refine (wide_any _ (by omega) (by omega) _).mono ?_
    rintro e wh ⟨rfl, hb⟩
    have hBn : Below w.heap.size w wh := hB.trans (hb.mono hB.size)
    have m1 := RX.keep hb k1
    have m2 := RX.keep hb k2
    clear hb hB k1 k2
    skip
    refine hK _ _ ⟨⟨m1, m2⟩, hR _ _ ?_⟩; clear hK K hR R
    have hB := hBn; have k1 := m1; have k2 := m2
    clear hBn m1 m2
    repeat
      refine RX.step (fun R hR => ?_)
      first
      | (refine RX.one_skip (by first | rfl | (rw [HO.out]; rfl)) (by simp only [RX.put_some, RX.put_none, List.set_cons_zero, List.set_cons_succ]; rfl) ?_
         refine hR _ _ ?_; clear hR R)
      | (refine RX.one_move (by first | rfl | (rw [HO.out]; rfl)) rfl (by first | exact Or.inl rfl | exact Or.inr rfl) (by simp only [RX.eval_tmp, RX.eval_const, List.getD_cons_zero, List.getD_cons_succ]; rfl) (by simp only [RX.put_some, RX.put_none, List.set_cons_zero, List.set_cons_succ]; rfl) ?_
         refine hR _ _ ?_; clear hR R)
      | (refine RX.one_nil (by first | rfl | (rw [HO.out]; rfl)) rfl rfl (by simp only [RX.eval_tmp, RX.eval_const, List.getD_cons_zero, List.getD_cons_succ]; rfl) (by simp only [RX.put_some, RX.put_none, List.set_cons_zero, List.set_cons_succ]; rfl) ?_
         refine hR _ _ ?_; clear hR R)
      | (refine RX.one_float (by first | rfl | (rw [HO.out]; rfl)) rfl rfl rfl ?_
         apply Exists.intro; apply Exists.intro
         refine ⟨fun w' hS K hK => ?_, ?_, ?_⟩
         · obtain ⟨hS1, hS2⟩ := hS; go_wp2; exact hK _ _ (by simp only [RX.arr_getD, List.getD_cons_zero, List.getD_cons_succ]; first | exact RX.dec_t (by omega) | exact RX.dec_f (by omega) | exact RX.beq_t (by omega) | exact RX.beq_f (by omega) | exact RX.bne_t (by omega) | exact RX.bne_f (by omega) | exact RX.bneB _ | rfl) rfl
         · simp only [RX.put_some, RX.put_none, List.set_cons_zero, List.set_cons_succ]; rfl
         refine hR _ _ ?_; clear hR R)
    refine RX.step (fun R hR => ?_)
    refine RX.one_chain (by first | rfl | (rw [HO.out]; rfl)) rfl (fun K hK => ?_)
    go_wp2_with fail
    refine (compare_wv _ _ _ (by omega) (by omega) (by omega) (by omega)).mono ?_
    rintro e wi ⟨rfl, hb⟩
    have hBn : Below w.heap.size w wi := hB.trans (hb.mono hB.size)
    have m1 := RX.keep hb k1
    have m2 := RX.keep hb k2
    clear hb hB k1 k2
    rw [hs]
    refine hK _ _ ⟨⟨m1, m2⟩, hR _ _ ?_⟩; clear hK K hR R
    have hB := hBn; have k1 := m1; have k2 := m2
    clear hBn m1 m2
    repeat
      refine RX.step (fun R hR => ?_)
      first
      | (refine RX.one_skip (by first | rfl | (rw [HO.out]; rfl)) (by simp only [RX.put_some, RX.put_none, List.set_cons_zero, List.set_cons_succ]; rfl) ?_
         refine hR _ _ ?_; clear hR R)
      | (refine RX.one_move (by first | rfl | (rw [HO.out]; rfl)) rfl (by first | exact Or.inl rfl | exact Or.inr rfl) (by simp only [RX.eval_tmp, RX.eval_const, List.getD_cons_zero, List.getD_cons_succ]; rfl) (by simp only [RX.put_some, RX.put_none, List.set_cons_zero, List.set_cons_succ]; rfl) ?_
         refine hR _ _ ?_; clear hR R)
      | (refine RX.one_nil (by first | rfl | (rw [HO.out]; rfl)) rfl rfl (by simp only [RX.eval_tmp, RX.eval_const, List.getD_cons_zero, List.getD_cons_succ]; rfl) (by simp only [RX.put_some, RX.put_none, List.set_cons_zero, List.set_cons_succ]; rfl) ?_
         refine hR _ _ ?_; clear hR R)
      | (refine RX.one_float (by first | rfl | (rw [HO.out]; rfl)) rfl rfl rfl ?_
         apply Exists.intro; apply Exists.intro
         refine ⟨fun w' hS K hK => ?_, ?_, ?_⟩
         · obtain ⟨hS1, hS2⟩ := hS; go_wp2; exact hK _ _ (by simp only [RX.arr_getD, List.getD_cons_zero, List.getD_cons_succ]; first | exact RX.dec_t (by omega) | exact RX.dec_f (by omega) | exact RX.beq_t (by omega) | exact RX.beq_f (by omega) | exact RX.bne_t (by omega) | exact RX.bne_f (by omega) | exact RX.bneB _ | rfl) rfl
         · simp only [RX.put_some, RX.put_none, List.set_cons_zero, List.set_cons_succ]; rfl
         refine hR _ _ ?_; clear hR R)
    refine RX.step (fun R hR => ?_)
    refine RX.one_chain (by first | rfl | (rw [HO.out]; rfl)) rfl (fun K hK => ?_)
    go_wp2_with fail
    refine (product_wv _ _ _ (by omega) (by omega) (by omega) (by omega)).mono ?_
    rintro e wj ⟨rfl, hb⟩
    have hBn : Below w.heap.size w wj := hB.trans (hb.mono hB.size)
    have m1 := RX.keep hb k1
    have m2 := RX.keep hb k2
    clear hb hB k1 k2
    skip
    refine hK _ _ ⟨⟨m1, m2⟩, hR _ _ ?_⟩; clear hK K hR R
    have hB := hBn; have k1 := m1; have k2 := m2
    clear hBn m1 m2
    repeat
      refine RX.step (fun R hR => ?_)
      first
      | (refine RX.one_skip (by first | rfl | (rw [HO.out]; rfl)) (by simp only [RX.put_some, RX.put_none, List.set_cons_zero, List.set_cons_succ]; rfl) ?_
         refine hR _ _ ?_; clear hR R)
      | (refine RX.one_move (by first | rfl | (rw [HO.out]; rfl)) rfl (by first | exact Or.inl rfl | exact Or.inr rfl) (by simp only [RX.eval_tmp, RX.eval_const, List.getD_cons_zero, List.getD_cons_succ]; rfl) (by simp only [RX.put_some, RX.put_none, List.set_cons_zero, List.set_cons_succ]; rfl) ?_
         refine hR _ _ ?_; clear hR R)
      | (refine RX.one_nil (by first | rfl | (rw [HO.out]; rfl)) rfl rfl (by simp only [RX.eval_tmp, RX.eval_const, List.getD_cons_zero, List.getD_cons_succ]; rfl) (by simp only [RX.put_some, RX.put_none, List.set_cons_zero, List.set_cons_succ]; rfl) ?_
         refine hR _ _ ?_; clear hR R)
      | (refine RX.one_float (by first | rfl | (rw [HO.out]; rfl)) rfl rfl rfl ?_
         apply Exists.intro; apply Exists.intro
         refine ⟨fun w' hS K hK => ?_, ?_, ?_⟩
         · obtain ⟨hS1, hS2⟩ := hS; go_wp2; exact hK _ _ (by simp only [RX.arr_getD, List.getD_cons_zero, List.getD_cons_succ]; first | exact RX.dec_t (by omega) | exact RX.dec_f (by omega) | exact RX.beq_t (by omega) | exact RX.beq_f (by omega) | exact RX.bne_t (by omega) | exact RX.bne_f (by omega) | exact RX.bneB _ | rfl) rfl
         · simp only [RX.put_some, RX.put_none, List.set_cons_zero, List.set_cons_succ]; rfl
         refine hR _ _ ?_; clear hR R)
    refine RX.step (fun R hR => ?_)
    refine RX.one_chain (by first | rfl | (rw [HO.out]; rfl)) rfl (fun K hK => ?_)
    go_wp2_with fail
    refine (compare_at _ _ _ wv_zero.symm _ (by have := hsq.out; omega) (by have := hsq.out; omega) rfl).mono ?_
    rintro e wk ⟨rfl, hb⟩
    have hBn : Below w.heap.size w wk := hB.trans (hb.mono hB.size)
    have m1 := RX.keep hb k1
    have m2 := RX.keep hb k2
    clear hb hB k1 k2
    skip
    refine hK _ _ ⟨⟨m1, m2⟩, hR _ _ ?_⟩; clear hK K hR R
    have hB := hBn; have k1 := m1; have k2 := m2
    clear hBn m1 m2
    repeat
      refine RX.step (fun R hR => ?_)
      first
      | (refine RX.one_skip (by first | rfl | (rw [HO.out]; rfl)) (by simp only [RX.put_some, RX.put_none, List.set_cons_zero, List.set_cons_succ]; rfl) ?_
         refine hR _ _ ?_; clear hR R)
      | (refine RX.one_move (by first | rfl | (rw [HO.out]; rfl)) rfl (by first | exact Or.inl rfl | exact Or.inr rfl) (by simp only [RX.eval_tmp, RX.eval_const, List.getD_cons_zero, List.getD_cons_succ]; rfl) (by simp only [RX.put_some, RX.put_none, List.set_cons_zero, List.set_cons_succ]; rfl) ?_
         refine hR _ _ ?_; clear hR R)
      | (refine RX.one_nil (by first | rfl | (rw [HO.out]; rfl)) rfl rfl (by simp only [RX.eval_tmp, RX.eval_const, List.getD_cons_zero, List.getD_cons_succ]; rfl) (by simp only [RX.put_some, RX.put_none, List.set_cons_zero, List.set_cons_succ]; rfl) ?_
         refine hR _ _ ?_; clear hR R)
      | (refine RX.one_float (by first | rfl | (rw [HO.out]; rfl)) rfl rfl rfl ?_
         apply Exists.intro; apply Exists.intro
         refine ⟨fun w' hS K hK => ?_, ?_, ?_⟩
         · obtain ⟨hS1, hS2⟩ := hS; go_wp2; exact hK _ _ (by simp only [RX.arr_getD, List.getD_cons_zero, List.getD_cons_succ]; first | exact RX.dec_t (by omega) | exact RX.dec_f (by omega) | exact RX.beq_t (by omega) | exact RX.beq_f (by omega) | exact RX.bne_t (by omega) | exact RX.bne_f (by omega) | exact RX.bneB _ | rfl) rfl
         · simp only [RX.put_some, RX.put_none, List.set_cons_zero, List.set_cons_succ]; rfl
         refine hR _ _ ?_; clear hR R)
    refine RX.wpL_nil (hQR _ _ (⟨k1, k2⟩) ?_); clear hQR QR HO OPS
    go_wp2
    go_ret
    rw [decide_eq_true hnn.out]
    exact ⟨rfl, hB⟩
  · go_wp2
    have hB : Below w.heap.size w (w4.alloc (.cells #[.int .i64 H, .int .u64 L] 58)) := hB4.alloc hB4.size _
    have k1 : (w4.alloc (.cells #[.int .i64 H, .int .u64 L] 58)).cell? ⟨w4.heap.size, 0, none⟩ = some (.int .i64 H) := (by simp [RX.cell_drew, RX.cell_alloc, Nat.add_assoc])
    have k2 : (w4.alloc (.cells #[.int .i64 H, .int .u64 L] 58)).cell? ⟨w4.heap.size, 1, none⟩ = some (.int .u64 L) := (by simp [RX.cell_drew, RX.cell_alloc, Nat.add_assoc])
    generalize (w4.alloc (.cells #[.int .i64 H, .int .u64 L] 58)) = W0 at *
    generalize w4.heap.size = g at *
    clear hB4
    refine RX.region RX.fL (fun w' => w'.cell? ⟨g, 0, none⟩ = some (.int .i64 H) ∧ w'.cell? ⟨g, 1, none⟩ = some (.int .u64 L)) (by kernel_rfl) (by kernel_rfl) (⟨k1, k2⟩) (fun OPS HO QR hQR => ?_)
    have hB := hB.drew
    repeat
      refine RX.step (fun R hR => ?_)
      first
      | (refine RX.one_skip (by first | rfl | (rw [HO.out]; rfl)) (by simp only [RX.put_some, RX.put_none, List.set_cons_zero, List.set_cons_succ]; rfl) ?_
         refine hR _ _ ?_; clear hR R)
      | (refine RX.one_move (by first | rfl | (rw [HO.out]; rfl)) rfl (by first | exact Or.inl rfl | exact Or.inr rfl) (by simp only [RX.eval_tmp, RX.eval_const, List.getD_cons_zero, List.getD_cons_succ]; rfl) (by simp only [RX.put_some, RX.put_none, List.set_cons_zero, List.set_cons_succ]; rfl) ?_
         refine hR _ _ ?_; clear hR R)
      | (refine RX.one_nil (by first | rfl | (rw [HO.out]; rfl)) rfl rfl (by simp only [RX.eval_tmp, RX.eval_const, List.getD_cons_zero, List.getD_cons_succ]; rfl) (by simp only [RX.put_some, RX.put_none, List.set_cons_zero, List.set_cons_succ]; rfl) ?_
         refine hR _ _ ?_; clear hR R)
      | (refine RX.one_float (by first | rfl | (rw [HO.out]; rfl)) rfl rfl rfl ?_
         apply Exists.intro; apply Exists.intro
         refine ⟨fun w' hS K hK => ?_, ?_, ?_⟩
         · obtain ⟨hS1, hS2⟩ := hS; go_wp2; exact hK _ _ (by simp only [RX.arr_getD, List.getD_cons_zero, List.getD_cons_succ]; first | exact RX.dec_t (by omega) | exact RX.dec_f (by omega) | exact RX.beq_t (by omega) | exact RX.beq_f (by omega) | exact RX.bne_t (by omega) | exact RX.bne_f (by omega) | exact RX.bneB _ | rfl) rfl
         · simp only [RX.put_some, RX.put_none, List.set_cons_zero, List.set_cons_succ]; rfl
         refine hR _ _ ?_; clear hR R)
    refine RX.step (fun R hR => ?_)
    refine RX.one_chain (by first | rfl | (rw [HO.out]; rfl)) rfl (fun K hK => ?_)
    go_wp2_with fail
    refine (product_wv _ _ _ (by omega) (by omega) (by omega) (by omega)).mono ?_
    rintro e wa ⟨rfl, hb⟩
    have hBn : Below w.heap.size w wa := hB.trans (hb.mono hB.size)
    have m1 := RX.keep hb k1
    have m2 := RX.keep hb k2
    clear hb hB k1 k2
    rw [hSum.out]
    refine hK _ _ ⟨⟨m1, m2⟩, hR _ _ ?_⟩; clear hK K hR R
    have hB := hBn; have k1 := m1; have k2 := m2
    clear hBn m1 m2
    repeat
      refine RX.step (fun R hR => ?_)
      first
      | (refine RX.one_skip (by first | rfl | (rw [HO.out]; rfl)) (by simp only [RX.put_some, RX.put_none, List.set_cons_zero, List.set_cons_succ]; rfl) ?_
         refine hR _ _ ?_; clear hR R)
      | (refine RX.one_move (by first | rfl | (rw [HO.out]; rfl)) rfl (by first | exact Or.inl rfl | exact Or.inr rfl) (by simp only [RX.eval_tmp, RX.eval_const, List.getD_cons_zero, List.getD_cons_succ]; rfl) (by simp only [RX.put_some, RX.put_none, List.set_cons_zero, List.set_cons_succ]; rfl) ?_
         refine hR _ _ ?_; clear hR R)
      | (refine RX.one_nil (by first | rfl | (rw [HO.out]; rfl)) rfl rfl (by simp only [RX.eval_tmp, RX.eval_const, List.getD_cons_zero, List.getD_cons_succ]; rfl) (by simp only [RX.put_some, RX.put_none, List.set_cons_zero, List.set_cons_succ]; rfl) ?_
         refine hR _ _ ?_; clear hR R)
      | (refine RX.one_float (by first | rfl | (rw [HO.out]; rfl)) rfl rfl rfl ?_
         apply Exists.intro; apply Exists.intro
         refine ⟨fun w' hS K hK => ?_, ?_, ?_⟩
         · obtain ⟨hS1, hS2⟩ := hS; go_wp2; exact hK _ _ (by simp only [RX.arr_getD, List.getD_cons_zero, List.getD_cons_succ]; first | exact RX.dec_t (by omega) | exact RX.dec_f (by omega) | exact RX.beq_t (by omega) | exact RX.beq_f (by omega) | exact RX.bne_t (by omega) | exact RX.bne_f (by omega) | exact RX.bneB _ | rfl) rfl
         · simp only [RX.put_some, RX.put_none, List.set_cons_zero, List.set_cons_succ]; rfl
         refine hR _ _ ?_; clear hR R)
    refine RX.step (fun R hR => ?_)
    refine RX.one_chain (by first | rfl | (rw [HO.out]; rfl)) rfl (fun K hK => ?_)
    go_wp2_with fail
    refine (product_wv _ _ _ (by omega) (by omega) (by omega) (by omega)).mono ?_
    rintro e wb ⟨rfl, hb⟩
    have hBn : Below w.heap.size w wb := hB.trans (hb.mono hB.size)
    have m1 := RX.keep hb k1
    have m2 := RX.keep hb k2
    clear hb hB k1 k2
    rw [hNeg.out]
    refine hK _ _ ⟨⟨m1, m2⟩, hR _ _ ?_⟩; clear hK K hR R
    have hB := hBn; have k1 := m1; have k2 := m2
    clear hBn m1 m2
    repeat
      refine RX.step (fun R hR => ?_)
      first
      | (refine RX.one_skip (by first | rfl | (rw [HO.out]; rfl)) (by simp only [RX.put_some, RX.put_none, List.set_cons_zero, List.set_cons_succ]; rfl) ?_
         refine hR _ _ ?_; clear hR R)
      | (refine RX.one_move (by first | rfl | (rw [HO.out]; rfl)) rfl (by first | exact Or.inl rfl | exact Or.inr rfl) (by simp only [RX.eval_tmp, RX.eval_const, List.getD_cons_zero, List.getD_cons_succ]; rfl) (by simp only [RX.put_some, RX.put_none, List.set_cons_zero, List.set_cons_succ]; rfl) ?_
         refine hR _ _ ?_; clear hR R)
      | (refine RX.one_nil (by first | rfl | (rw [HO.out]; rfl)) rfl rfl (by simp only [RX.eval_tmp, RX.eval_const, List.getD_cons_zero, List.getD_cons_succ]; rfl) (by simp only [RX.put_some, RX.put_none, List.set_cons_zero, List.set_cons_succ]; rfl) ?_
         refine hR _ _ ?_; clear hR R)
      | (refine RX.one_float (by first | rfl | (rw [HO.out]; rfl)) rfl rfl rfl ?_
         apply Exists.intro; apply Exists.intro
         refine ⟨fun w' hS K hK => ?_, ?_, ?_⟩
         · obtain ⟨hS1, hS2⟩ := hS; go_wp2; exact hK _ _ (by simp only [RX.arr_getD, List.getD_cons_zero, List.getD_cons_succ]; first | exact RX.dec_t (by omega) | exact RX.dec_f (by omega) | exact RX.beq_t (by omega) | exact RX.beq_f (by omega) | exact RX.bne_t (by omega) | exact RX.bne_f (by omega) | exact RX.bneB _ | rfl) rfl
         · simp only [RX.put_some, RX.put_none, List.set_cons_zero, List.set_cons_succ]; rfl
         refine hR _ _ ?_; clear hR R)
    refine RX.step (fun R hR => ?_)
    refine RX.one_chain (by first | rfl | (rw [HO.out]; rfl)) rfl (fun K hK => ?_)
    go_wp2_with fail
    refine (product_wv _ _ _ (by omega) (by omega) (by omega) (by omega)).mono ?_
    rintro e wc ⟨rfl, hb⟩
    have hBn : Below w.heap.size w wc := hB.trans (hb.mono hB.size)
    have m1 := RX.keep hb k1
    have m2 := RX.keep hb k2
    clear hb hB k1 k2
    skip
    refine hK _ _ ⟨⟨m1, m2⟩, hR _ _ ?_⟩; clear hK K hR R
    have hB := hBn; have k1 := m1; have k2 := m2
    clear hBn m1 m2
    repeat
      refine RX.step (fun R hR => ?_)
      first
      | (refine RX.one_skip (by first | rfl | (rw [HO.out]; rfl)) (by simp only [RX.put_some, RX.put_none, List.set_cons_zero, List.set_cons_succ]; rfl) ?_
         refine hR _ _ ?_; clear hR R)
      | (refine RX.one_move (by first | rfl | (rw [HO.out]; rfl)) rfl (by first | exact Or.inl rfl | exact Or.inr rfl) (by simp only [RX.eval_tmp, RX.eval_const, List.getD_cons_zero, List.getD_cons_succ]; rfl) (by simp only [RX.put_some, RX.put_none, List.set_cons_zero, List.set_cons_succ]; rfl) ?_
         refine hR _ _ ?_; clear hR R)
      | (refine RX.one_nil (by first | rfl | (rw [HO.out]; rfl)) rfl rfl (by simp only [RX.eval_tmp, RX.eval_const, List.getD_cons_zero, List.getD_cons_succ]; rfl) (by simp only [RX.put_some, RX.put_none, List.set_cons_zero, List.set_cons_succ]; rfl) ?_
         refine hR _ _ ?_; clear hR R)
      | (refine RX.one_float (by first | rfl | (rw [HO.out]; rfl)) rfl rfl rfl ?_
         apply Exists.intro; apply Exists.intro
         refine ⟨fun w' hS K hK => ?_, ?_, ?_⟩
         · obtain ⟨hS1, hS2⟩ := hS; go_wp2; exact hK _ _ (by simp only [RX.arr_getD, List.getD_cons_zero, List.getD_cons_succ]; first | exact RX.dec_t (by omega) | exact RX.dec_f (by omega) | exact RX.beq_t (by omega) | exact RX.beq_f (by omega) | exact RX.bne_t (by omega) | exact RX.bne_f (by omega) | exact RX.bneB _ | rfl) rfl
         · simp only [RX.put_some, RX.put_none, List.set_cons_zero, List.set_cons_succ]; rfl
         refine hR _ _ ?_; clear hR R)
    refine RX.step (fun R hR => ?_)
    refine RX.one_chain (by first | rfl | (rw [HO.out]; rfl)) rfl (fun K hK => ?_)
    go_wp2_with fail
    refine (negate_any _ _).mono ?_
    rintro e wd ⟨rfl, hb⟩
    have hBn : Below w.heap.size w wd := hB.trans (hb.mono hB.size)
    have m1 := RX.keep hb k1
    have m2 := RX.keep hb k2
    clear hb hB k1 k2
    rw [hN.out]
    refine hK _ _ ⟨⟨m1, m2⟩, hR _ _ ?_⟩; clear hK K hR R
    have hB := hBn; have k1 := m1; have k2 := m2
    clear hBn m1 m2
    repeat
      refine RX.step (fun R hR => ?_)
      first
      | (refine RX.one_skip (by first | rfl | (rw [HO.out]; rfl)) (by simp only [RX.put_some, RX.put_none, List.set_cons_zero, List.set_cons_succ]; rfl) ?_
         refine hR _ _ ?_; clear hR R)
      | (refine RX.one_move (by first | rfl | (rw [HO.out]; rfl)) rfl (by first | exact Or.inl rfl | exact Or.inr rfl) (by simp only [RX.eval_tmp, RX.eval_const, List.getD_cons_zero, List.getD_cons_succ]; rfl) (by simp only [RX.put_some, RX.put_none, List.set_cons_zero, List.set_cons_succ]; rfl) ?_
         refine hR _ _ ?_; clear hR R)
      | (refine RX.one_nil (by first | rfl | (rw [HO.out]; rfl)) rfl rfl (by simp only [RX.eval_tmp, RX.eval_const, List.getD_cons_zero, List.getD_cons_succ]; rfl) (by simp only [RX.put_some, RX.put_none, List.set_cons_zero, List.set_cons_succ]; rfl) ?_
         refine hR _ _ ?_; clear hR R)
      | (refine RX.one_float (by first | rfl | (rw [HO.out]; rfl)) rfl rfl rfl ?_
         apply Exists.intro; apply Exists.intro
         refine ⟨fun w' hS K hK => ?_, ?_, ?_⟩
         · obtain ⟨hS1, hS2⟩ := hS; go_wp2; exact hK _ _ (by simp only [RX.arr_getD, List.getD_cons_zero, List.getD_cons_succ]; first | exact RX.dec_t (by omega) | exact RX.dec_f (by omega) | exact RX.beq_t (by omega) | exact RX.beq_f (by omega) | exact RX.bne_t (by omega) | exact RX.bne_f (by omega) | exact RX.bneB _ | rfl) rfl
         · simp only [RX.put_some, RX.put_none, List.set_cons_zero, List.set_cons_succ]; rfl
         refine hR _ _ ?_; clear hR R)
    refine RX.step (fun R hR => ?_)
    refine RX.one_chain (by first | rfl | (rw [HO.out]; rfl)) rfl (fun K hK => ?_)
    go_wp2_with fail
    refine (negate_at _ _ hS.out.symm _).mono ?_
    rintro e we ⟨rfl, hb⟩
    have hBn : Below w.heap.size w we := hB.trans (hb.mono hB.size)
    have m1 := RX.keep hb k1
    have m2 := RX.keep hb k2
    clear hb hB k1 k2
    skip
    refine hK _ _ ⟨⟨m1, m2⟩, hR _ _ ?_⟩; clear hK K hR R
    have hB := hBn; have k1 := m1; have k2 := m2
    clear hBn m1 m2
    repeat
      refine RX.step (fun R hR => ?_)
      first
      | (refine RX.one_skip (by first | rfl | (rw [HO.out]; rfl)) (by simp only [RX.put_some, RX.put_none, List.set_cons_zero, List.set_cons_succ]; rfl) ?_
         refine hR _ _ ?_; clear hR R)
      | (refine RX.one_move (by first | rfl | (rw [HO.out]; rfl)) rfl (by first | exact Or.inl rfl | exact Or.inr rfl) (by simp only [RX.eval_tmp, RX.eval_const, List.getD_cons_zero, List.getD_cons_succ]; rfl) (by simp only [RX.put_some, RX.put_none, List.set_cons_zero, List.set_cons_succ]; rfl) ?_
         refine hR _ _ ?_; clear hR R)
      | (refine RX.one_nil (by first | rfl | (rw [HO.out]; rfl)) rfl rfl (by simp only [RX.eval_tmp, RX.eval_const, List.getD_cons_zero, List.getD_cons_succ]; rfl) (by simp only [RX.put_some, RX.put_none, List.set_cons_zero, List.set_cons_succ]; rfl) ?_
         refine hR _ _ ?_; clear hR R)
      | (refine RX.one_float (by first | rfl | (rw [HO.out]; rfl)) rfl rfl rfl ?_
         apply Exists.intro; apply Exists.intro
         refine ⟨fun w' hS K hK => ?_, ?_, ?_⟩
         · obtain ⟨hS1, hS2⟩ := hS; go_wp2; exact hK _ _ (by simp only [RX.arr_getD, List.getD_cons_zero, List.getD_cons_succ]; first | exact RX.dec_t (by omega) | exact RX.dec_f (by omega) | exact RX.beq_t (by omega) | exact RX.beq_f (by omega) | exact RX.bne_t (by omega) | exact RX.bne_f (by omega) | exact RX.bneB _ | rfl) rfl
         · simp only [RX.put_some, RX.put_none, List.set_cons_zero, List.set_cons_succ]; rfl
         refine hR _ _ ?_; clear hR R)
    refine RX.step (fun R hR => ?_)
    refine RX.one_chain (by first | rfl | (rw [HO.out]; rfl)) rfl (fun K hK => ?_)
    go_wp2_with fail
    refine (add_at _ _ _ _ hS.out.symm rfl _).mono ?_
    rintro e wf ⟨rfl, hb⟩
    have hBn : Below w.heap.size w wf := hB.trans (hb.mono hB.size)
    have m1 := RX.keep hb k1
    have m2 := RX.keep hb k2
    clear hb hB k1 k2
    rw [hZero.out]
    refine hK _ _ ⟨⟨m1, m2⟩, hR _ _ ?_⟩; clear hK K hR R
    have hB := hBn; have k1 := m1; have k2 := m2
    clear hBn m1 m2
    repeat
      refine RX.step (fun R hR => ?_)
      first
      | (refine RX.one_skip (by first | rfl | (rw [HO.out]; rfl)) (by simp only [RX.put_some, RX.put_none, List.set_cons_zero, List.set_cons_succ]; rfl) ?_
         refine hR _ _ ?_; clear hR R)
      | (refine RX.one_move (by first | rfl | (rw [HO.out]; rfl)) rfl (by first | exact Or.inl rfl | exact Or.inr rfl) (by simp only [RX.eval_tmp, RX.eval_const, List.getD_cons_zero, List.getD_cons_succ]; rfl) (by simp only [RX.put_some, RX.put_none, List.set_cons_zero, List.set_cons_succ]; rfl) ?_
         refine hR _ _ ?_; clear hR R)
      | (refine RX.one_nil (by first | rfl | (rw [HO.out]; rfl)) rfl rfl (by simp only [RX.eval_tmp, RX.eval_const, List.getD_cons_zero, List.getD_cons_succ]; rfl) (by simp only [RX.put_some, RX.put_none, List.set_cons_zero, List.set_cons_succ]; rfl) ?_
         refine hR _ _ ?_; clear hR R)
      | (refine RX.one_float (by first | rfl | (rw [HO.out]; rfl)) rfl rfl rfl ?_
         apply Exists.intro; apply Exists.intro
         refine ⟨fun w' hS K hK => ?_, ?_, ?_⟩
         · obtain ⟨hS1, hS2⟩ := hS; go_wp2; exact hK _ _ (by simp only [RX.arr_getD, List.getD_cons_zero, List.getD_cons_succ]; first | exact RX.dec_t (by omega) | exact RX.dec_f (by omega) | exact RX.beq_t (by omega) | exact RX.beq_f (by omega) | exact RX.bne_t (by omega) | exact RX.bne_f (by omega) | exact RX.bneB _ | rfl) rfl
         · simp only [RX.put_some, RX.put_none, List.set_cons_zero, List.set_cons_succ]; rfl
         refine hR _ _ ?_; clear hR R)
    refine RX.step (fun R hR => ?_)
    refine RX.one_chain (by first | rfl | (rw [HO.out]; rfl)) rfl (fun K hK => ?_)
    go_wp2_with fail
    refine (wide_any _ (by omega) (by omega) _).mono ?_
    rintro e wg ⟨rfl, hb⟩
    have hBn : Below w.heap.size w wg := hB.trans (hb.mono hB.size)
    have m1 := RX.keep hb k1
    have m2 := RX.keep hb k2
    clear hb hB k1 k2
    skip
    refine hK _ _ ⟨⟨m1, m2⟩, hR _ _ ?_⟩; clear hK K hR R
    have hB := hBn; have k1 := m1; have k2 := m2
    clear hBn m1 m2
    repeat
      refine RX.step (fun R hR => ?_)
      first
      | (refine RX.one_skip (by first | rfl | (rw [HO.out]; rfl)) (by simp only [RX.put_some, RX.put_none, List.set_cons_zero, List.set_cons_succ]; rfl) ?_
         refine hR _ _ ?_; clear hR R)
      | (refine RX.one_move (by first | rfl | (rw [HO.out]; rfl)) rfl (by first | exact Or.inl rfl | exact Or.inr rfl) (by simp only [RX.eval_tmp, RX.eval_const, List.getD_cons_zero, List.getD_cons_succ]; rfl) (by simp only [RX.put_some, RX.put_none, List.set_cons_zero, List.set_cons_succ]; rfl) ?_
         refine hR _ _ ?_; clear hR R)
      | (refine RX.one_nil (by first | rfl | (rw [HO.out]; rfl)) rfl rfl (by simp only [RX.eval_tmp, RX.eval_const, List.getD_cons_zero, List.getD_cons_succ]; rfl) (by simp only [RX.put_some, RX.put_none, List.set_cons_zero, List.set_cons_succ]; rfl) ?_
         refine hR _ _ ?_; clear hR R)
      | (refine RX.one_float (by first | rfl | (rw [HO.out]; rfl)) rfl rfl rfl ?_
         apply Exists.intro; apply Exists.intro
         refine ⟨fun w' hS K hK => ?_, ?_, ?_⟩
         · obtain ⟨hS1, hS2⟩ := hS; go_wp2; exact hK _ _ (by simp only [RX.arr_getD, List.getD_cons_zero, List.getD_cons_succ]; first | exact RX.dec_t (by omega) | exact RX.dec_f (by omega) | exact RX.beq_t (by omega) | exact RX.beq_f (by omega) | exact RX.bne_t (by omega) | exact RX.bne_f (by omega) | exact RX.bneB _ | rfl) rfl
         · simp only [RX.put_some, RX.put_none, List.set_cons_zero, List.set_cons_succ]; rfl
         refine hR _ _ ?_; clear hR R)
    refine RX.step (fun R hR => ?_)
    refine RX.one_chain (by first | rfl | (rw [HO.out]; rfl)) rfl (fun K hK => ?_)
    go_wp2_with fail
    refine (wide_any _ (by omega) (by omega) _).mono ?_
    rintro e wh ⟨rfl, hb⟩
    have hBn : Below w.heap.size w wh := hB.trans (hb.mono hB.size)
    have m1 := RX.keep hb k1
    have m2 := RX.keep hb k2
    clear hb hB k1 k2
    skip
    refine hK _ _ ⟨⟨m1, m2⟩, hR _ _ ?_⟩; clear hK K hR R
    have hB := hBn; have k1 := m1; have k2 := m2
    clear hBn m1 m2
    repeat
      refine RX.step (fun R hR => ?_)
      first
      | (refine RX.one_skip (by first | rfl | (rw [HO.out]; rfl)) (by simp only [RX.put_some, RX.put_none, List.set_cons_zero, List.set_cons_succ]; rfl) ?_
         refine hR _ _ ?_; clear hR R)
      | (refine RX.one_move (by first | rfl | (rw [HO.out]; rfl)) rfl (by first | exact Or.inl rfl | exact Or.inr rfl) (by simp only [RX.eval_tmp, RX.eval_const, List.getD_cons_zero, List.getD_cons_succ]; rfl) (by simp only [RX.put_some, RX.put_none, List.set_cons_zero, List.set_cons_succ]; rfl) ?_
         refine hR _ _ ?_; clear hR R)
      | (refine RX.one_nil (by first | rfl | (rw [HO.out]; rfl)) rfl rfl (by simp only [RX.eval_tmp, RX.eval_const, List.getD_cons_zero, List.getD_cons_succ]; rfl) (by simp only [RX.put_some, RX.put_none, List.set_cons_zero, List.set_cons_succ]; rfl) ?_
         refine hR _ _ ?_; clear hR R)
      | (refine RX.one_float (by first | rfl | (rw [HO.out]; rfl)) rfl rfl rfl ?_
         apply Exists.intro; apply Exists.intro
         refine ⟨fun w' hS K hK => ?_, ?_, ?_⟩
         · obtain ⟨hS1, hS2⟩ := hS; go_wp2; exact hK _ _ (by simp only [RX.arr_getD, List.getD_cons_zero, List.getD_cons_succ]; first | exact RX.dec_t (by omega) | exact RX.dec_f (by omega) | exact RX.beq_t (by omega) | exact RX.beq_f (by omega) | exact RX.bne_t (by omega) | exact RX.bne_f (by omega) | exact RX.bneB _ | rfl) rfl
         · simp only [RX.put_some, RX.put_none, List.set_cons_zero, List.set_cons_succ]; rfl
         refine hR _ _ ?_; clear hR R)
    refine RX.step (fun R hR => ?_)
    refine RX.one_chain (by first | rfl | (rw [HO.out]; rfl)) rfl (fun K hK => ?_)
    go_wp2_with fail
    refine (compare_wv _ _ _ (by omega) (by omega) (by omega) (by omega)).mono ?_
    rintro e wi ⟨rfl, hb⟩
    have hBn : Below w.heap.size w wi := hB.trans (hb.mono hB.size)
    have m1 := RX.keep hb k1
    have m2 := RX.keep hb k2
    clear hb hB k1 k2
    rw [hs]
    refine hK _ _ ⟨⟨m1, m2⟩, hR _ _ ?_⟩; clear hK K hR R
    have hB := hBn; have k1 := m1; have k2 := m2
    clear hBn m1 m2
    repeat
      refine RX.step (fun R hR => ?_)
      first
      | (refine RX.one_skip (by first | rfl | (rw [HO.out]; rfl)) (by simp only [RX.put_some, RX.put_none, List.set_cons_zero, List.set_cons_succ]; rfl) ?_
         refine hR _ _ ?_; clear hR R)
      | (refine RX.one_move (by first | rfl | (rw [HO.out]; rfl)) rfl (by first | exact Or.inl rfl | exact Or.inr rfl) (by simp only [RX.eval_tmp, RX.eval_const, List.getD_cons_zero, List.getD_cons_succ]; rfl) (by simp only [RX.put_some, RX.put_none, List.set_cons_zero, List.set_cons_succ]; rfl) ?_
         refine hR _ _ ?_; clear hR R)
      | (refine RX.one_nil (by first | rfl | (rw [HO.out]; rfl)) rfl rfl (by simp only [RX.eval_tmp, RX.eval_const, List.getD_cons_zero, List.getD_cons_succ]; rfl) (by simp only [RX.put_some, RX.put_none, List.set_cons_zero, List.set_cons_succ]; rfl) ?_
         refine hR _ _ ?_; clear hR R)
      | (refine RX.one_float (by first | rfl | (rw [HO.out]; rfl)) rfl rfl rfl ?_
         apply Exists.intro; apply Exists.intro
         refine ⟨fun w' hS K hK => ?_, ?_, ?_⟩
         · obtain ⟨hS1, hS2⟩ := hS; go_wp2; exact hK _ _ (by simp only [RX.arr_getD, List.getD_cons_zero, List.getD_cons_succ]; first | exact RX.dec_t (by omega) | exact RX.dec_f (by omega) | exact RX.beq_t (by omega) | exact RX.beq_f (by omega) | exact RX.bne_t (by omega) | exact RX.bne_f (by omega) | exact RX.bneB _ | rfl) rfl
         · simp only [RX.put_some, RX.put_none, List.set_cons_zero, List.set_cons_succ]; rfl
         refine hR _ _ ?_; clear hR R)
    refine RX.step (fun R hR => ?_)
    refine RX.one_chain (by first | rfl | (rw [HO.out]; rfl)) rfl (fun K hK => ?_)
    go_wp2_with fail
    refine (product_wv _ _ _ (by omega) (by omega) (by omega) (by omega)).mono ?_
    rintro e wj ⟨rfl, hb⟩
    have hBn : Below w.heap.size w wj := hB.trans (hb.mono hB.size)
    have m1 := RX.keep hb k1
    have m2 := RX.keep hb k2
    clear hb hB k1 k2
    skip
    refine hK _ _ ⟨⟨m1, m2⟩, hR _ _ ?_⟩; clear hK K hR R
    have hB := hBn; have k1 := m1; have k2 := m2
    clear hBn m1 m2
    repeat
      refine RX.step (fun R hR => ?_)
      first
      | (refine RX.one_skip (by first | rfl | (rw [HO.out]; rfl)) (by simp only [RX.put_some, RX.put_none, List.set_cons_zero, List.set_cons_succ]; rfl) ?_
         refine hR _ _ ?_; clear hR R)
      | (refine RX.one_move (by first | rfl | (rw [HO.out]; rfl)) rfl (by first | exact Or.inl rfl | exact Or.inr rfl) (by simp only [RX.eval_tmp, RX.eval_const, List.getD_cons_zero, List.getD_cons_succ]; rfl) (by simp only [RX.put_some, RX.put_none, List.set_cons_zero, List.set_cons_succ]; rfl) ?_
         refine hR _ _ ?_; clear hR R)
      | (refine RX.one_nil (by first | rfl | (rw [HO.out]; rfl)) rfl rfl (by simp only [RX.eval_tmp, RX.eval_const, List.getD_cons_zero, List.getD_cons_succ]; rfl) (by simp only [RX.put_some, RX.put_none, List.set_cons_zero, List.set_cons_succ]; rfl) ?_
         refine hR _ _ ?_; clear hR R)
      | (refine RX.one_float (by first | rfl | (rw [HO.out]; rfl)) rfl rfl rfl ?_
         apply Exists.intro; apply Exists.intro
         refine ⟨fun w' hS K hK => ?_, ?_, ?_⟩
         · obtain ⟨hS1, hS2⟩ := hS; go_wp2; exact hK _ _ (by simp only [RX.arr_getD, List.getD_cons_zero, List.getD_cons_succ]; first | exact RX.dec_t (by omega) | exact RX.dec_f (by omega) | exact RX.beq_t (by omega) | exact RX.beq_f (by omega) | exact RX.bne_t (by omega) | exact RX.bne_f (by omega) | exact RX.bneB _ | rfl) rfl
         · simp only [RX.put_some, RX.put_none, List.set_cons_zero, List.set_cons_succ]; rfl
         refine hR _ _ ?_; clear hR R)
    refine RX.step (fun R hR => ?_)
    refine RX.one_chain (by first | rfl | (rw [HO.out]; rfl)) rfl (fun K hK => ?_)
    go_wp2_with fail
    refine (compare_at _ _ _ wv_zero.symm _ (by have := hsq.out; omega) (by have := hsq.out; omega) rfl).mono ?_
    rintro e wk ⟨rfl, hb⟩
    have hBn : Below w.heap.size w wk := hB.trans (hb.mono hB.size)
    have m1 := RX.keep hb k1
    have m2 := RX.keep hb k2
    clear hb hB k1 k2
    skip
    refine hK _ _ ⟨⟨m1, m2⟩, hR _ _ ?_⟩; clear hK K hR R
    have hB := hBn; have k1 := m1; have k2 := m2
    clear hBn m1 m2
    repeat
      refine RX.step (fun R hR => ?_)
      first
      | (refine RX.one_skip (by first | rfl | (rw [HO.out]; rfl)) (by simp only [RX.put_some, RX.put_none, List.set_cons_zero, List.set_cons_succ]; rfl) ?_
         refine hR _ _ ?_; clear hR R)
      | (refine RX.one_move (by first | rfl | (rw [HO.out]; rfl)) rfl (by first | exact Or.inl rfl | exact Or.inr rfl) (by simp only [RX.eval_tmp, RX.eval_const, List.getD_cons_zero, List.getD_cons_succ]; rfl) (by simp only [RX.put_some, RX.put_none, List.set_cons_zero, List.set_cons_succ]; rfl) ?_
         refine hR _ _ ?_; clear hR R)
      | (refine RX.one_nil (by first | rfl | (rw [HO.out]; rfl)) rfl rfl (by simp only [RX.eval_tmp, RX.eval_const, List.getD_cons_zero, List.getD_cons_succ]; rfl) (by simp only [RX.put_some, RX.put_none, List.set_cons_zero, List.set_cons_succ]; rfl) ?_
         refine hR _ _ ?_; clear hR R)
      | (refine RX.one_float (by first | rfl | (rw [HO.out]; rfl)) rfl rfl rfl ?_
         apply Exists.intro; apply Exists.intro
         refine ⟨fun w' hS K hK => ?_, ?_, ?_⟩
         · obtain ⟨hS1, hS2⟩ := hS; go_wp2; exact hK _ _ (by simp only [RX.arr_getD, List.getD_cons_zero, List.getD_cons_succ]; first | exact RX.dec_t (by omega) | exact RX.dec_f (by omega) | exact RX.beq_t (by omega) | exact RX.beq_f (by omega) | exact RX.bne_t (by omega) | exact RX.bne_f (by omega) | exact RX.bneB _ | rfl) rfl
         · simp only [RX.put_some, RX.put_none, List.set_cons_zero, List.set_cons_succ]; rfl
         refine hR _ _ ?_; clear hR R)
    refine RX.wpL_nil (hQR _ _ (⟨k1, k2⟩) ?_); clear hQR QR HO OPS
    go_wp2
    go_ret
    rw [decide_eq_true hnn.out]
    exact ⟨rfl, hB⟩
  · go_wp2
    have hB : Below w.heap.size w (w4.alloc (.cells #[.int .i64 H, .int .u64 L] 58)) := hB4.alloc hB4.size _
    have k1 : (w4.alloc (.cells #[.int .i64 H, .int .u64 L] 58)).cell? ⟨w4.heap.size, 0, none⟩ = some (.int .i64 H) := (by simp [RX.cell_drew, RX.cell_alloc, Nat.add_assoc])
    have k2 : (w4.alloc (.cells #[.int .i64 H, .int .u64 L] 58)).cell? ⟨w4.heap.size, 1, none⟩ = some (.int .u64 L) := (by simp [RX.cell_drew, RX.cell_alloc, Nat.add_assoc])
    generalize (w4.alloc (.cells #[.int .i64 H, .int .u64 L] 58)) = W0 at *
    generalize w4.heap.size = g at *
    clear hB4
    refine RX.region RX.fL (fun w' => w'.cell? ⟨g, 0, none⟩ = some (.int .i64 H) ∧ w'.cell? ⟨g, 1, none⟩ = some (.int .u64 L)) (by kernel_rfl) (by kernel_rfl) (⟨k1, k2⟩) (fun OPS HO QR hQR => ?_)
    have hB := hB.drew
    repeat
      refine RX.step (fun R hR => ?_)
      first
      | (refine RX.one_skip (by first | rfl | (rw [HO.out]; rfl)) (by simp only [RX.put_some, RX.put_none, List.set_cons_zero, List.set_cons_succ]; rfl) ?_
         refine hR _ _ ?_; clear hR R)
      | (refine RX.one_move (by first | rfl | (rw [HO.out]; rfl)) rfl (by first | exact Or.inl rfl | exact Or.inr rfl) (by simp only [RX.eval_tmp, RX.eval_const, List.getD_cons_zero, List.getD_cons_succ]; rfl) (by simp only [RX.put_some, RX.put_none, List.set_cons_zero, List.set_cons_succ]; rfl) ?_
         refine hR _ _ ?_; clear hR R)
      | (refine RX.one_nil (by first | rfl | (rw [HO.out]; rfl)) rfl rfl (by simp only [RX.eval_tmp, RX.eval_const, List.getD_cons_zero, List.getD_cons_succ]; rfl) (by simp only [RX.put_some, RX.put_none, List.set_cons_zero, List.set_cons_succ]; rfl) ?_
         refine hR _ _ ?_; clear hR R)
      | (refine RX.one_float (by first | rfl | (rw [HO.out]; rfl)) rfl rfl rfl ?_
         apply Exists.intro; apply Exists.intro
         refine ⟨fun w' hS K hK => ?_, ?_, ?_⟩
         · obtain ⟨hS1, hS2⟩ := hS; go_wp2; exact hK _ _ (by simp only [RX.arr_getD, List.getD_cons_zero, List.getD_cons_succ]; first | exact RX.dec_t (by omega) | exact RX.dec_f (by omega) | exact RX.beq_t (by omega) | exact RX.beq_f (by omega) | exact RX.bne_t (by omega) | exact RX.bne_f (by omega) | exact RX.bneB _ | rfl) rfl
         · simp only [RX.put_some, RX.put_none, List.set_cons_zero, List.set_cons_succ]; rfl
         refine hR _ _ ?_; clear hR R)
    refine RX.step (fun R hR => ?_)
    refine RX.one_chain (by first | rfl | (rw [HO.out]; rfl)) rfl (fun K hK => ?_)
    go_wp2_with fail
    refine (product_wv _ _ _ (by omega) (by omega) (by omega) (by omega)).mono ?_
    rintro e wa ⟨rfl, hb⟩
    have hBn : Below w.heap.size w wa := hB.trans (hb.mono hB.size)
    have m1 := RX.keep hb k1
    have m2 := RX.keep hb k2
    clear hb hB k1 k2
    rw [hSum.out]
    refine hK _ _ ⟨⟨m1, m2⟩, hR _ _ ?_⟩; clear hK K hR R
    have hB := hBn; have k1 := m1; have k2 := m2
    clear hBn m1 m2
    repeat
      refine RX.step (fun R hR => ?_)
      first
      | (refine RX.one_skip (by first | rfl | (rw [HO.out]; rfl)) (by simp only [RX.put_some, RX.put_none, List.set_cons_zero, List.set_cons_succ]; rfl) ?_
         refine hR _ _ ?_; clear hR R)
      | (refine RX.one_move (by first | rfl | (rw [HO.out]; rfl)) rfl (by first | exact Or.inl rfl | exact Or.inr rfl) (by simp only [RX.eval_tmp, RX.eval_const, List.getD_cons_zero, List.getD_cons_succ]; rfl) (by simp only [RX.put_some, RX.put_none, List.set_cons_zero, List.set_cons_succ]; rfl) ?_
         refine hR _ _ ?_; clear hR R)
      | (refine RX.one_nil (by first | rfl | (rw [HO.out]; rfl)) rfl rfl (by simp only [RX.eval_tmp, RX.eval_const, List.getD_cons_zero, List.getD_cons_succ]; rfl) (by simp only [RX.put_some, RX.put_none, List.set_cons_zero, List.set_cons_succ]; rfl) ?_
         refine hR _ _ ?_; clear hR R)
      | (refine RX.one_float (by first | rfl | (rw [HO.out]; rfl)) rfl rfl rfl ?_
         apply Exists.intro; apply Exists.intro
         refine ⟨fun w' hS K hK => ?_, ?_, ?_⟩
         · obtain ⟨hS1, hS2⟩ := hS; go_wp2; exact hK _ _ (by simp only [RX.arr_getD, List.getD_cons_zero, List.getD_cons_succ]; first | exact RX.dec_t (by omega) | exact RX.dec_f (by omega) | exact RX.beq_t (by omega) | exact RX.beq_f (by omega) | exact RX.bne_t (by omega) | exact RX.bne_f (by omega) | exact RX.bneB _ | rfl) rfl
         · simp only [RX.put_some, RX.put_none, List.set_cons_zero, List.set_cons_succ]; rfl
         refine hR _ _ ?_; clear hR R)
    refine RX.step (fun R hR => ?_)
    refine RX.one_chain (by first | rfl | (rw [HO.out]; rfl)) rfl (fun K hK => ?_)
    go_wp2_with fail
    refine (product_wv _ _ _ (by omega) (by omega) (by omega) (by omega)).mono ?_
    rintro e wb ⟨rfl, hb⟩
    have hBn : Below w.heap.size w wb := hB.trans (hb.mono hB.size)
    have m1 := RX.keep hb k1
    have m2 := RX.keep hb k2
    clear hb hB k1 k2
    rw [hNeg.out]
    refine hK _ _ ⟨⟨m1, m2⟩, hR _ _ ?_⟩; clear hK K hR R
    have hB := hBn; have k1 := m1; have k2 := m2
    clear hBn m1 m2
    repeat
      refine RX.step (fun R hR => ?_)
      first
      | (refine RX.one_skip (by first | rfl | (rw [HO.out]; rfl)) (by simp only [RX.put_some, RX.put_none, List.set_cons_zero, List.set_cons_succ]; rfl) ?_
         refine hR _ _ ?_; clear hR R)
      | (refine RX.one_move (by first | rfl | (rw [HO.out]; rfl)) rfl (by first | exact Or.inl rfl | exact Or.inr rfl) (by simp only [RX.eval_tmp, RX.eval_const, List.getD_cons_zero, List.getD_cons_succ]; rfl) (by simp only [RX.put_some, RX.put_none, List.set_cons_zero, List.set_cons_succ]; rfl) ?_
         refine hR _ _ ?_; clear hR R)
      | (refine RX.one_nil (by first | rfl | (rw [HO.out]; rfl)) rfl rfl (by simp only [RX.eval_tmp, RX.eval_const, List.getD_cons_zero, List.getD_cons_succ]; rfl) (by simp only [RX.put_some, RX.put_none, List.set_cons_zero, List.set_cons_succ]; rfl) ?_
         refine hR _ _ ?_; clear hR R)
      | (refine RX.one_float (by first | rfl | (rw [HO.out]; rfl)) rfl rfl rfl ?_
         apply Exists.intro; apply Exists.intro
         refine ⟨fun w' hS K hK => ?_, ?_, ?_⟩
         · obtain ⟨hS1, hS2⟩ := hS; go_wp2; exact hK _ _ (by simp only [RX.arr_getD, List.getD_cons_zero, List.getD_cons_succ]; first | exact RX.dec_t (by omega) | exact RX.dec_f (by omega) | exact RX.beq_t (by omega) | exact RX.beq_f (by omega) | exact RX.bne_t (by omega) | exact RX.bne_f (by omega) | exact RX.bneB _ | rfl) rfl
         · simp only [RX.put_some, RX.put_none, List.set_cons_zero, List.set_cons_succ]; rfl
         refine hR _ _ ?_; clear hR R)
    refine RX.step (fun R hR => ?_)
    refine RX.one_chain (by first | rfl | (rw [HO.out]; rfl)) rfl (fun K hK => ?_)
    go_wp2_with fail
    refine (product_wv _ _ _ (by omega) (by omega) (by omega) (by omega)).mono ?_
    rintro e wc ⟨rfl, hb⟩
    have hBn : Below w.heap.size w wc := hB.trans (hb.mono hB.size)
    have m1 := RX.keep hb k1
    have m2 := RX.keep hb k2
    clear hb hB k1 k2
    skip
    refine hK _ _ ⟨⟨m1, m2⟩, hR _ _ ?_⟩; clear hK K hR R
    have hB := hBn; have k1 := m1; have k2 := m2
    clear hBn m1 m2
    repeat
      refine RX.step (fun R hR => ?_)
      first
      | (refine RX.one_skip (by first | rfl | (rw [HO.out]; rfl)) (by simp only [RX.put_some, RX.put_none, List.set_cons_zero, List.set_cons_succ]; rfl) ?_
         refine hR _ _ ?_; clear hR R)
      | (refine RX.one_move (by first | rfl | (rw [HO.out]; rfl)) rfl (by first | exact Or.inl rfl | exact Or.inr rfl) (by simp only [RX.eval_tmp, RX.eval_const, List.getD_cons_zero, List.getD_cons_succ]; rfl) (by simp only [RX.put_some, RX.put_none, List.set_cons_zero, List.set_cons_succ]; rfl) ?_
         refine hR _ _ ?_; clear hR R)
      | (refine RX.one_nil (by first | rfl | (rw [HO.out]; rfl)) rfl rfl (by simp only [RX.eval_tmp, RX.eval_const, List.getD_cons_zero, List.getD_cons_succ]; rfl) (by simp only [RX.put_some, RX.put_none, List.set_cons_zero, List.set_cons_succ]; rfl) ?_
         refine hR _ _ ?_; clear hR R)
      | (refine RX.one_float (by first | rfl | (rw [HO.out]; rfl)) rfl rfl rfl ?_
         apply Exists.intro; apply Exists.intro
         refine ⟨fun w' hS K hK => ?_, ?_, ?_⟩
         · obtain ⟨hS1, hS2⟩ := hS; go_wp2; exact hK _ _ (by simp only [RX.arr_getD, List.getD_cons_zero, List.getD_cons_succ]; first | exact RX.dec_t (by omega) | exact RX.dec_f (by omega) | exact RX.beq_t (by omega) | exact RX.beq_f (by omega) | exact RX.bne_t (by omega) | exact RX.bne_f (by omega) | exact RX.bneB _ | rfl) rfl
         · simp only [RX.put_some, RX.put_none, List.set_cons_zero, List.set_cons_succ]; rfl
         refine hR _ _ ?_; clear hR R)
    refine RX.step (fun R hR => ?_)
    refine RX.one_chain (by first | rfl | (rw [HO.out]; rfl)) rfl (fun K hK => ?_)
    go_wp2_with fail
    refine (negate_any _ _).mono ?_
    rintro e wd ⟨rfl, hb⟩
    have hBn : Below w.heap.size w wd := hB.trans (hb.mono hB.size)
    have m1 := RX.keep hb k1
    have m2 := RX.keep hb k2
    clear hb hB k1 k2
    rw [hN.out]
    refine hK _ _ ⟨⟨m1, m2⟩, hR _ _ ?_⟩; clear hK K hR R
    have hB := hBn; have k1 := m1; have k2 := m2
    clear hBn m1 m2
    repeat
      refine RX.step (fun R hR => ?_)
      first
      | (refine RX.one_skip (by first | rfl | (rw [HO.out]; rfl)) (by simp only [RX.put_some, RX.put_none, List.set_cons_zero, List.set_cons_succ]; rfl) ?_
         refine hR _ _ ?_; clear hR R)
      | (refine RX.one_move (by first | rfl | (rw [HO.out]; rfl)) rfl (by first | exact Or.inl rfl | exact Or.inr rfl) (by simp only [RX.eval_tmp, RX.eval_const, List.getD_cons_zero, List.getD_cons_succ]; rfl) (by simp only [RX.put_some, RX.put_none, List.set_cons_zero, List.set_cons_succ]; rfl) ?_
         refine hR _ _ ?_; clear hR R)
      | (refine RX.one_nil (by first | rfl | (rw [HO.out]; rfl)) rfl rfl (by simp only [RX.eval_tmp, RX.eval_const, List.getD_cons_zero, List.getD_cons_succ]; rfl) (by simp only [RX.put_some, RX.put_none, List.set_cons_zero, List.set_cons_succ]; rfl) ?_
         refine hR _ _ ?_; clear hR R)
      | (refine RX.one_float (by first | rfl | (rw [HO.out]; rfl)) rfl rfl rfl ?_
         apply Exists.intro; apply Exists.intro
         refine ⟨fun w' hS K hK => ?_, ?_, ?_⟩
         · obtain ⟨hS1, hS2⟩ := hS; go_wp2; exact hK _ _ (by simp only [RX.arr_getD, List.getD_cons_zero, List.getD_cons_succ]; first | exact RX.dec_t (by omega) | exact RX.dec_f (by omega) | exact RX.beq_t (by omega) | exact RX.beq_f (by omega) | exact RX.bne_t (by omega) | exact RX.bne_f (by omega) | exact RX.bneB _ | rfl) rfl
         · simp only [RX.put_some, RX.put_none, List.set_cons_zero, List.set_cons_succ]; rfl
         refine hR _ _ ?_; clear hR R)
    refine RX.step (fun R hR => ?_)
    refine RX.one_chain (by first | rfl | (rw [HO.out]; rfl)) rfl (fun K hK => ?_)
    go_wp2_with fail
    refine (negate_at _ _ hS.out.symm _).mono ?_
    rintro e we ⟨rfl, hb⟩
    have hBn : Below w.heap.size w we := hB.trans (hb.mono hB.size)
    have m1 := RX.keep hb k1
    have m2 := RX.keep hb k2
    clear hb hB k1 k2
    skip
    refine hK _ _ ⟨⟨m1, m2⟩, hR _ _ ?_⟩; clear hK K hR R
    have hB := hBn; have k1 := m1; have k2 := m2
    clear hBn m1 m2
    repeat
      refine RX.step (fun R hR => ?_)
      first
      | (refine RX.one_skip (by first | rfl | (rw [HO.out]; rfl)) (by simp only [RX.put_some, RX.put_none, List.set_cons_zero, List.set_cons_succ]; rfl) ?_
         refine hR _ _ ?_; clear hR R)
      | (refine RX.one_move (by first | rfl | (rw [HO.out]; rfl)) rfl (by first | exact Or.inl rfl | exact Or.inr rfl) (by simp only [RX.eval_tmp, RX.eval_const, List.getD_cons_zero, List.getD_cons_succ]; rfl) (by simp only [RX.put_some, RX.put_none, List.set_cons_zero, List.set_cons_succ]; rfl) ?_
         refine hR _ _ ?_; clear hR R)
      | (refine RX.one_nil (by first | rfl | (rw [HO.out]; rfl)) rfl rfl (by simp only [RX.eval_tmp, RX.eval_const, List.getD_cons_zero, List.getD_cons_succ]; rfl) (by simp only [RX.put_some, RX.put_none, List.set_cons_zero, List.set_cons_succ]; rfl) ?_
         refine hR _ _ ?_; clear hR R)
      | (refine RX.one_float (by first | rfl | (rw [HO.out]; rfl)) rfl rfl rfl ?_
         apply Exists.intro; apply Exists.intro
         refine ⟨fun w' hS K hK => ?_, ?_, ?_⟩
         · obtain ⟨hS1, hS2⟩ := hS; go_wp2; exact hK _ _ (by simp only [RX.arr_getD, List.getD_cons_zero, List.getD_cons_succ]; first | exact RX.dec_t (by omega) | exact RX.dec_f (by omega) | exact RX.beq_t (by omega) | exact RX.beq_f (by omega) | exact RX.bne_t (by omega) | exact RX.bne_f (by omega) | exact RX.bneB _ | rfl) rfl
         · simp only [RX.put_some, RX.put_none, List.set_cons_zero, List.set_cons_succ]; rfl
         refine hR _ _ ?_; clear hR R)
    refine RX.step (fun R hR => ?_)
    refine RX.one_chain (by first | rfl | (rw [HO.out]; rfl)) rfl (fun K hK => ?_)
    go_wp2_with fail
    refine (add_at _ _ _ _ hS.out.symm rfl _).mono ?_
    rintro e wf ⟨rfl, hb⟩
    have hBn : Below w.heap.size w wf := hB.trans (hb.mono hB.size)
    have m1 := RX.keep hb k1
    have m2 := RX.keep hb k2
    clear hb hB k1 k2
    rw [hZero.out]
    refine hK _ _ ⟨⟨m1, m2⟩, hR _ _ ?_⟩; clear hK K hR R
    have hB := hBn; have k1 := m1; have k2 := m2
    clear hBn m1 m2
    repeat
      refine RX.step (fun R hR => ?_)
      first
      | (refine RX.one_skip (by first | rfl | (rw [HO.out]; rfl)) (by simp only [RX.put_some, RX.put_none, List.set_cons_zero, List.set_cons_succ]; rfl) ?_
         refine hR _ _ ?_; clear hR R)
      | (refine RX.one_move (by first | rfl | (rw [HO.out]; rfl)) rfl (by first | exact Or.inl rfl | exact Or.inr rfl) (by simp only [RX.eval_tmp, RX.eval_const, List.getD_cons_zero, List.getD_cons_succ]; rfl) (by simp only [RX.put_some, RX.put_none, List.set_cons_zero, List.set_cons_succ]; rfl) ?_
         refine hR _ _ ?_; clear hR R)
      | (refine RX.one_nil (by first | rfl | (rw [HO.out]; rfl)) rfl rfl (by simp only [RX.eval_tmp, RX.eval_const, List.getD_cons_zero, List.getD_cons_succ]; rfl) (by simp only [RX.put_some, RX.put_none, List.set_cons_zero, List.set_cons_succ]; rfl) ?_
         refine hR _ _ ?_; clear hR R)
      | (refine RX.one_float (by first | rfl | (rw [HO.out]; rfl)) rfl rfl rfl ?_
         apply Exists.intro; apply Exists.intro
         refine ⟨fun w' hS K hK => ?_, ?_, ?_⟩
         · obtain ⟨hS1, hS2⟩ := hS; go_wp2; exact hK _ _ (by simp only [RX.arr_getD, List.getD_cons_zero, List.getD_cons_succ]; first | exact RX.dec_t (by omega) | exact RX.dec_f (by omega) | exact RX.beq_t (by omega) | exact RX.beq_f (by omega) | exact RX.bne_t (by omega) | exact RX.bne_f (by omega) | exact RX.bneB _ | rfl) rfl
         · simp only [RX.put_some, RX.put_none, List.set_cons_zero, List.set_cons_succ]; rfl
         refine hR _ _ ?_; clear hR R)
    refine RX.step (fun R hR => ?_)
    refine RX.one_chain (by first | rfl | (rw [HO.out]; rfl)) rfl (fun K hK => ?_)
    go_wp2_with fail
    refine (wide_any _ (by omega) (by omega) _).mono ?_
    rintro e wg ⟨rfl, hb⟩
    have hBn : Below w.heap.size w wg := hB.trans (hb.mono hB.size)
    have m1 := RX.keep hb k1
    have m2 := RX.keep hb k2
    clear hb hB k1 k2
    skip
    refine hK _ _ ⟨⟨m1, m2⟩, hR _ _ ?_⟩; clear hK K hR R
    have hB := hBn; have k1 := m1; have k2 := m2
    clear hBn m1 m2
    repeat
      refine RX.step (fun R hR => ?_)
      first
      | (refine RX.one_skip (by first | rfl | (rw [HO.out]; rfl)) (by simp only [RX.put_some, RX.put_none, List.set_cons_zero, List.set_cons_succ]; rfl) ?_
         refine hR _ _ ?_; clear hR R)
      | (refine RX.one_move (by first | rfl | (rw [HO.out]; rfl)) rfl (by first | exact Or.inl rfl | exact Or.inr rfl) (by simp only [RX.eval_tmp, RX.eval_const, List.getD_cons_zero, List.getD_cons_succ]; rfl) (by simp only [RX.put_some, RX.put_none, List.set_cons_zero, List.set_cons_succ]; rfl) ?_
         refine hR _ _ ?_; clear hR R)
      | (refine RX.one_nil (by first | rfl | (rw [HO.out]; rfl)) rfl rfl (by simp only [RX.eval_tmp, RX.eval_const, List.getD_cons_zero, List.getD_cons_succ]; rfl) (by simp only [RX.put_some, RX.put_none, List.set_cons_zero, List.set_cons_succ]; rfl) ?_
         refine hR _ _ ?_; clear hR R)
      | (refine RX.one_float (by first | rfl | (rw [HO.out]; rfl)) rfl rfl rfl ?_
         apply Exists.intro; apply Exists.intro
         refine ⟨fun w' hS K hK => ?_, ?_, ?_⟩
         · obtain ⟨hS1, hS2⟩ := hS; go_wp2; exact hK _ _ (by simp only [RX.arr_getD, List.getD_cons_zero, List.getD_cons_succ]; first | exact RX.dec_t (by omega) | exact RX.dec_f (by omega) | exact RX.beq_t (by omega) | exact RX.beq_f (by omega) | exact RX.bne_t (by omega) | exact RX.bne_f (by omega) | exact RX.bneB _ | rfl) rfl
         · simp only [RX.put_some, RX.put_none, List.set_cons_zero, List.set_cons_succ]; rfl
         refine hR _ _ ?_; clear hR R)
    refine RX.step (fun R hR => ?_)
    refine RX.one_chain (by first | rfl | (rw [HO.out]; rfl)) rfl (fun K hK => ?_)
    go_wp2_with fail
    refine (wide_any _ (by omega) (by omega) _).mono ?_
    rintro e wh ⟨rfl, hb⟩
    have hBn : Below w.heap.size w wh := hB.trans (hb.mono hB.size)
    have m1 := RX.keep hb k1
    have m2 := RX.keep hb k2
    clear hb hB k1 k2
    skip
    refine hK _ _ ⟨⟨m1, m2⟩, hR _ _ ?_⟩; clear hK K hR R
    have hB := hBn; have k1 := m1; have k2 := m2
    clear hBn m1 m2
    repeat
      refine RX.step (fun R hR => ?_)
      first
      | (refine RX.one_skip (by first | rfl | (rw [HO.out]; rfl)) (by simp only [RX.put_some, RX.put_none, List.set_cons_zero, List.set_cons_succ]; rfl) ?_
         refine hR _ _ ?_; clear hR R)
      | (refine RX.one_move (by first | rfl | (rw [HO.out]; rfl)) rfl (by first | exact Or.inl rfl | exact Or.inr rfl) (by simp only [RX.eval_tmp, RX.eval_const, List.getD_cons_zero, List.getD_cons_succ]; rfl) (by simp only [RX.put_some, RX.put_none, List.set_cons_zero, List.set_cons_succ]; rfl) ?_
         refine hR _ _ ?_; clear hR R)
      | (refine RX.one_nil (by first | rfl | (rw [HO.out]; rfl)) rfl rfl (by simp only [RX.eval_tmp, RX.eval_const, List.getD_cons_zero, List.getD_cons_succ]; rfl) (by simp only [RX.put_some, RX.put_none, List.set_cons_zero, List.set_cons_succ]; rfl) ?_
         refine hR _ _ ?_; clear hR R)
      | (refine RX.one_float (by first | rfl | (rw [HO.out]; rfl)) rfl rfl rfl ?_
         apply Exists.intro; apply Exists.intro
         refine ⟨fun w' hS K hK => ?_, ?_, ?_⟩
         · obtain ⟨hS1, hS2⟩ := hS; go_wp2; exact hK _ _ (by simp only [RX.arr_getD, List.getD_cons_zero, List.getD_cons_succ]; first | exact RX.dec_t (by omega) | exact RX.dec_f (by omega) | exact RX.beq_t (by omega) | exact RX.beq_f (by omega) | exact RX.bne_t (by omega) | exact RX.bne_f (by omega) | exact RX.bneB _ | rfl) rfl
         · simp only [RX.put_some, RX.put_none, List.set_cons_zero, List.set_cons_succ]; rfl
         refine hR _ _ ?_; clear hR R)
    refine RX.step (fun R hR => ?_)
    refine RX.one_chain (by first | rfl | (rw [HO.out]; rfl)) rfl (fun K hK => ?_)
    go_wp2_with fail
    refine (compare_wv _ _ _ (by omega) (by omega) (by omega) (by omega)).mono ?_
    rintro e wi ⟨rfl, hb⟩
    have hBn : Below w.heap.size w wi := hB.trans (hb.mono hB.size)
    have m1 := RX.keep hb k1
    have m2 := RX.keep hb k2
    clear hb hB k1 k2
    rw [hs]
    refine hK _ _ ⟨⟨m1, m2⟩, hR _ _ ?_⟩; clear hK K hR R
    have hB := hBn; have k1 := m1; have k2 := m2
    clear hBn m1 m2
    repeat
      refine RX.step (fun R hR => ?_)
      first
      | (refine RX.one_skip (by first | rfl | (rw [HO.out]; rfl)) (by simp only [RX.put_some, RX.put_none, List.set_cons_zero, List.set_cons_succ]; rfl) ?_
         refine hR _ _ ?_; clear hR R)
      | (refine RX.one_move (by first | rfl | (rw [HO.out]; rfl)) rfl (by first | exact Or.inl rfl | exact Or.inr rfl) (by simp only [RX.eval_tmp, RX.eval_const, List.getD_cons_zero, List.getD_cons_succ]; rfl) (by simp only [RX.put_some, RX.put_none, List.set_cons_zero, List.set_cons_succ]; rfl) ?_
         refine hR _ _ ?_; clear hR R)
      | (refine RX.one_nil (by first | rfl | (rw [HO.out]; rfl)) rfl rfl (by simp only [RX.eval_tmp, RX.eval_const, List.getD_cons_zero, List.getD_cons_succ]; rfl) (by simp only [RX.put_some, RX.put_none, List.set_cons_zero, List.set_cons_succ]; rfl) ?_
         refine hR _ _ ?_; clear hR R)
      | (refine RX.one_float (by first | rfl | (rw [HO.out]; rfl)) rfl rfl rfl ?_
         apply Exists.intro; apply Exists.intro
         refine ⟨fun w' hS K hK => ?_, ?_, ?_⟩
         · obtain ⟨hS1, hS2⟩ := hS; go_wp2; exact hK _ _ (by simp only [RX.arr_getD, List.getD_cons_zero, List.getD_cons_succ]; first | exact RX.dec_t (by omega) | exact RX.dec_f (by omega) | exact RX.beq_t (by omega) | exact RX.beq_f (by omega) | exact RX.bne_t (by omega) | exact RX.bne_f (by omega) | exact RX.bneB _ | rfl) rfl
         · simp only [RX.put_some, RX.put_none, List.set_cons_zero, List.set_cons_succ]; rfl
         refine hR _ _ ?_; clear hR R)
    refine RX.step (fun R hR => ?_)
    refine RX.one_chain (by first | rfl | (rw [HO.out]; rfl)) rfl (fun K hK => ?_)
    go_wp2_with fail
    refine (product_wv _ _ _ (by omega) (by omega) (by omega) (by omega)).mono ?_
    rintro e wj ⟨rfl, hb⟩
    have hBn : Below w.heap.size w wj := hB.trans (hb.mono hB.size)
    have m1 := RX.keep hb k1
    have m2 := RX.keep hb k2
    clear hb hB k1 k2
    skip
    refine hK _ _ ⟨⟨m1, m2⟩, hR _ _ ?_⟩; clear hK K hR R
    have hB := hBn; have k1 := m1; have k2 := m2
    clear hBn m1 m2
    repeat
      refine RX.step (fun R hR => ?_)
      first
      | (refine RX.one_skip (by first | rfl | (rw [HO.out]; rfl)) (by simp only [RX.put_some, RX.put_none, List.set_cons_zero, List.set_cons_succ]; rfl) ?_
         refine hR _ _ ?_; clear hR R)
      | (refine RX.one_move (by first | rfl | (rw [HO.out]; rfl)) rfl (by first | exact Or.inl rfl | exact Or.inr rfl) (by simp only [RX.eval_tmp, RX.eval_const, List.getD_cons_zero, List.getD_cons_succ]; rfl) (by simp only [RX.put_some, RX.put_none, List.set_cons_zero, List.set_cons_succ]; rfl) ?_
         refine hR _ _ ?_; clear hR R)
      | (refine RX.one_nil (by first | rfl | (rw [HO.out]; rfl)) rfl rfl (by simp only [RX.eval_tmp, RX.eval_const, List.getD_cons_zero, List.getD_cons_succ]; rfl) (by simp only [RX.put_some, RX.put_none, List.set_cons_zero, List.set_cons_succ]; rfl) ?_
         refine hR _ _ ?_; clear hR R)
      | (refine RX.one_float (by first | rfl | (rw [HO.out]; rfl)) rfl rfl rfl ?_
         apply Exists.intro; apply Exists.intro
         refine ⟨fun w' hS K hK => ?_, ?_, ?_⟩
         · obtain ⟨hS1, hS2⟩ := hS; go_wp2; exact hK _ _ (by simp only [RX.arr_getD, List.getD_cons_zero, List.getD_cons_succ]; first | exact RX.dec_t (by omega) | exact RX.dec_f (by omega) | exact RX.beq_t (by omega) | exact RX.beq_f (by omega) | exact RX.bne_t (by omega) | exact RX.bne_f (by omega) | exact RX.bneB _ | rfl) rfl
         · simp only [RX.put_some, RX.put_none, List.set_cons_zero, List.set_cons_succ]; rfl
         refine hR _ _ ?_; clear hR R)
    refine RX.step (fun R hR => ?_)
    refine RX.one_chain (by first | rfl | (rw [HO.out]; rfl)) rfl (fun K hK => ?_)
    go_wp2_with fail
    refine (compare_at _ _ _ wv_zero.symm _ (by have := hsq.out; omega) (by have := hsq.out; omega) rfl).mono ?_
    rintro e wk ⟨rfl, hb⟩
    have hBn : Below w.heap.size w wk := hB.trans (hb.mono hB.size)
    have m1 := RX.keep hb k1
    have m2 := RX.keep hb k2
    clear hb hB k1 k2
    skip
    refine hK _ _ ⟨⟨m1, m2⟩, hR _ _ ?_⟩; clear hK K hR R
    have hB := hBn; have k1 := m1; have k2 := m2
    clear hBn m1 m2
    repeat
      refine RX.step (fun R hR => ?_)
      first
      | (refine RX.one_skip (by first | rfl | (rw [HO.out]; rfl)) (by simp only [RX.put_some, RX.put_none, List.set_cons_zero, List.set_cons_succ]; rfl) ?_
         refine hR _ _ ?_; clear hR R)
      | (refine RX.one_move (by first | rfl | (rw [HO.out]; rfl)) rfl (by first | exact Or.inl rfl | exact Or.inr rfl) (by simp only [RX.eval_tmp, RX.eval_const, List.getD_cons_zero, List.getD_cons_succ]; rfl) (by simp only [RX.put_some, RX.put_none, List.set_cons_zero, List.set_cons_succ]; rfl) ?_
         refine hR _ _ ?_; clear hR R)
      | (refine RX.one_nil (by first | rfl | (rw [HO.out]; rfl)) rfl rfl (by simp only [RX.eval_tmp, RX.eval_const, List.getD_cons_zero, List.getD_cons_succ]; rfl) (by simp only [RX.put_some, RX.put_none, List.set_cons_zero, List.set_cons_succ]; rfl) ?_
         refine hR _ _ ?_; clear hR R)
      | (refine RX.one_float (by first | rfl | (rw [HO.out]; rfl)) rfl rfl rfl ?_
         apply Exists.intro; apply Exists.intro
         refine ⟨fun w' hS K hK => ?_, ?_, ?_⟩
         · obtain ⟨hS1, hS2⟩ := hS; go_wp2; exact hK _ _ (by simp only [RX.arr_getD, List.getD_cons_zero, List.getD_cons_succ]; first | exact RX.dec_t (by omega) | exact RX.dec_f (by omega) | exact RX.beq_t (by omega) | exact RX.beq_f (by omega) | exact RX.bne_t (by omega) | exact RX.bne_f (by omega) | exact RX.bneB _ | rfl) rfl
         · simp only [RX.put_some, RX.put_none, List.set_cons_zero, List.set_cons_succ]; rfl
         refine hR _ _ ?_; clear hR R)
    refine RX.wpL_nil (hQR _ _ (⟨k1, k2⟩) ?_); clear hQR QR HO OPS
    go_wp2
    go_ret
    rw [decide_eq_true hnn.out]
    exact ⟨rfl, hB⟩
end Go.Proofs.YtpbfgnffkhabnaaDoor
