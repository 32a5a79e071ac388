import Derived.Test.YtgemfgfhdbkgfaaRadius
import Derived.Test.YtgemfgfhdbkgfaaMod
set_option linter.unusedSimpArgs false
set_option linter.unusedVariables false
namespace Go.Proofs.Ytgemfgfhdbkgfaa
open Go.RowKit

theorem and_mask44 (a : Int) : bits .and .i64 a 17592186044415 = a % 17592186044416 := by
  have h0 : ∀ n : Nat, n &&& 17592186044415 = n % 17592186044416 := fun n => Nat.and_two_pow_sub_one_eq_mod n 44
  show IntKind.i64.wrap ((BitVec.ofInt 64 a &&& BitVec.ofInt 64 17592186044415).toNat : Int) = _
  rw [BitVec.toNat_and, show (BitVec.ofInt 64 17592186044415).toNat = 17592186044415 from by decide, h0, BitVec.toNat_ofInt, IntKind.wrap_i64]
  omega

set_option maxRecDepth 100000 in
set_option maxHeartbeats 1000000 in
theorem wide_any (n : Int) (w : World) (h0 : -9223372036854775808 ≤ n) (h1 : n ≤ 9223372036854775807) :
    Calls Try.prog 20 #[.int .i64 n] w fun e w' => e = .returned (.agg #[.int .i64 (n / 18446744073709551616), .int .u64 (n % 18446744073709551616)]) ∧ Below w.heap.size w w' := by
  have H1 : Hid (n / 9223372036854775808 = n / 18446744073709551616) := by show _ = _; omega
  obtain ⟨u, hu⟩ : ∃ u, IntKind.u64.wrap n = u := ⟨_, rfl⟩
  have H2 : Hid (u = n % 18446744073709551616) := by show _ = _; rw [← hu, IntKind.wrap_u64]
  have b0 : -9223372036854775808 ≤ n / 9223372036854775808 := by omega
  have b1 : n / 9223372036854775808 ≤ 9223372036854775807 := by omega
  clear h0 h1
  go_enter Try.func20, Try.ntmps20
  go_wp2
  refine bodyPost_ret (v := .agg #[.int .i64 (n / 18446744073709551616), .int .u64 (n % 18446744073709551616)]) ?_ rfl ⟨rfl, (by repeat (first | exact Below.refl _ _ | assumption | apply Below.drew | refine Below.alloc ?_ (by first | (simp; done) | (simp; omega)) _ | refine Below.setCell ?_ (by first | (simp; done) | (simp; omega)) _))⟩
  rw [H1.out, H2.out]; simp [results, Try.results20, go_sem]

set_option maxRecDepth 100000 in
theorem awake26 (w : World) : Calls Try.prog 8 #[] w fun e w' => e = .returned (.bool true) ∧ Below w.heap.size w w' := by
  go_enter Try.func8, Try.ntmps8
  go_wp2_with fail
  refine (wide_any _ _ (by omega) (by omega)).mono ?_
  rintro e w1 ⟨rfl, hb1⟩
  rw [show (10 : Int) / 18446744073709551616 = 0 from by decide, show (10 : Int) % 18446744073709551616 = 10 from by decide]
  go_wp2_with fail
  refine (radius_ok _ _ _ _ (by omega) (by omega) (by omega) (by omega) (by omega) (by omega)).mono ?_
  rintro e w2 ⟨r, rfl, hr0, hr1, hr2, hb2⟩
  have hr : r = 2 := by
    have a1 : ¬ 2 < r := fun h => by have := hr2 2 h; simp [enough] at this
    have a2 : ¬ r = 0 := fun h => by subst h; simp [enough] at hr1
    have a3 : ¬ r = 1 := fun h => by subst h; simp [enough] at hr1
    omega
  subst hr
  clear hr0 hr1 hr2
  have hB : Below w.heap.size w w2 := hb1.trans (hb2.mono hb1.size)
  go_wp2
  go_ret
  exact ⟨rfl, hB⟩

set_option maxRecDepth 100000 in
set_option maxHeartbeats 2000000 in
theorem least_any (sh sl x : Int) (w : World) (hl0 : 0 ≤ sl) (hl1 : sl ≤ 18446744073709551615) (hx0 : -9223372036854775808 ≤ x) (hx1 : x ≤ 9223372036854775807) :
    Calls Try.prog 4 #[.agg #[.int .i64 sh, .int .u64 sl], .int .i64 x] w fun e w' => e = .returned (.bool true) ∧ Below w.heap.size w w' := by
  obtain ⟨h, hh⟩ : ∃ h, h = sh % 17592186044416 := ⟨_, rfl⟩
  have hand : bits .and .i64 sh 17592186044415 = h := by rw [and_mask44, hh]
  have hh0 : 0 ≤ h := by omega
  have hh1 : h ≤ 17592186044415 := by omega
  obtain ⟨k, hk⟩ : ∃ k, 1 + x % 1000 = k := ⟨_, rfl⟩
  have hk0 : 1 ≤ k := by omega
  have hk1 : k ≤ 1000 := by omega
  clear hh
  go_enter Try.func4, Try.ntmps4
  go_wp2_with fail
  refine (awake26 _).mono ?_
  rintro e w1 ⟨rfl, hb1⟩
  have c0 : w1.cell? ⟨w.heap.size, 0, none⟩ = some (.int .i64 sh) := RX.keep hb1 (by simp [RX.cell_drew, RX.cell_alloc, Nat.add_assoc])
  have c1 : w1.cell? ⟨w.heap.size, 1, none⟩ = some (.int .u64 sl) := RX.keep hb1 (by simp [RX.cell_drew, RX.cell_alloc, Nat.add_assoc])
  have f0 : w1.frozen? ⟨w.heap.size, 0, none⟩ = false := (hb1.frozen (by simp)).trans (by simp [RX.frozen_drew, RX.frozen_alloc, Nat.add_assoc])
  have hB1 : Below w.heap.size w w1 := Below.trans (by repeat (first | exact Below.refl _ _ | assumption | apply Below.drew | refine Below.alloc ?_ (by first | (simp; done) | (simp; omega)) _ | refine Below.setCell ?_ (by first | (simp; done) | (simp; omega)) _)) (hb1.mono (by simp))
  have hz1 : w.heap.size + 1 ≤ w1.heap.size := by have := hb1.size; simpa using this
  clear hb1
  go_wp2_with fail
  refine (fmod_any _ _ _ (by omega) (by omega) (by omega) (by omega)).mono ?_
  rintro e w2 ⟨rfl, rfl⟩
  go_wp2_with fail
  have hsq : h * 18446744073709551616 + sl < 324518553658426726783156020576256 := by omega
  refine (radius_ok h sl k _ hl0 hl1 hh0 (by omega) hk0 (by omega)).mono ?_
  rintro e w3 ⟨r, rfl, hr0, hr1, hr2, hb3⟩
  have d0 : w3.cell? ⟨w.heap.size, 0, none⟩ = some (.int .i64 h) := RX.keep hb3 (World.cell?_setCell_same _ _ _ c0)
  have d1 : w3.cell? ⟨w.heap.size, 1, none⟩ = some (.int .u64 sl) := RX.keep hb3 ((World.cell?_setCell_other _ _ _ _ (by simp)).trans c1)
  have hB3 : Below w.heap.size w w3 := (hB1.setCell (by simp) _).trans (hb3.mono (by simp [World.setCell]; omega))
  clear hb3 hB1 c0 c1 f0 hand hk
  have hr54 : r ≤ 18014398509481984 := by
    refine Nat.le_of_not_lt fun hlt => ?_
    have := hr2 _ hlt
    unfold enough at this
    rw [decide_eq_false_iff_not] at this
    have e1 : (18014398509481984 : Int) * 1 ≤ ((18014398509481984 : Nat) : Int) * k := Int.mul_le_mul_of_nonneg_left hk0 (by omega)
    have e2 := Int.mul_le_mul e1 e1 (by omega) (by omega)
    omega
  have hq := Int.ediv_mul_le 4611686018427387904 (show k ≠ 0 by omega)
  have hrk0 : 0 ≤ (r : Int) * k := Int.mul_nonneg (by omega) (by omega)
  have hrk1 : (r : Int) * k ≤ 4611686018427387904 + 1000 := by
    have := Int.mul_le_mul_of_nonneg_right hr0 (show 0 ≤ k by omega)
    rw [Int.add_mul] at this; omega
  have hrk2 : ((r : Int) - 1) * k = r * k - k := by rw [Int.sub_mul]; omega
  have HE := Lib.hid hr1
  have HL := Lib.hid hr2
  have HK := Lib.hid hrk2
  clear hr1 hr2 hr0 hq hrk2 hsq
  obtain ⟨c, hc⟩ : ∃ c, c = cmpW ((r : Int) * k * (r * k) / 18446744073709551616) ((r : Int) * k * (r * k) % 18446744073709551616) h sl := ⟨_, rfl⟩
  have hc0 : 0 ≤ c := by
    rw [hc, cmpW_div _ _ _ hl0 (by omega)]
    have := HE.out; unfold enough at this; rw [decide_eq_true_eq] at this
    unfold sgn; (repeat' split) <;> omega
  have HC := Lib.hid hc
  clear hc
  by_cases hrz : (r : Int) ≤ 0
  · go_wp2
    refine RX.region RX.fL (fun w' => w'.cell? ⟨w.heap.size, 0, none⟩ = some (.int .i64 h) ∧ w'.cell? ⟨w.heap.size, 1, none⟩ = some (.int .u64 sl)) (by kernel_rfl) (by kernel_rfl) (⟨d0, d1⟩) (fun OPS HO QR hQR => ?_)
    repeat
      refine RX.step (fun R hR => ?_)
      first
      | (refine RX.one_skip (by first | rfl | (rw [HO.out]; rfl)) (by simp only [RX.put_some, List.set_cons_zero, List.set_cons_succ]; rfl) ?_
         refine hR _ _ ?_; clear hR R)
      | (refine RX.one_move (by first | rfl | (rw [HO.out]; rfl)) rfl (by first | exact Or.inl rfl | exact Or.inr rfl) (by simp only [RX.eval_tmp, RX.eval_const, List.getD_cons_zero, List.getD_cons_succ]; rfl) (by simp only [RX.put_some, List.set_cons_zero, List.set_cons_succ]; rfl) ?_
         refine hR _ _ ?_; clear hR R)
      | (refine RX.one_float (by first | rfl | (rw [HO.out]; rfl)) rfl rfl rfl ?_
         apply Exists.intro; apply Exists.intro
         refine ⟨fun w' hS K hK => ?_, ?_, ?_⟩
         · obtain ⟨hS1, hS2⟩ := hS; go_wp2; exact hK _ _ (by simp only [RX.arr_getD, List.getD_cons_zero, List.getD_cons_succ]; first | exact RX.dec_t (by omega) | exact RX.dec_f (by omega) | exact RX.beq_t (by omega) | exact RX.beq_f (by omega) | exact RX.bne_t (by omega) | exact RX.bne_f (by omega) | rfl) rfl
         · simp only [RX.put_some, List.set_cons_zero, List.set_cons_succ]; rfl
         refine hR _ _ ?_; clear hR R)
    refine RX.step (fun R hR => ?_)
    refine RX.one_chain (by first | rfl | (rw [HO.out]; rfl)) rfl (fun K hK => ?_)
    go_wp2_with fail
    refine (product_any _ _ _ (by omega) (by omega) (by omega) (by omega)).mono ?_
    rintro e w4 ⟨rfl, hb4⟩
    have k0 := RX.keep hb4 d0
    have k1 := RX.keep hb4 d1
    refine hK _ _ ⟨⟨k0, k1⟩, hR _ _ ?_⟩; clear hK K hR R
    repeat
      refine RX.step (fun R hR => ?_)
      first
      | (refine RX.one_skip (by first | rfl | (rw [HO.out]; rfl)) (by simp only [RX.put_some, List.set_cons_zero, List.set_cons_succ]; rfl) ?_
         refine hR _ _ ?_; clear hR R)
      | (refine RX.one_move (by first | rfl | (rw [HO.out]; rfl)) rfl (by first | exact Or.inl rfl | exact Or.inr rfl) (by simp only [RX.eval_tmp, RX.eval_const, List.getD_cons_zero, List.getD_cons_succ]; rfl) (by simp only [RX.put_some, List.set_cons_zero, List.set_cons_succ]; rfl) ?_
         refine hR _ _ ?_; clear hR R)
      | (refine RX.one_float (by first | rfl | (rw [HO.out]; rfl)) rfl rfl rfl ?_
         apply Exists.intro; apply Exists.intro
         refine ⟨fun w' hS K hK => ?_, ?_, ?_⟩
         · obtain ⟨hS1, hS2⟩ := hS; go_wp2; exact hK _ _ (by simp only [RX.arr_getD, List.getD_cons_zero, List.getD_cons_succ]; first | exact RX.dec_t (by omega) | exact RX.dec_f (by omega) | exact RX.beq_t (by omega) | exact RX.beq_f (by omega) | exact RX.bne_t (by omega) | exact RX.bne_f (by omega) | rfl) rfl
         · simp only [RX.put_some, List.set_cons_zero, List.set_cons_succ]; rfl
         refine hR _ _ ?_; clear hR R)
    refine RX.step (fun R hR => ?_)
    refine RX.one_chain (by first | rfl | (rw [HO.out]; rfl)) rfl (fun K hK => ?_)
    go_wp2_with fail
    refine (compare_any _ _ _ _ _).mono ?_
    rintro e w5 ⟨rfl, hb5⟩
    rw [← HC.out]
    have hB5 : Below w.heap.size w w5 := (hB3.drew.trans (hb4.mono hB3.size)).trans (hb5.mono (Nat.le_trans hB3.size hb4.size))
    have m0 := RX.keep hb5 k0
    have m1 := RX.keep hb5 k1
    clear hb4 hb5 k0 k1 d0 d1
    refine hK _ _ ⟨⟨m0, m1⟩, hR _ _ ?_⟩; clear hK K hR R
    repeat
      refine RX.step (fun R hR => ?_)
      first
      | (refine RX.one_skip (by first | rfl | (rw [HO.out]; rfl)) (by simp only [RX.put_some, List.set_cons_zero, List.set_cons_succ]; rfl) ?_
         refine hR _ _ ?_; clear hR R)
      | (refine RX.one_move (by first | rfl | (rw [HO.out]; rfl)) rfl (by first | exact Or.inl rfl | exact Or.inr rfl) (by simp only [RX.eval_tmp, RX.eval_const, List.getD_cons_zero, List.getD_cons_succ]; rfl) (by simp only [RX.put_some, List.set_cons_zero, List.set_cons_succ]; rfl) ?_
         refine hR _ _ ?_; clear hR R)
      | (refine RX.one_float (by first | rfl | (rw [HO.out]; rfl)) rfl rfl rfl ?_
         apply Exists.intro; apply Exists.intro
         refine ⟨fun w' hS K hK => ?_, ?_, ?_⟩
         · obtain ⟨hS1, hS2⟩ := hS; go_wp2; exact hK _ _ (by simp only [RX.arr_getD, List.getD_cons_zero, List.getD_cons_succ]; first | exact RX.dec_t (by omega) | exact RX.dec_f (by omega) | exact RX.beq_t (by omega) | exact RX.beq_f (by omega) | exact RX.bne_t (by omega) | exact RX.bne_f (by omega) | rfl) rfl
         · simp only [RX.put_some, List.set_cons_zero, List.set_cons_succ]; rfl
         refine hR _ _ ?_; clear hR R)
    refine RX.wpL_nil (hQR _ _ (⟨m0, m1⟩) ?_); clear hQR QR HO OPS
    go_wp2
    go_ret
    exact ⟨rfl, hB5⟩
  · have hm0 : 0 ≤ ((r : Int) - 1) * k := Int.mul_nonneg (by omega) (by omega)
    have hm1 : ((r : Int) - 1) * k ≤ 4611686018427387904 + 1000 := by rw [HK.out]; omega
    obtain ⟨c', hc'⟩ : ∃ c', c' = cmpW (((r : Int) - 1) * k * (((r : Int) - 1) * k) / 18446744073709551616) (((r : Int) - 1) * k * (((r : Int) - 1) * k) % 18446744073709551616) h sl := ⟨_, rfl⟩
    have hc1 : c' < 0 := by
      rw [hc', cmpW_div _ _ _ hl0 (by omega)]
      have := HL.out (r - 1) (by omega); unfold enough at this; rw [decide_eq_false_iff_not, show ((r - 1 : Nat) : Int) = (r : Int) - 1 by omega] at this
      unfold sgn; (repeat' split) <;> omega
    have HC' := Lib.hid hc'
    clear hc'
    go_wp2
    refine RX.region RX.fL (fun w' => w'.cell? ⟨w.heap.size, 0, none⟩ = some (.int .i64 h) ∧ w'.cell? ⟨w.heap.size, 1, none⟩ = some (.int .u64 sl)) (by kernel_rfl) (by kernel_rfl) (⟨d0, d1⟩) (fun OPS HO QR hQR => ?_)
    repeat
      refine RX.step (fun R hR => ?_)
      first
      | (refine RX.one_skip (by first | rfl | (rw [HO.out]; rfl)) (by simp only [RX.put_some, List.set_cons_zero, List.set_cons_succ]; rfl) ?_
         refine hR _ _ ?_; clear hR R)
      | (refine RX.one_move (by first | rfl | (rw [HO.out]; rfl)) rfl (by first | exact Or.inl rfl | exact Or.inr rfl) (by simp only [RX.eval_tmp, RX.eval_const, List.getD_cons_zero, List.getD_cons_succ]; rfl) (by simp only [RX.put_some, List.set_cons_zero, List.set_cons_succ]; rfl) ?_
         refine hR _ _ ?_; clear hR R)
      | (refine RX.one_float (by first | rfl | (rw [HO.out]; rfl)) rfl rfl rfl ?_
         apply Exists.intro; apply Exists.intro
         refine ⟨fun w' hS K hK => ?_, ?_, ?_⟩
         · obtain ⟨hS1, hS2⟩ := hS; go_wp2; exact hK _ _ (by simp only [RX.arr_getD, List.getD_cons_zero, List.getD_cons_succ]; first | exact RX.dec_t (by omega) | exact RX.dec_f (by omega) | exact RX.beq_t (by omega) | exact RX.beq_f (by omega) | exact RX.bne_t (by omega) | exact RX.bne_f (by omega) | rfl) rfl
         · simp only [RX.put_some, List.set_cons_zero, List.set_cons_succ]; rfl
         refine hR _ _ ?_; clear hR R)
    refine RX.step (fun R hR => ?_)
    refine RX.one_chain (by first | rfl | (rw [HO.out]; rfl)) rfl (fun K hK => ?_)
    go_wp2_with fail
    refine (product_any _ _ _ (by omega) (by omega) (by omega) (by omega)).mono ?_
    rintro e w4 ⟨rfl, hb4⟩
    have k0 := RX.keep hb4 d0
    have k1 := RX.keep hb4 d1
    refine hK _ _ ⟨⟨k0, k1⟩, hR _ _ ?_⟩; clear hK K hR R
    repeat
      refine RX.step (fun R hR => ?_)
      first
      | (refine RX.one_skip (by first | rfl | (rw [HO.out]; rfl)) (by simp only [RX.put_some, List.set_cons_zero, List.set_cons_succ]; rfl) ?_
         refine hR _ _ ?_; clear hR R)
      | (refine RX.one_move (by first | rfl | (rw [HO.out]; rfl)) rfl (by first | exact Or.inl rfl | exact Or.inr rfl) (by simp only [RX.eval_tmp, RX.eval_const, List.getD_cons_zero, List.getD_cons_succ]; rfl) (by simp only [RX.put_some, List.set_cons_zero, List.set_cons_succ]; rfl) ?_
         refine hR _ _ ?_; clear hR R)
      | (refine RX.one_float (by first | rfl | (rw [HO.out]; rfl)) rfl rfl rfl ?_
         apply Exists.intro; apply Exists.intro
         refine ⟨fun w' hS K hK => ?_, ?_, ?_⟩
         · obtain ⟨hS1, hS2⟩ := hS; go_wp2; exact hK _ _ (by simp only [RX.arr_getD, List.getD_cons_zero, List.getD_cons_succ]; first | exact RX.dec_t (by omega) | exact RX.dec_f (by omega) | exact RX.beq_t (by omega) | exact RX.beq_f (by omega) | exact RX.bne_t (by omega) | exact RX.bne_f (by omega) | rfl) rfl
         · simp only [RX.put_some, List.set_cons_zero, List.set_cons_succ]; rfl
         refine hR _ _ ?_; clear hR R)
    refine RX.step (fun R hR => ?_)
    refine RX.one_chain (by first | rfl | (rw [HO.out]; rfl)) rfl (fun K hK => ?_)
    go_wp2_with fail
    refine (compare_any _ _ _ _ _).mono ?_
    rintro e w5 ⟨rfl, hb5⟩
    rw [← HC.out]
    have hB5 : Below w.heap.size w w5 := (hB3.drew.trans (hb4.mono hB3.size)).trans (hb5.mono (Nat.le_trans hB3.size hb4.size))
    have m0 := RX.keep hb5 k0
    have m1 := RX.keep hb5 k1
    clear hb4 hb5 k0 k1 d0 d1
    refine hK _ _ ⟨⟨m0, m1⟩, hR _ _ ?_⟩; clear hK K hR R
    repeat
      refine RX.step (fun R hR => ?_)
      first
      | (refine RX.one_skip (by first | rfl | (rw [HO.out]; rfl)) (by simp only [RX.put_some, List.set_cons_zero, List.set_cons_succ]; rfl) ?_
         refine hR _ _ ?_; clear hR R)
      | (refine RX.one_move (by first | rfl | (rw [HO.out]; rfl)) rfl (by first | exact Or.inl rfl | exact Or.inr rfl) (by simp only [RX.eval_tmp, RX.eval_const, List.getD_cons_zero, List.getD_cons_succ]; rfl) (by simp only [RX.put_some, List.set_cons_zero, List.set_cons_succ]; rfl) ?_
         refine hR _ _ ?_; clear hR R)
      | (refine RX.one_float (by first | rfl | (rw [HO.out]; rfl)) rfl rfl rfl ?_
         apply Exists.intro; apply Exists.intro
         refine ⟨fun w' hS K hK => ?_, ?_, ?_⟩
         · obtain ⟨hS1, hS2⟩ := hS; go_wp2; exact hK _ _ (by simp only [RX.arr_getD, List.getD_cons_zero, List.getD_cons_succ]; first | exact RX.dec_t (by omega) | exact RX.dec_f (by omega) | exact RX.beq_t (by omega) | exact RX.beq_f (by omega) | exact RX.bne_t (by omega) | exact RX.bne_f (by omega) | rfl) rfl
         · simp only [RX.put_some, List.set_cons_zero, List.set_cons_succ]; rfl
         refine hR _ _ ?_; clear hR R)
    refine RX.step (fun R hR => ?_)
    refine RX.one_chain (by first | rfl | (rw [HO.out]; rfl)) rfl (fun K hK => ?_)
    go_wp2_with fail
    refine (product_any _ _ _ (by omega) (by omega) (by omega) (by omega)).mono ?_
    rintro e w6 ⟨rfl, hb6⟩
    have k0 := RX.keep hb6 m0
    have k1 := RX.keep hb6 m1
    refine hK _ _ ⟨⟨k0, k1⟩, hR _ _ ?_⟩; clear hK K hR R
    repeat
      refine RX.step (fun R hR => ?_)
      first
      | (refine RX.one_skip (by first | rfl | (rw [HO.out]; rfl)) (by simp only [RX.put_some, List.set_cons_zero, List.set_cons_succ]; rfl) ?_
         refine hR _ _ ?_; clear hR R)
      | (refine RX.one_move (by first | rfl | (rw [HO.out]; rfl)) rfl (by first | exact Or.inl rfl | exact Or.inr rfl) (by simp only [RX.eval_tmp, RX.eval_const, List.getD_cons_zero, List.getD_cons_succ]; rfl) (by simp only [RX.put_some, List.set_cons_zero, List.set_cons_succ]; rfl) ?_
         refine hR _ _ ?_; clear hR R)
      | (refine RX.one_float (by first | rfl | (rw [HO.out]; rfl)) rfl rfl rfl ?_
         apply Exists.intro; apply Exists.intro
         refine ⟨fun w' hS K hK => ?_, ?_, ?_⟩
         · obtain ⟨hS1, hS2⟩ := hS; go_wp2; exact hK _ _ (by simp only [RX.arr_getD, List.getD_cons_zero, List.getD_cons_succ]; first | exact RX.dec_t (by omega) | exact RX.dec_f (by omega) | exact RX.beq_t (by omega) | exact RX.beq_f (by omega) | exact RX.bne_t (by omega) | exact RX.bne_f (by omega) | rfl) rfl
         · simp only [RX.put_some, List.set_cons_zero, List.set_cons_succ]; rfl
         refine hR _ _ ?_; clear hR R)
    refine RX.step (fun R hR => ?_)
    refine RX.one_chain (by first | rfl | (rw [HO.out]; rfl)) rfl (fun K hK => ?_)
    go_wp2_with fail
    refine (compare_any _ _ _ _ _).mono ?_
    rintro e w7 ⟨rfl, hb7⟩
    rw [← HC'.out]
    have hB7 : Below w.heap.size w w7 := (hB5.trans (hb6.mono hB5.size)).trans (hb7.mono (Nat.le_trans hB5.size hb6.size))
    have n0 := RX.keep hb7 k0
    have n1 := RX.keep hb7 k1
    clear hb6 hb7 k0 k1 m0 m1
    refine hK _ _ ⟨⟨n0, n1⟩, hR _ _ ?_⟩; clear hK K hR R
    repeat
      refine RX.step (fun R hR => ?_)
      first
      | (refine RX.one_skip (by first | rfl | (rw [HO.out]; rfl)) (by simp only [RX.put_some, List.set_cons_zero, List.set_cons_succ]; rfl) ?_
         refine hR _ _ ?_; clear hR R)
      | (refine RX.one_move (by first | rfl | (rw [HO.out]; rfl)) rfl (by first | exact Or.inl rfl | exact Or.inr rfl) (by simp only [RX.eval_tmp, RX.eval_const, List.getD_cons_zero, List.getD_cons_succ]; rfl) (by simp only [RX.put_some, List.set_cons_zero, List.set_cons_succ]; rfl) ?_
         refine hR _ _ ?_; clear hR R)
      | (refine RX.one_float (by first | rfl | (rw [HO.out]; rfl)) rfl rfl rfl ?_
         apply Exists.intro; apply Exists.intro
         refine ⟨fun w' hS K hK => ?_, ?_, ?_⟩
         · obtain ⟨hS1, hS2⟩ := hS; go_wp2; exact hK _ _ (by simp only [RX.arr_getD, List.getD_cons_zero, List.getD_cons_succ]; first | exact RX.dec_t (by omega) | exact RX.dec_f (by omega) | exact RX.beq_t (by omega) | exact RX.beq_f (by omega) | exact RX.bne_t (by omega) | exact RX.bne_f (by omega) | rfl) rfl
         · simp only [RX.put_some, List.set_cons_zero, List.set_cons_succ]; rfl
         refine hR _ _ ?_; clear hR R)
    refine RX.wpL_nil (hQR _ _ (⟨n0, n1⟩) ?_); clear hQR QR HO OPS
    go_wp2
    go_ret
    exact ⟨rfl, hB7⟩
end Go.Proofs.Ytgemfgfhdbkgfaa
