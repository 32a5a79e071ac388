import Derived.Test.YtojkamfabapcoaaGreatDoorKSum
import Derived.Shelf.Abstract
set_option linter.unusedSimpArgs false
set_option linter.unusedVariables false
namespace Go.Proofs.YtojkamfabapcoaaGreatDoor
open Go.RowKit

set_option maxRecDepth 100000 in
set_option maxHeartbeats 1000000 in
theorem search_any (n : Nat) (hn : n ≤ 4611686018427387905) (g : FuncId) (caps : Array Value) (q : Nat → Bool) (hmono : ∀ i j, i ≤ j → q i = true → q j = true) (w : World)
    (hen : ∀ args w, (callFunc g args).run Tryz.prog w = .ok (.enter g args) w)
    (hq : ∀ i, i < n → ∀ w', Below w.heap.size w w' → Calls Tryz.prog g (#[.int .i64 (i : Int)] ++ caps) w' fun e w'' => e = .returned (.bool (q i)) ∧ Below w'.heap.size w' w'') :
    Calls Tryz.prog 88 #[.int .i64 (n : Int), .func (.func g) #[] caps] w fun e w' => ∃ r : Nat, e = .returned (.int .i64 (r : Int)) ∧ r ≤ n ∧ (∀ j, j < r → q j = false) ∧ (r < n → q r = true) ∧ Below w.heap.size w w' := by
  have HQ := Lib.hid hq
  have HM := Lib.hid hmono
  have HN := Lib.hid hn
  clear hq hmono hn
  go_enter Tryz.func88, Tryz.ntmps88
  go_wp2
  go_loopw [5, 6] (fun a b wr => ∃ i j : Nat, i ≤ j ∧ j ≤ n ∧ a = .int .i64 (i : Int) ∧ b = .int .i64 (j : Int) ∧ Hid (∀ k, k < i → q k = false) ∧ Hid (j < n → q j = true) ∧ Below w.heap.size w wr) (fun a b _ => (intOf b - intOf a).toNat)
  case atStart => exact ⟨0, n, Nat.zero_le _, Nat.le_refl _, rfl, rfl, Lib.hid fun k hk => by omega, Lib.hid fun h => by omega, Below.refl _ _⟩
  case round =>
    obtain ⟨i, j, hij, hjn, rfl, rfl, HI, HJ, hb⟩ := hrel
    by_cases hlt : i < j
    · go_wp2_with fail
      have hm := mid_wrap i j (by have := HN.out; omega)
      rw [hm]
      obtain ⟨m, hmd⟩ : ∃ m, m = (i + j) / 2 := ⟨_, rfl⟩
      rw [← hmd]
      have hm1 : i ≤ m := by omega
      have hm2 : m < j := by omega
      clear hm hmd
      refine (HQ.out m (by omega) wr hb).mono ?_
      rintro e w1 ⟨rfl, hb1⟩
      have hb2 : Below w.heap.size w w1 := hb.trans (hb1.mono hb.size)
      clear hb hb1
      have HM2 : Hid (m + 1 ≤ 9223372036854775807) := by show _ ≤ _; have := HN.out; omega
      have hm3 : m ≤ 4611686018427387905 := by have := HN.out; omega
      cases hqm : q m
      · have HqM := Lib.hid hqm
        clear hqm
        go_wp2
        go_roundw
        case rel => exact ⟨m + 1, j, by omega, hjn, by go_num, rfl, Lib.hid fun k hk => by
          by_cases hkm : q k = true
          · have := HM.out k m (by omega) hkm
            rw [HqM.out] at this; cases this
          · simpa using hkm, HJ, hb2⟩
        case measure => simp [intOf]; omega
      · have HqM := Lib.hid hqm
        clear hqm
        go_wp2
        go_roundw
        case rel => exact ⟨i, m, hm1, by omega, rfl, rfl, HI, Lib.hid fun _ => HqM.out, hb2⟩
        case measure => simp [intOf]; omega
    · obtain rfl : i = j := by omega
      go_wp2
      go_ret
      exact ⟨i, rfl, hjn, HI.out, HJ.out, hb⟩
end Go.Proofs.YtojkamfabapcoaaGreatDoor

set_option linter.unusedSimpArgs false
set_option linter.unusedVariables false
namespace Go.Proofs.YtojkamfabapcoaaGreatDoor
open Go.RowKit

/-- Whether a radius is enough: its square times that of the anchor. -/
def enough (sq anchor : Int) (r : Nat) : Bool := decide (sq ≤ r * anchor * (r * anchor))
theorem enough_mono (sq anchor : Int) (ha : 0 ≤ anchor) (i j : Nat) (h : i ≤ j) (hi : enough sq anchor i = true) : enough sq anchor j = true := by
  unfold enough at *
  have h1 : (i : Int) * anchor ≤ j * anchor := Int.mul_le_mul_of_nonneg_right (by omega) ha
  have h2 : 0 ≤ (i : Int) * anchor := Int.mul_nonneg (by omega) ha
  have h3 := Int.mul_le_mul h1 h1 h2 (by omega)
  simp only [decide_eq_true_eq] at *
  omega

set_option maxRecDepth 100000 in
set_option maxHeartbeats 1000000 in
theorem enough_any (r : Nat) (anchor sh sl : Int) (B3 B2 : Nat) (w : World) (h3 : w.cell? ⟨B3, 0, none⟩ = some (.int .i64 anchor)) (h20 : w.cell? ⟨B2, 0, none⟩ = some (.int .i64 sh)) (h21 : w.cell? ⟨B2, 1, none⟩ = some (.int .u64 sl))
    (hl0 : 0 ≤ sl) (hl1 : sl ≤ 18446744073709551615) (hr0 : 0 ≤ (r : Int) * anchor) (hr1 : (r : Int) * anchor ≤ 4611686018427387904) :
    Calls Tryz.prog 87 #[.int .i64 (r : Int), .pointer (some ⟨B3, 0, none⟩), .pointer (some ⟨B2, 0, none⟩)] w fun e w' => e = .returned (.bool (enough (sh * 18446744073709551616 + sl) anchor r)) ∧ Below w.heap.size w w' := by
  obtain ⟨c, hc⟩ : ∃ c, c = cmpW ((r : Int) * anchor * (r * anchor) / 18446744073709551616) ((r : Int) * anchor * (r * anchor) % 18446744073709551616) sh sl := ⟨_, rfl⟩
  have HE : Hid (decide (0 ≤ c) = enough (sh * 18446744073709551616 + sl) anchor r) := by
    show _ = _
    rw [hc, cmpW_div _ _ _ hl0 (by omega)]
    unfold enough sgn
    rw [Bool.eq_iff_iff]
    simp only [decide_eq_true_eq]
    (repeat' split) <;> omega
  have HC := Lib.hid hc
  clear hc hl0 hl1
  go_enter Tryz.func87, Tryz.ntmps87
  go_wp2
  refine RX.region RX.fL (fun w' => w'.cell? ⟨B3, 0, none⟩ = some (.int .i64 anchor) ∧ w'.cell? ⟨B2, 0, none⟩ = some (.int .i64 sh) ∧ w'.cell? ⟨B2, 1, none⟩ = some (.int .u64 sl)) (by kernel_rfl) (by kernel_rfl) (⟨h3, h20, h21⟩) (fun OPS HO QR hQR => ?_)
  repeat
    refine RX.step (fun R hR => ?_)
    first
    | (refine RX.one_skip (by first | rfl | (rw [HO.out]; rfl)) (by simp only [RX.put_some, RX.put_none, List.set_cons_zero, List.set_cons_succ]; rfl) ?_
       refine hR _ _ ?_; clear hR R)
    | (refine RX.one_move (by first | rfl | (rw [HO.out]; rfl)) rfl (by first | exact Or.inl rfl | exact Or.inr rfl) (by simp only [RX.eval_tmp, RX.eval_const, List.getD_cons_zero, List.getD_cons_succ]; rfl) (by simp only [RX.put_some, RX.put_none, List.set_cons_zero, List.set_cons_succ]; rfl) ?_
       refine hR _ _ ?_; clear hR R)
    | (refine RX.one_nil (by first | rfl | (rw [HO.out]; rfl)) rfl rfl (by simp only [RX.eval_tmp, RX.eval_const, List.getD_cons_zero, List.getD_cons_succ]; rfl) (by simp only [RX.put_some, RX.put_none, List.set_cons_zero, List.set_cons_succ]; rfl) ?_
       refine hR _ _ ?_; clear hR R)
    | (refine RX.one_float (by first | rfl | (rw [HO.out]; rfl)) rfl rfl rfl ?_
       apply Exists.intro; apply Exists.intro
       refine ⟨fun w' hS K hK => ?_, ?_, ?_⟩
       · obtain ⟨hS1, hS2, hS3⟩ := hS; go_wp2; exact hK _ _ (by simp only [RX.arr_getD, List.getD_cons_zero, List.getD_cons_succ]; first | exact RX.dec_t (by omega) | exact RX.dec_f (by omega) | exact RX.beq_t (by omega) | exact RX.beq_f (by omega) | exact RX.bne_t (by omega) | exact RX.bne_f (by omega) | exact RX.bneB _ | rfl) rfl
       · simp only [RX.put_some, RX.put_none, List.set_cons_zero, List.set_cons_succ]; rfl
       refine hR _ _ ?_; clear hR R)
  refine RX.step (fun R hR => ?_)
  refine RX.one_chain (by first | rfl | (rw [HO.out]; rfl)) rfl (fun K hK => ?_)
  go_wp2_with fail
  refine (product_any _ _ _ (by omega) (by omega) (by omega) (by omega)).mono ?_
  rintro e w1 ⟨rfl, hb1⟩
  have k1 := RX.keep hb1 h3
  have k2 := RX.keep hb1 h20
  have k3 := RX.keep hb1 h21
  refine hK _ _ ⟨⟨k1, k2, k3⟩, hR _ _ ?_⟩; clear hK K hR R
  repeat
    refine RX.step (fun R hR => ?_)
    first
    | (refine RX.one_skip (by first | rfl | (rw [HO.out]; rfl)) (by simp only [RX.put_some, RX.put_none, List.set_cons_zero, List.set_cons_succ]; rfl) ?_
       refine hR _ _ ?_; clear hR R)
    | (refine RX.one_move (by first | rfl | (rw [HO.out]; rfl)) rfl (by first | exact Or.inl rfl | exact Or.inr rfl) (by simp only [RX.eval_tmp, RX.eval_const, List.getD_cons_zero, List.getD_cons_succ]; rfl) (by simp only [RX.put_some, RX.put_none, List.set_cons_zero, List.set_cons_succ]; rfl) ?_
       refine hR _ _ ?_; clear hR R)
    | (refine RX.one_nil (by first | rfl | (rw [HO.out]; rfl)) rfl rfl (by simp only [RX.eval_tmp, RX.eval_const, List.getD_cons_zero, List.getD_cons_succ]; rfl) (by simp only [RX.put_some, RX.put_none, List.set_cons_zero, List.set_cons_succ]; rfl) ?_
       refine hR _ _ ?_; clear hR R)
    | (refine RX.one_float (by first | rfl | (rw [HO.out]; rfl)) rfl rfl rfl ?_
       apply Exists.intro; apply Exists.intro
       refine ⟨fun w' hS K hK => ?_, ?_, ?_⟩
       · obtain ⟨hS1, hS2, hS3⟩ := hS; go_wp2; exact hK _ _ (by simp only [RX.arr_getD, List.getD_cons_zero, List.getD_cons_succ]; first | exact RX.dec_t (by omega) | exact RX.dec_f (by omega) | exact RX.beq_t (by omega) | exact RX.beq_f (by omega) | exact RX.bne_t (by omega) | exact RX.bne_f (by omega) | exact RX.bneB _ | rfl) rfl
       · simp only [RX.put_some, RX.put_none, List.set_cons_zero, List.set_cons_succ]; rfl
       refine hR _ _ ?_; clear hR R)
  refine RX.step (fun R hR => ?_)
  refine RX.one_chain (by first | rfl | (rw [HO.out]; rfl)) rfl (fun K hK => ?_)
  go_wp2_with fail
  refine (compare_any _ _ _ _ _).mono ?_
  rintro e w2 ⟨rfl, hb2⟩
  rw [← HC.out]
  refine hK _ _ ⟨⟨RX.keep hb2 k1, RX.keep hb2 k2, RX.keep hb2 k3⟩, hR _ _ ?_⟩; clear hK K hR R
  repeat
    refine RX.step (fun R hR => ?_)
    first
    | (refine RX.one_skip (by first | rfl | (rw [HO.out]; rfl)) (by simp only [RX.put_some, RX.put_none, List.set_cons_zero, List.set_cons_succ]; rfl) ?_
       refine hR _ _ ?_; clear hR R)
    | (refine RX.one_move (by first | rfl | (rw [HO.out]; rfl)) rfl (by first | exact Or.inl rfl | exact Or.inr rfl) (by simp only [RX.eval_tmp, RX.eval_const, List.getD_cons_zero, List.getD_cons_succ]; rfl) (by simp only [RX.put_some, RX.put_none, List.set_cons_zero, List.set_cons_succ]; rfl) ?_
       refine hR _ _ ?_; clear hR R)
    | (refine RX.one_nil (by first | rfl | (rw [HO.out]; rfl)) rfl rfl (by simp only [RX.eval_tmp, RX.eval_const, List.getD_cons_zero, List.getD_cons_succ]; rfl) (by simp only [RX.put_some, RX.put_none, List.set_cons_zero, List.set_cons_succ]; rfl) ?_
       refine hR _ _ ?_; clear hR R)
    | (refine RX.one_float (by first | rfl | (rw [HO.out]; rfl)) rfl rfl rfl ?_
       apply Exists.intro; apply Exists.intro
       refine ⟨fun w' hS K hK => ?_, ?_, ?_⟩
       · obtain ⟨hS1, hS2, hS3⟩ := hS; go_wp2; exact hK _ _ (by simp only [RX.arr_getD, List.getD_cons_zero, List.getD_cons_succ]; first | exact RX.dec_t (by omega) | exact RX.dec_f (by omega) | exact RX.beq_t (by omega) | exact RX.beq_f (by omega) | exact RX.bne_t (by omega) | exact RX.bne_f (by omega) | exact RX.bneB _ | rfl) rfl
       · simp only [RX.put_some, RX.put_none, List.set_cons_zero, List.set_cons_succ]; rfl
       refine hR _ _ ?_; clear hR R)
  refine RX.wpL_nil (hQR _ _ (⟨RX.keep hb2 k1, RX.keep hb2 k2, RX.keep hb2 k3⟩) ?_); clear hQR QR HO OPS
  have hb : Below w.heap.size w w2 := ((Below.refl _ w).drew.trans hb1).trans (hb2.mono hb1.size)
  clear hb1 hb2 k1 k2 k3 h3 h20 h21
  go_wp2
  go_ret
  rw [← HE.out]
  exact ⟨rfl, hb⟩

theorem enough_last (sq anchor : Int) (h1 : 1 ≤ anchor) (h2 : anchor ≤ 1000000) (hs : sq ≤ 21267647932558653966460912964485513216) : sq ≤ (4611686018427387904 / anchor + 1) * anchor * ((4611686018427387904 / anchor + 1) * anchor) := by
  have e := Int.mul_ediv_add_emod 4611686018427387904 anchor
  have e2 := Int.emod_lt_of_pos 4611686018427387904 (show 0 < anchor by omega)
  have e3 : 4611686018427387904 ≤ (4611686018427387904 / anchor + 1) * anchor := by
    rw [Int.add_mul, Int.mul_comm _ anchor]; omega
  have := Int.mul_le_mul e3 e3 (by omega) (by omega)
  omega

set_option maxRecDepth 100000 in
set_option maxHeartbeats 1000000 in
/-- Radius, where its arguments are in range: the least radius that is enough. -/
theorem radius_ok (sh sl anchor : Int) (w : World) (hl0 : 0 ≤ sl) (hl1 : sl ≤ 18446744073709551615) (hh : 0 ≤ sh) (hs : sh * 18446744073709551616 + sl ≤ 21267647932558653966460912964485513216) (ha1 : 1 ≤ anchor) (ha2 : anchor ≤ 1000000) :
    Calls Tryz.prog 40 #[.agg #[.int .i64 sh, .int .u64 sl], .int .i64 anchor] w fun e w' => ∃ r : Nat, e = .returned (.tuple #[.int .i64 (r : Int), .int .i64 0]) ∧ (r : Int) ≤ 4611686018427387904 / anchor + 1 ∧
      enough (sh * 18446744073709551616 + sl) anchor r = true ∧ (∀ j, j < r → enough (sh * 18446744073709551616 + sl) anchor j = false) ∧ Below w.heap.size w w' := by
  have hc0 : cmpW sh sl 1152921504606846976 0 ≤ 0 := by
    rw [cmpW_num _ _ _ _ hl0 (by omega) (by omega) (by omega)]
    unfold sgn
    (repeat' split) <;> omega
  have HLAST := Lib.hid (enough_last _ anchor ha1 ha2 hs)
  generalize hc : cmpW sh sl 1152921504606846976 0 = c at hc0
  have HC := Lib.hid hc
  have hane : (anchor == 0) = false := by rw [beq_eq_false_iff_ne]; omega
  have hq0 : 0 ≤ 4611686018427387904 / anchor := Int.ediv_nonneg (by omega) (by omega)
  have hq1 : 4611686018427387904 / anchor ≤ 4611686018427387904 := Int.ediv_le_self _ (by omega)
  have HMUL := Lib.hid (Int.ediv_mul_le 4611686018427387904 (show anchor ≠ 0 by omega))
  have HL := Lib.hid (And.intro hl0 hl1)
  clear hc hs hl0 hl1
  go_enter Tryz.func40, Tryz.ntmps40
  go_wp2
  refine RX.region RX.fL (fun w' => w'.cell? ⟨w.heap.size + 1, 0, none⟩ = some (.int .i64 anchor) ∧ w'.cell? ⟨w.heap.size, 0, none⟩ = some (.int .i64 sh) ∧ w'.cell? ⟨w.heap.size, 1, none⟩ = some (.int .u64 sl)) (by kernel_rfl) (by kernel_rfl) ((by simp [RX.cell_drew, RX.cell_alloc, Nat.add_assoc])) (fun OPS HO QR hQR => ?_)
  repeat
    refine RX.step (fun R hR => ?_)
    first
    | (refine RX.one_skip (by first | rfl | (rw [HO.out]; rfl)) (by simp only [RX.put_some, RX.put_none, List.set_cons_zero, List.set_cons_succ]; rfl) ?_
       refine hR _ _ ?_; clear hR R)
    | (refine RX.one_move (by first | rfl | (rw [HO.out]; rfl)) rfl (by first | exact Or.inl rfl | exact Or.inr rfl) (by simp only [RX.eval_tmp, RX.eval_const, List.getD_cons_zero, List.getD_cons_succ]; rfl) (by simp only [RX.put_some, RX.put_none, List.set_cons_zero, List.set_cons_succ]; rfl) ?_
       refine hR _ _ ?_; clear hR R)
    | (refine RX.one_nil (by first | rfl | (rw [HO.out]; rfl)) rfl rfl (by simp only [RX.eval_tmp, RX.eval_const, List.getD_cons_zero, List.getD_cons_succ]; rfl) (by simp only [RX.put_some, RX.put_none, List.set_cons_zero, List.set_cons_succ]; rfl) ?_
       refine hR _ _ ?_; clear hR R)
    | (refine RX.one_float (by first | rfl | (rw [HO.out]; rfl)) rfl rfl rfl ?_
       apply Exists.intro; apply Exists.intro
       refine ⟨fun w' hS K hK => ?_, ?_, ?_⟩
       · obtain ⟨hS1, hS2, hS3⟩ := hS; go_wp2; exact hK _ _ (by simp only [RX.arr_getD, List.getD_cons_zero, List.getD_cons_succ]; first | exact RX.dec_t (by omega) | exact RX.dec_f (by omega) | exact RX.beq_t (by omega) | exact RX.beq_f (by omega) | exact RX.bne_t (by omega) | exact RX.bne_f (by omega) | exact RX.bneB _ | rfl) rfl
       · simp only [RX.put_some, RX.put_none, List.set_cons_zero, List.set_cons_succ]; rfl
       refine hR _ _ ?_; clear hR R)
  refine RX.step (fun R hR => ?_)
  refine RX.one_chain (by first | rfl | (rw [HO.out]; rfl)) rfl (fun K hK => ?_)
  go_wp2_with fail
  refine (product_any _ _ _ (by omega) (by omega) (by omega) (by omega)).mono ?_
  rintro e w1 ⟨rfl, hb1⟩
  have k1 : w1.cell? ⟨w.heap.size + 1, 0, none⟩ = some (.int .i64 anchor) := RX.keep hb1 (by simp [RX.cell_drew, RX.cell_alloc, Nat.add_assoc])
  have k2 : w1.cell? ⟨w.heap.size, 0, none⟩ = some (.int .i64 sh) := RX.keep hb1 (by simp [RX.cell_drew, RX.cell_alloc, Nat.add_assoc])
  have k3 : w1.cell? ⟨w.heap.size, 1, none⟩ = some (.int .u64 sl) := RX.keep hb1 (by simp [RX.cell_drew, RX.cell_alloc, Nat.add_assoc])
  have hB1 : Below w.heap.size w w1 := Below.trans (by repeat (first | (with_reducible assumption) | (with_reducible exact Below.refl _ _) | (with_reducible refine Below.setCell ?_ (by first | omega | (simp; done) | (simp; omega)) _) | (with_reducible refine Below.alloc ?_ (by first | omega | (simp; done) | (simp; omega)) _) | (with_reducible apply Below.drew) | assumption)) (hb1.mono (by simp; omega))
  clear hb1
  refine hK _ _ ⟨⟨k1, k2, k3⟩, hR _ _ ?_⟩; clear hK K hR R
  repeat
    refine RX.step (fun R hR => ?_)
    first
    | (refine RX.one_skip (by first | rfl | (rw [HO.out]; rfl)) (by simp only [RX.put_some, RX.put_none, List.set_cons_zero, List.set_cons_succ]; rfl) ?_
       refine hR _ _ ?_; clear hR R)
    | (refine RX.one_move (by first | rfl | (rw [HO.out]; rfl)) rfl (by first | exact Or.inl rfl | exact Or.inr rfl) (by simp only [RX.eval_tmp, RX.eval_const, List.getD_cons_zero, List.getD_cons_succ]; rfl) (by simp only [RX.put_some, RX.put_none, List.set_cons_zero, List.set_cons_succ]; rfl) ?_
       refine hR _ _ ?_; clear hR R)
    | (refine RX.one_nil (by first | rfl | (rw [HO.out]; rfl)) rfl rfl (by simp only [RX.eval_tmp, RX.eval_const, List.getD_cons_zero, List.getD_cons_succ]; rfl) (by simp only [RX.put_some, RX.put_none, List.set_cons_zero, List.set_cons_succ]; rfl) ?_
       refine hR _ _ ?_; clear hR R)
    | (refine RX.one_float (by first | rfl | (rw [HO.out]; rfl)) rfl rfl rfl ?_
       apply Exists.intro; apply Exists.intro
       refine ⟨fun w' hS K hK => ?_, ?_, ?_⟩
       · obtain ⟨hS1, hS2, hS3⟩ := hS; go_wp2; exact hK _ _ (by simp only [RX.arr_getD, List.getD_cons_zero, List.getD_cons_succ]; first | exact RX.dec_t (by omega) | exact RX.dec_f (by omega) | exact RX.beq_t (by omega) | exact RX.beq_f (by omega) | exact RX.bne_t (by omega) | exact RX.bne_f (by omega) | exact RX.bneB _ | rfl) rfl
       · simp only [RX.put_some, RX.put_none, List.set_cons_zero, List.set_cons_succ]; rfl
       refine hR _ _ ?_; clear hR R)
  refine RX.step (fun R hR => ?_)
  refine RX.one_chain (by first | rfl | (rw [HO.out]; rfl)) rfl (fun K hK => ?_)
  go_wp2_with fail
  refine (compare_any _ _ _ _ _).mono ?_
  rintro e w2 ⟨rfl, hb2⟩
  have m1 := RX.keep hb2 k1
  have m2 := RX.keep hb2 k2
  have m3 := RX.keep hb2 k3
  have hB2 : Below w.heap.size w w2 := hB1.trans (hb2.mono hB1.size)
  clear hb2 k1 k2 k3 hB1
  rw [HC.out]
  refine hK _ _ ⟨⟨m1, m2, m3⟩, hR _ _ ?_⟩; clear hK K hR R
  repeat
    refine RX.step (fun R hR => ?_)
    first
    | (refine RX.one_skip (by first | rfl | (rw [HO.out]; rfl)) (by simp only [RX.put_some, RX.put_none, List.set_cons_zero, List.set_cons_succ]; rfl) ?_
       refine hR _ _ ?_; clear hR R)
    | (refine RX.one_move (by first | rfl | (rw [HO.out]; rfl)) rfl (by first | exact Or.inl rfl | exact Or.inr rfl) (by simp only [RX.eval_tmp, RX.eval_const, List.getD_cons_zero, List.getD_cons_succ]; rfl) (by simp only [RX.put_some, RX.put_none, List.set_cons_zero, List.set_cons_succ]; rfl) ?_
       refine hR _ _ ?_; clear hR R)
    | (refine RX.one_nil (by first | rfl | (rw [HO.out]; rfl)) rfl rfl (by simp only [RX.eval_tmp, RX.eval_const, List.getD_cons_zero, List.getD_cons_succ]; rfl) (by simp only [RX.put_some, RX.put_none, List.set_cons_zero, List.set_cons_succ]; rfl) ?_
       refine hR _ _ ?_; clear hR R)
    | (refine RX.one_float (by first | rfl | (rw [HO.out]; rfl)) rfl rfl rfl ?_
       apply Exists.intro; apply Exists.intro
       refine ⟨fun w' hS K hK => ?_, ?_, ?_⟩
       · obtain ⟨hS1, hS2, hS3⟩ := hS; go_wp2; exact hK _ _ (by simp only [RX.arr_getD, List.getD_cons_zero, List.getD_cons_succ]; first | exact RX.dec_t (by omega) | exact RX.dec_f (by omega) | exact RX.beq_t (by omega) | exact RX.beq_f (by omega) | exact RX.bne_t (by omega) | exact RX.bne_f (by omega) | exact RX.bneB _ | rfl) rfl
       · simp only [RX.put_some, RX.put_none, List.set_cons_zero, List.set_cons_succ]; rfl
       refine hR _ _ ?_; clear hR R)
  refine RX.wpL_nil (hQR _ _ (⟨m1, m2, m3⟩) ?_); clear hQR QR HO OPS
  go_wp2_with fail
  obtain ⟨N, hN⟩ : ∃ N : Nat, (N : Int) = 4611686018427387904 / anchor + 1 := ⟨(4611686018427387904 / anchor + 1).toNat, by omega⟩
  rw [← hN]
  have hen : ∀ args w, (callFunc 87 args).run Tryz.prog w = .ok (.enter 87 args) w := Go.Proofs.enters_of Tryz.func87 (by kernel_rfl) rfl
  have hlast : enough (sh * 18446744073709551616 + sl) anchor N = true := by
    have := HLAST.out
    unfold enough
    rw [decide_eq_true_eq, hN]; exact this
  have hqs : ∀ i, i < N → ∀ w', Below w2.heap.size w2 w' → Calls Tryz.prog 87 (#[.int .i64 (i : Int)] ++ #[.pointer (some ⟨w.heap.size + 1, 0, none⟩), .pointer (some ⟨w.heap.size, 0, none⟩)]) w' fun e w'' => e = .returned (.bool (enough (sh * 18446744073709551616 + sl) anchor i)) ∧ Below w'.heap.size w' w'' := by
    intro i hi w' hb'
    have h0 : 0 ≤ (i : Int) * anchor := Int.mul_nonneg (by omega) (by omega)
    have h1 : (i : Int) * anchor ≤ 4611686018427387904 := Int.le_trans (Int.mul_le_mul_of_nonneg_right (show (i : Int) ≤ 4611686018427387904 / anchor by omega) (by omega)) HMUL.out
    exact enough_any i anchor sh sl (w.heap.size + 1) w.heap.size w' (RX.keep hb' m1) (RX.keep hb' m2) (RX.keep hb' m3) HL.out.1 HL.out.2 h0 h1
  refine (search_any N (by omega) 87 _ (enough (sh * 18446744073709551616 + sl) anchor) (enough_mono _ anchor (by omega)) w2 hen hqs).mono ?_
  rintro e w3 ⟨r, rfl, hrN, hr1, hr2, hb3⟩
  have hB3 : Below w.heap.size w w3 := hB2.trans (hb3.mono hB2.size)
  have HR := Lib.hid (And.intro hrN (And.intro hr1 (And.intro hr2 (And.intro hlast hN))))
  clear hr1 hr2 hrN hlast hN hb3 hB2 m1 m2 m3 hqs hen
  go_wp2
  go_ret2
  obtain ⟨h1, h2, h3, h4, h5⟩ := HR.out
  refine ⟨r, rfl, by omega, ?_, h2, hB3⟩
  by_cases hr : r < N
  · exact h3 hr
  · obtain rfl : r = N := by omega
    exact h4
end Go.Proofs.YtojkamfabapcoaaGreatDoor
