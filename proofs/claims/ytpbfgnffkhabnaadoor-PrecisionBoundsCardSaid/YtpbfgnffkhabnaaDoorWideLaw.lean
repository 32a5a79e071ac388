import Derived.Test.YtpbfgnffkhabnaaDoorKDot
set_option linter.unusedSimpArgs false
set_option linter.unusedVariables false
namespace Go.Proofs.YtpbfgnffkhabnaaDoor
open Go.RowKit

/-- An integer of 128 bits in block g. -/
def Two (w : World) (g : Nat) (x y : Int) : Prop := w.cell? ⟨g, 0, none⟩ = some (.int .i64 x) ∧ w.cell? ⟨g, 1, none⟩ = some (.int .u64 y)
theorem Two.keep {w w' : World} {g : Nat} {x y : Int} (h : Two w g x y) (hb : Below w.heap.size w w') : Two w' g x y := ⟨RX.keep hb h.1, RX.keep hb h.2⟩
/-- Both products of vectors are one number and one error. -/
theorem dots_any (p q : Option Addr) (zs ys : List Int) (cz cy : Nat) (w : World) (hz : VecAt w p zs) (hy : VecAt w q ys) (h1 : zs.length ≤ 1000000000) (h2 : ys.length ≤ 1000000000) (bz : I64L zs) (bY : I64L ys) :
    ∃ S e : Int, ∀ W, Below w.heap.size w W → (Calls Tryd.prog 42 #[.slice p zs.length cz, .slice q ys.length cy] W fun x W' => x = .returned (.tuple #[wv S, .int .i64 e]) ∧ Below W.heap.size W W') ∧
      (Calls Tryd.prog 43 #[.slice p zs.length cz, .slice q ys.length cy] W fun x W' => x = .returned (.tuple #[wv S, .int .i64 e]) ∧ Below W.heap.size W W') := by
  by_cases hl : zs.length = ys.length
  · refine ⟨dotL zs ys, 0, fun W hW => ?_⟩
    rw [← hl]
    exact ⟨dot_ok p q zs ys cz cy W (hz.below hW) (hy.below hW) hl h1 bz bY, rdot_ok p q zs ys cz cy W (hz.below hW) (hy.below hW) hl h1 bz bY⟩
  · exact ⟨0, 1, fun W _ => ⟨dot_no p q _ _ cz cy W hl h1 h2, rdot_no p q _ _ cz cy W hl h1 h2⟩⟩

set_option maxRecDepth 100000 in
set_option maxHeartbeats 4000000 in
theorem wide_law (a b pu pw : Int) (p q : Option Addr) (zs ys : List Int) (cz cy : Nat) (w : World) (ha : -9223372036854775808 ≤ a) (ha' : a ≤ 9223372036854775807) (hb : -9223372036854775808 ≤ b) (hb' : b ≤ 9223372036854775807)
    (hT : HasTab w) (hz : VecAt w p zs) (hy : VecAt w q ys) (lz : zs.length ≤ 9223372036854775807) (ly : ys.length ≤ 9223372036854775807) (bz : I64L zs) (bY : I64L ys) :
    Calls Tryd.prog 8 #[.int .i64 a, .int .i64 b, wv pu, wv pw, .slice p zs.length cz, .slice q ys.length cy] w fun e w' => e = .returned (.bool true) ∧ Below w.heap.size w w' := by
  obtain ⟨U1, U2, q1, q2, hU⟩ := wv_parts pu
  clear q1 q2
  obtain ⟨V1, V2, q1, q2, hV⟩ := wv_parts pw
  clear q1 q2
  rw [hU, hV]
  have HU := Lib.hid hU.symm
  have HV := Lib.hid hV.symm
  clear hU hV
  have HZ := Lib.hid (And.intro hz (And.intro hy (And.intro bz bY)))
  clear hz hy bz bY
  go_enter Tryd.func8, Tryd.ntmps8
  go_wp2_with fail
  have k1 : Two ((w.alloc (.cells #[.int .i64 U1, .int .u64 U2] 58)).alloc (.cells #[.int .i64 V1, .int .u64 V2] 58)) w.heap.size U1 U2 := ⟨(by simp [RX.cell_drew, RX.cell_alloc, Nat.add_assoc]), (by simp [RX.cell_drew, RX.cell_alloc, Nat.add_assoc])⟩
  have k2 : Two ((w.alloc (.cells #[.int .i64 U1, .int .u64 U2] 58)).alloc (.cells #[.int .i64 V1, .int .u64 V2] 58)) (w.heap.size + 1) V1 V2 := ⟨(by simp [RX.cell_drew, RX.cell_alloc, Nat.add_assoc]), (by simp [RX.cell_drew, RX.cell_alloc, Nat.add_assoc])⟩
  have hB : Below w.heap.size w ((w.alloc (.cells #[.int .i64 U1, .int .u64 U2] 58)).alloc (.cells #[.int .i64 V1, .int .u64 V2] 58)) := (by repeat (first | assumption | (with_reducible exact Below.refl _ _) | (with_reducible refine Below.setCell ?_ (by first | omega | (simp; done) | (simp; omega)) _) | (with_reducible refine Below.alloc ?_ (by first | omega | (simp; done) | (simp; omega)) _) | (with_reducible apply Below.drew)))
  generalize ((w.alloc (.cells #[.int .i64 U1, .int .u64 U2] 58)).alloc (.cells #[.int .i64 V1, .int .u64 V2] 58)) = W0 at *
  refine (awake22_any W0 (hT.below hB)).mono ?_
  rintro e w1 ⟨rfl, hb1⟩
  replace k1 := k1.keep hb1
  replace k2 := k2.keep hb1
  replace hB := hB.trans (hb1.mono hB.size)
  clear hb1 hT
  clear W0
  by_cases hc1 : 200 < zs.length
  · have hd : decide ((200 : Int) < (zs.length : Int)) = true := decide_eq_true (by omega)
    go_wp2
    go_ret
    exact ⟨rfl, hB⟩
  · have hd : decide ((200 : Int) < (zs.length : Int)) = false := decide_eq_false (by omega)
    by_cases hc2 : 200 < ys.length
    · have hd2 : decide ((200 : Int) < (ys.length : Int)) = true := decide_eq_true (by omega)
      go_wp2
      go_ret
      exact ⟨rfl, hB⟩
    · have hd2 : decide ((200 : Int) < (ys.length : Int)) = false := decide_eq_false (by omega)
      obtain ⟨S, er, hdots⟩ := dots_any p q zs ys cz cy w HZ.out.1 HZ.out.2.1 (by omega) (by omega) HZ.out.2.2.1 HZ.out.2.2.2
      obtain ⟨S1, S2, q1, q2, hS⟩ := wv_parts S
      clear q1 q2
      have HD := Lib.hid hdots
      have HSS := Lib.hid hS
      clear hdots hS
      go_wp2_with fail
      refine ((HD.out _ hB).1).mono ?_
      rintro e w2 ⟨rfl, hb2⟩
      rw [HSS.out]
      replace k1 := k1.keep hb2
      replace k2 := k2.keep hb2
      replace hB := hB.trans (hb2.mono hB.size)
      clear hb2
      clear w1
      go_wp2_with fail
      have k3 : Two (w2.alloc (.cells #[.int .i64 S1, .int .u64 S2] 58)) w2.heap.size S1 S2 := ⟨(by simp [RX.cell_drew, RX.cell_alloc, Nat.add_assoc]), (by simp [RX.cell_drew, RX.cell_alloc, Nat.add_assoc])⟩
      have hb3 := (Below.refl w2.heap.size w2).alloc (Nat.le_refl _) (.cells #[.int .i64 S1, .int .u64 S2] 58)
      replace k1 := k1.keep hb3
      replace k2 := k2.keep hb3
      replace hB := hB.trans (hb3.mono hB.size)
      obtain ⟨g3, hg3⟩ : ∃ g, g = w2.heap.size := ⟨_, rfl⟩
      rw [← hg3] at k3 ⊢
      clear hb3 hg3
      generalize (w2.alloc (.cells #[.int .i64 S1, .int .u64 S2] 58)) = W3 at *
      clear w2
      refine ((HD.out _ hB).2).mono ?_
      rintro e w4 ⟨rfl, hb4⟩
      rw [HSS.out]
      replace k1 := k1.keep hb4
      replace k2 := k2.keep hb4
      replace k3 := k3.keep hb4
      replace hB := hB.trans (hb4.mono hB.size)
      clear hb4 HD HSS HZ hd hd2 hc1 hc2
      clear W3
      obtain ⟨A1, A2, q1, q2, hA⟩ := wv_parts a
      clear q1 q2
      obtain ⟨P1, P2, q1, q2, hP⟩ := wv_parts (a * b)
      clear q1 q2
      obtain ⟨D1, D2, q1, q2, hD⟩ := wv_parts (pu + pw)
      clear q1 q2
      obtain ⟨N1, N2, q1, q2, hN⟩ := wv_parts (-pu)
      clear q1 q2
      have HW := Lib.hid hA
      have HP := Lib.hid hP
      have HA := Lib.hid hD
      have HN := Lib.hid hN
      clear hA hP hD hN
      obtain ⟨cm, hcm⟩ : ∃ c, c = cmpW U1 U2 V1 V2 := ⟨_, rfl⟩
      have HCM := Lib.hid hcm.symm
      clear hcm
      go_wp2
      have k4 : Two (w4.alloc (.cells #[.int .i64 S1, .int .u64 S2] 58)) w4.heap.size S1 S2 := ⟨(by simp [RX.cell_drew, RX.cell_alloc, Nat.add_assoc]), (by simp [RX.cell_drew, RX.cell_alloc, Nat.add_assoc])⟩
      have hb3 := (Below.refl w4.heap.size w4).alloc (Nat.le_refl _) (.cells #[.int .i64 S1, .int .u64 S2] 58)
      replace k1 := k1.keep hb3
      replace k2 := k2.keep hb3
      replace k3 := k3.keep hb3
      replace hB := hB.trans (hb3.mono hB.size)
      obtain ⟨g4, hg4⟩ : ∃ g, g = w4.heap.size := ⟨_, rfl⟩
      rw [← hg4] at k4 ⊢
      clear hb3 hg4
      generalize (w4.alloc (.cells #[.int .i64 S1, .int .u64 S2] 58)) = W at *
      clear w4
      obtain ⟨g2, hg2⟩ : ∃ g, g = w.heap.size + 1 := ⟨_, rfl⟩
      rw [← hg2] at k2 ⊢
      clear hg2
      obtain ⟨g1, hg1⟩ : ∃ g, g = w.heap.size := ⟨_, rfl⟩
      have HB : Hid (Below w.heap.size w W) := Lib.hid hB
      rw [← hg1] at k1
      try rw [← hg1]
      clear hg1 hB
      refine RX.region RX.fL (fun w' => Two w' g1 U1 U2 ∧ Two w' g2 V1 V2 ∧ Two w' g3 S1 S2 ∧ Two w' g4 S1 S2) (by kernel_rfl) (by kernel_rfl) (⟨k1, k2, k3, k4⟩) (fun OPS HO QR hQR => ?_)
      have hB := HB.out.drew
      clear HB
      repeat
        refine RX.step (fun R hR => ?_)
        first
        | (refine RX.one_skip (by first | rfl | (rw [HO.out]; rfl)) (by simp only [RX.put_some, RX.put_none, List.set_cons_zero, List.set_cons_succ]; rfl) ?_
           refine hR _ _ ?_; clear hR R)
        | (refine RX.one_move (by first | rfl | (rw [HO.out]; rfl)) rfl (by first | exact Or.inl rfl | exact Or.inr rfl) (by simp only [RX.eval_tmp, RX.eval_const, List.getD_cons_zero, List.getD_cons_succ]; rfl) (by simp only [RX.put_some, RX.put_none, List.set_cons_zero, List.set_cons_succ]; rfl) ?_
           refine hR _ _ ?_; clear hR R)
        | (refine RX.one_nil (by first | rfl | (rw [HO.out]; rfl)) rfl rfl (by simp only [RX.eval_tmp, RX.eval_const, List.getD_cons_zero, List.getD_cons_succ]; rfl) (by simp only [RX.put_some, RX.put_none, List.set_cons_zero, List.set_cons_succ]; rfl) ?_
           refine hR _ _ ?_; clear hR R)
        | (refine RX.one_float (by first | rfl | (rw [HO.out]; rfl)) rfl rfl rfl ?_
           apply Exists.intro; apply Exists.intro
           refine ⟨fun w' hS K hK => ?_, ?_, ?_⟩
           · obtain ⟨⟨hS1, hS2⟩, ⟨hS3, hS4⟩, ⟨hS5, hS6⟩, ⟨hS7, hS8⟩⟩ := hS; go_wp2; exact hK _ _ (by simp only [RX.arr_getD, List.getD_cons_zero, List.getD_cons_succ]; first | exact RX.dec_t (by omega) | exact RX.dec_f (by omega) | exact RX.beq_t (by omega) | exact RX.beq_f (by omega) | exact RX.bne_t (by omega) | exact RX.bne_f (by omega) | exact RX.bneB _ | rfl) rfl
           · simp only [RX.put_some, RX.put_none, List.set_cons_zero, List.set_cons_succ]; rfl
           refine hR _ _ ?_; clear hR R)
      refine RX.step (fun R hR => ?_)
      refine RX.one_chain (by first | rfl | (rw [HO.out]; rfl)) rfl (fun K hK => ?_)
      go_wp2_with fail
      refine (wide_any a ha ha' _).mono ?_
      rintro e wc0 ⟨rfl, hb⟩
      have hBn := hB.trans (hb.mono hB.size)
      replace hb := Below_undrew hb
      have m1 := k1.keep hb
      have m2 := k2.keep hb
      have m3 := k3.keep hb
      have m4 := k4.keep hb
      clear hb hB k1 k2 k3 k4
      rw [HW.out]
      refine hK _ _ ⟨⟨m1, m2, m3, m4⟩, hR _ _ ?_⟩; clear hK K hR R
      have hB := hBn; have k1 := m1; have k2 := m2; have k3 := m3; have k4 := m4
      clear hBn m1 m2 m3 m4
      repeat
        refine RX.step (fun R hR => ?_)
        first
        | (refine RX.one_skip (by first | rfl | (rw [HO.out]; rfl)) (by simp only [RX.put_some, RX.put_none, List.set_cons_zero, List.set_cons_succ]; rfl) ?_
           refine hR _ _ ?_; clear hR R)
        | (refine RX.one_move (by first | rfl | (rw [HO.out]; rfl)) rfl (by first | exact Or.inl rfl | exact Or.inr rfl) (by simp only [RX.eval_tmp, RX.eval_const, List.getD_cons_zero, List.getD_cons_succ]; rfl) (by simp only [RX.put_some, RX.put_none, List.set_cons_zero, List.set_cons_succ]; rfl) ?_
           refine hR _ _ ?_; clear hR R)
        | (refine RX.one_nil (by first | rfl | (rw [HO.out]; rfl)) rfl rfl (by simp only [RX.eval_tmp, RX.eval_const, List.getD_cons_zero, List.getD_cons_succ]; rfl) (by simp only [RX.put_some, RX.put_none, List.set_cons_zero, List.set_cons_succ]; rfl) ?_
           refine hR _ _ ?_; clear hR R)
        | (refine RX.one_float (by first | rfl | (rw [HO.out]; rfl)) rfl rfl rfl ?_
           apply Exists.intro; apply Exists.intro
           refine ⟨fun w' hS K hK => ?_, ?_, ?_⟩
           · obtain ⟨⟨hS1, hS2⟩, ⟨hS3, hS4⟩, ⟨hS5, hS6⟩, ⟨hS7, hS8⟩⟩ := hS; go_wp2; exact hK _ _ (by simp only [RX.arr_getD, List.getD_cons_zero, List.getD_cons_succ]; first | exact RX.dec_t (by omega) | exact RX.dec_f (by omega) | exact RX.beq_t (by omega) | exact RX.beq_f (by omega) | exact RX.bne_t (by omega) | exact RX.bne_f (by omega) | exact RX.bneB _ | rfl) rfl
           · simp only [RX.put_some, RX.put_none, List.set_cons_zero, List.set_cons_succ]; rfl
           refine hR _ _ ?_; clear hR R)
      refine RX.step (fun R hR => ?_)
      refine RX.one_chain (by first | rfl | (rw [HO.out]; rfl)) rfl (fun K hK => ?_)
      go_wp2_with fail
      refine (rwide_any a ha ha' _).mono ?_
      rintro e wc1 ⟨rfl, hb⟩
      have hBn := hB.trans (hb.mono hB.size)
      have m1 := k1.keep hb
      have m2 := k2.keep hb
      have m3 := k3.keep hb
      have m4 := k4.keep hb
      clear hb hB k1 k2 k3 k4
      rw [HW.out]
      refine hK _ _ ⟨⟨m1, m2, m3, m4⟩, hR _ _ ?_⟩; clear hK K hR R
      have hB := hBn; have k1 := m1; have k2 := m2; have k3 := m3; have k4 := m4
      clear hBn m1 m2 m3 m4
      repeat
        refine RX.step (fun R hR => ?_)
        first
        | (refine RX.one_skip (by first | rfl | (rw [HO.out]; rfl)) (by simp only [RX.put_some, RX.put_none, List.set_cons_zero, List.set_cons_succ]; rfl) ?_
           refine hR _ _ ?_; clear hR R)
        | (refine RX.one_move (by first | rfl | (rw [HO.out]; rfl)) rfl (by first | exact Or.inl rfl | exact Or.inr rfl) (by simp only [RX.eval_tmp, RX.eval_const, List.getD_cons_zero, List.getD_cons_succ]; rfl) (by simp only [RX.put_some, RX.put_none, List.set_cons_zero, List.set_cons_succ]; rfl) ?_
           refine hR _ _ ?_; clear hR R)
        | (refine RX.one_nil (by first | rfl | (rw [HO.out]; rfl)) rfl rfl (by simp only [RX.eval_tmp, RX.eval_const, List.getD_cons_zero, List.getD_cons_succ]; rfl) (by simp only [RX.put_some, RX.put_none, List.set_cons_zero, List.set_cons_succ]; rfl) ?_
           refine hR _ _ ?_; clear hR R)
        | (refine RX.one_float (by first | rfl | (rw [HO.out]; rfl)) rfl rfl rfl ?_
           apply Exists.intro; apply Exists.intro
           refine ⟨fun w' hS K hK => ?_, ?_, ?_⟩
           · obtain ⟨⟨hS1, hS2⟩, ⟨hS3, hS4⟩, ⟨hS5, hS6⟩, ⟨hS7, hS8⟩⟩ := hS; go_wp2; exact hK _ _ (by simp only [RX.arr_getD, List.getD_cons_zero, List.getD_cons_succ]; first | exact RX.dec_t (by omega) | exact RX.dec_f (by omega) | exact RX.beq_t (by omega) | exact RX.beq_f (by omega) | exact RX.bne_t (by omega) | exact RX.bne_f (by omega) | exact RX.bneB _ | rfl) rfl
           · simp only [RX.put_some, RX.put_none, List.set_cons_zero, List.set_cons_succ]; rfl
           refine hR _ _ ?_; clear hR R)
      refine RX.step (fun R hR => ?_)
      refine RX.one_chain (by first | rfl | (rw [HO.out]; rfl)) rfl (fun K hK => ?_)
      go_wp2_with fail
      refine (product_wv a b _ ha ha' hb hb').mono ?_
      rintro e wc2 ⟨rfl, hb⟩
      have hBn := hB.trans (hb.mono hB.size)
      have m1 := k1.keep hb
      have m2 := k2.keep hb
      have m3 := k3.keep hb
      have m4 := k4.keep hb
      clear hb hB k1 k2 k3 k4
      rw [HP.out]
      refine hK _ _ ⟨⟨m1, m2, m3, m4⟩, hR _ _ ?_⟩; clear hK K hR R
      have hB := hBn; have k1 := m1; have k2 := m2; have k3 := m3; have k4 := m4
      clear hBn m1 m2 m3 m4
      repeat
        refine RX.step (fun R hR => ?_)
        first
        | (refine RX.one_skip (by first | rfl | (rw [HO.out]; rfl)) (by simp only [RX.put_some, RX.put_none, List.set_cons_zero, List.set_cons_succ]; rfl) ?_
           refine hR _ _ ?_; clear hR R)
        | (refine RX.one_move (by first | rfl | (rw [HO.out]; rfl)) rfl (by first | exact Or.inl rfl | exact Or.inr rfl) (by simp only [RX.eval_tmp, RX.eval_const, List.getD_cons_zero, List.getD_cons_succ]; rfl) (by simp only [RX.put_some, RX.put_none, List.set_cons_zero, List.set_cons_succ]; rfl) ?_
           refine hR _ _ ?_; clear hR R)
        | (refine RX.one_nil (by first | rfl | (rw [HO.out]; rfl)) rfl rfl (by simp only [RX.eval_tmp, RX.eval_const, List.getD_cons_zero, List.getD_cons_succ]; rfl) (by simp only [RX.put_some, RX.put_none, List.set_cons_zero, List.set_cons_succ]; rfl) ?_
           refine hR _ _ ?_; clear hR R)
        | (refine RX.one_float (by first | rfl | (rw [HO.out]; rfl)) rfl rfl rfl ?_
           apply Exists.intro; apply Exists.intro
           refine ⟨fun w' hS K hK => ?_, ?_, ?_⟩
           · obtain ⟨⟨hS1, hS2⟩, ⟨hS3, hS4⟩, ⟨hS5, hS6⟩, ⟨hS7, hS8⟩⟩ := hS; go_wp2; exact hK _ _ (by simp only [RX.arr_getD, List.getD_cons_zero, List.getD_cons_succ]; first | exact RX.dec_t (by omega) | exact RX.dec_f (by omega) | exact RX.beq_t (by omega) | exact RX.beq_f (by omega) | exact RX.bne_t (by omega) | exact RX.bne_f (by omega) | exact RX.bneB _ | rfl) rfl
           · simp only [RX.put_some, RX.put_none, List.set_cons_zero, List.set_cons_succ]; rfl
           refine hR _ _ ?_; clear hR R)
      refine RX.step (fun R hR => ?_)
      refine RX.one_chain (by first | rfl | (rw [HO.out]; rfl)) rfl (fun K hK => ?_)
      go_wp2_with fail
      refine (rproduct_any a b _ ha ha' hb hb').mono ?_
      rintro e wc3 ⟨rfl, hb⟩
      have hBn := hB.trans (hb.mono hB.size)
      have m1 := k1.keep hb
      have m2 := k2.keep hb
      have m3 := k3.keep hb
      have m4 := k4.keep hb
      clear hb hB k1 k2 k3 k4
      rw [HP.out]
      refine hK _ _ ⟨⟨m1, m2, m3, m4⟩, hR _ _ ?_⟩; clear hK K hR R
      have hB := hBn; have k1 := m1; have k2 := m2; have k3 := m3; have k4 := m4
      clear hBn m1 m2 m3 m4
      repeat
        refine RX.step (fun R hR => ?_)
        first
        | (refine RX.one_skip (by first | rfl | (rw [HO.out]; rfl)) (by simp only [RX.put_some, RX.put_none, List.set_cons_zero, List.set_cons_succ]; rfl) ?_
           refine hR _ _ ?_; clear hR R)
        | (refine RX.one_move (by first | rfl | (rw [HO.out]; rfl)) rfl (by first | exact Or.inl rfl | exact Or.inr rfl) (by simp only [RX.eval_tmp, RX.eval_const, List.getD_cons_zero, List.getD_cons_succ]; rfl) (by simp only [RX.put_some, RX.put_none, List.set_cons_zero, List.set_cons_succ]; rfl) ?_
           refine hR _ _ ?_; clear hR R)
        | (refine RX.one_nil (by first | rfl | (rw [HO.out]; rfl)) rfl rfl (by simp only [RX.eval_tmp, RX.eval_const, List.getD_cons_zero, List.getD_cons_succ]; rfl) (by simp only [RX.put_some, RX.put_none, List.set_cons_zero, List.set_cons_succ]; rfl) ?_
           refine hR _ _ ?_; clear hR R)
        | (refine RX.one_float (by first | rfl | (rw [HO.out]; rfl)) rfl rfl rfl ?_
           apply Exists.intro; apply Exists.intro
           refine ⟨fun w' hS K hK => ?_, ?_, ?_⟩
           · obtain ⟨⟨hS1, hS2⟩, ⟨hS3, hS4⟩, ⟨hS5, hS6⟩, ⟨hS7, hS8⟩⟩ := hS; go_wp2; exact hK _ _ (by simp only [RX.arr_getD, List.getD_cons_zero, List.getD_cons_succ]; first | exact RX.dec_t (by omega) | exact RX.dec_f (by omega) | exact RX.beq_t (by omega) | exact RX.beq_f (by omega) | exact RX.bne_t (by omega) | exact RX.bne_f (by omega) | exact RX.bneB _ | rfl) rfl
           · simp only [RX.put_some, RX.put_none, List.set_cons_zero, List.set_cons_succ]; rfl
           refine hR _ _ ?_; clear hR R)
      refine RX.step (fun R hR => ?_)
      refine RX.one_chain (by first | rfl | (rw [HO.out]; rfl)) rfl (fun K hK => ?_)
      go_wp2_with fail
      refine (add_at _ _ pu pw HU.out HV.out _).mono ?_
      rintro e wc4 ⟨rfl, hb⟩
      have hBn := hB.trans (hb.mono hB.size)
      have m1 := k1.keep hb
      have m2 := k2.keep hb
      have m3 := k3.keep hb
      have m4 := k4.keep hb
      clear hb hB k1 k2 k3 k4
      rw [HA.out]
      refine hK _ _ ⟨⟨m1, m2, m3, m4⟩, hR _ _ ?_⟩; clear hK K hR R
      have hB := hBn; have k1 := m1; have k2 := m2; have k3 := m3; have k4 := m4
      clear hBn m1 m2 m3 m4
      repeat
        refine RX.step (fun R hR => ?_)
        first
        | (refine RX.one_skip (by first | rfl | (rw [HO.out]; rfl)) (by simp only [RX.put_some, RX.put_none, List.set_cons_zero, List.set_cons_succ]; rfl) ?_
           refine hR _ _ ?_; clear hR R)
        | (refine RX.one_move (by first | rfl | (rw [HO.out]; rfl)) rfl (by first | exact Or.inl rfl | exact Or.inr rfl) (by simp only [RX.eval_tmp, RX.eval_const, List.getD_cons_zero, List.getD_cons_succ]; rfl) (by simp only [RX.put_some, RX.put_none, List.set_cons_zero, List.set_cons_succ]; rfl) ?_
           refine hR _ _ ?_; clear hR R)
        | (refine RX.one_nil (by first | rfl | (rw [HO.out]; rfl)) rfl rfl (by simp only [RX.eval_tmp, RX.eval_const, List.getD_cons_zero, List.getD_cons_succ]; rfl) (by simp only [RX.put_some, RX.put_none, List.set_cons_zero, List.set_cons_succ]; rfl) ?_
           refine hR _ _ ?_; clear hR R)
        | (refine RX.one_float (by first | rfl | (rw [HO.out]; rfl)) rfl rfl rfl ?_
           apply Exists.intro; apply Exists.intro
           refine ⟨fun w' hS K hK => ?_, ?_, ?_⟩
           · obtain ⟨⟨hS1, hS2⟩, ⟨hS3, hS4⟩, ⟨hS5, hS6⟩, ⟨hS7, hS8⟩⟩ := hS; go_wp2; exact hK _ _ (by simp only [RX.arr_getD, List.getD_cons_zero, List.getD_cons_succ]; first | exact RX.dec_t (by omega) | exact RX.dec_f (by omega) | exact RX.beq_t (by omega) | exact RX.beq_f (by omega) | exact RX.bne_t (by omega) | exact RX.bne_f (by omega) | exact RX.bneB _ | rfl) rfl
           · simp only [RX.put_some, RX.put_none, List.set_cons_zero, List.set_cons_succ]; rfl
           refine hR _ _ ?_; clear hR R)
      refine RX.step (fun R hR => ?_)
      refine RX.one_chain (by first | rfl | (rw [HO.out]; rfl)) rfl (fun K hK => ?_)
      go_wp2_with fail
      refine (radd_at _ _ pu pw HU.out HV.out _).mono ?_
      rintro e wc5 ⟨rfl, hb⟩
      have hBn := hB.trans (hb.mono hB.size)
      have m1 := k1.keep hb
      have m2 := k2.keep hb
      have m3 := k3.keep hb
      have m4 := k4.keep hb
      clear hb hB k1 k2 k3 k4
      rw [HA.out]
      refine hK _ _ ⟨⟨m1, m2, m3, m4⟩, hR _ _ ?_⟩; clear hK K hR R
      have hB := hBn; have k1 := m1; have k2 := m2; have k3 := m3; have k4 := m4
      clear hBn m1 m2 m3 m4
      repeat
        refine RX.step (fun R hR => ?_)
        first
        | (refine RX.one_skip (by first | rfl | (rw [HO.out]; rfl)) (by simp only [RX.put_some, RX.put_none, List.set_cons_zero, List.set_cons_succ]; rfl) ?_
           refine hR _ _ ?_; clear hR R)
        | (refine RX.one_move (by first | rfl | (rw [HO.out]; rfl)) rfl (by first | exact Or.inl rfl | exact Or.inr rfl) (by simp only [RX.eval_tmp, RX.eval_const, List.getD_cons_zero, List.getD_cons_succ]; rfl) (by simp only [RX.put_some, RX.put_none, List.set_cons_zero, List.set_cons_succ]; rfl) ?_
           refine hR _ _ ?_; clear hR R)
        | (refine RX.one_nil (by first | rfl | (rw [HO.out]; rfl)) rfl rfl (by simp only [RX.eval_tmp, RX.eval_const, List.getD_cons_zero, List.getD_cons_succ]; rfl) (by simp only [RX.put_some, RX.put_none, List.set_cons_zero, List.set_cons_succ]; rfl) ?_
           refine hR _ _ ?_; clear hR R)
        | (refine RX.one_float (by first | rfl | (rw [HO.out]; rfl)) rfl rfl rfl ?_
           apply Exists.intro; apply Exists.intro
           refine ⟨fun w' hS K hK => ?_, ?_, ?_⟩
           · obtain ⟨⟨hS1, hS2⟩, ⟨hS3, hS4⟩, ⟨hS5, hS6⟩, ⟨hS7, hS8⟩⟩ := hS; go_wp2; exact hK _ _ (by simp only [RX.arr_getD, List.getD_cons_zero, List.getD_cons_succ]; first | exact RX.dec_t (by omega) | exact RX.dec_f (by omega) | exact RX.beq_t (by omega) | exact RX.beq_f (by omega) | exact RX.bne_t (by omega) | exact RX.bne_f (by omega) | exact RX.bneB _ | rfl) rfl
           · simp only [RX.put_some, RX.put_none, List.set_cons_zero, List.set_cons_succ]; rfl
           refine hR _ _ ?_; clear hR R)
      refine RX.step (fun R hR => ?_)
      refine RX.one_chain (by first | rfl | (rw [HO.out]; rfl)) rfl (fun K hK => ?_)
      go_wp2_with fail
      refine (negate_at _ pu HU.out _).mono ?_
      rintro e wc6 ⟨rfl, hb⟩
      have hBn := hB.trans (hb.mono hB.size)
      have m1 := k1.keep hb
      have m2 := k2.keep hb
      have m3 := k3.keep hb
      have m4 := k4.keep hb
      clear hb hB k1 k2 k3 k4
      rw [HN.out]
      refine hK _ _ ⟨⟨m1, m2, m3, m4⟩, hR _ _ ?_⟩; clear hK K hR R
      have hB := hBn; have k1 := m1; have k2 := m2; have k3 := m3; have k4 := m4
      clear hBn m1 m2 m3 m4
      repeat
        refine RX.step (fun R hR => ?_)
        first
        | (refine RX.one_skip (by first | rfl | (rw [HO.out]; rfl)) (by simp only [RX.put_some, RX.put_none, List.set_cons_zero, List.set_cons_succ]; rfl) ?_
           refine hR _ _ ?_; clear hR R)
        | (refine RX.one_move (by first | rfl | (rw [HO.out]; rfl)) rfl (by first | exact Or.inl rfl | exact Or.inr rfl) (by simp only [RX.eval_tmp, RX.eval_const, List.getD_cons_zero, List.getD_cons_succ]; rfl) (by simp only [RX.put_some, RX.put_none, List.set_cons_zero, List.set_cons_succ]; rfl) ?_
           refine hR _ _ ?_; clear hR R)
        | (refine RX.one_nil (by first | rfl | (rw [HO.out]; rfl)) rfl rfl (by simp only [RX.eval_tmp, RX.eval_const, List.getD_cons_zero, List.getD_cons_succ]; rfl) (by simp only [RX.put_some, RX.put_none, List.set_cons_zero, List.set_cons_succ]; rfl) ?_
           refine hR _ _ ?_; clear hR R)
        | (refine RX.one_float (by first | rfl | (rw [HO.out]; rfl)) rfl rfl rfl ?_
           apply Exists.intro; apply Exists.intro
           refine ⟨fun w' hS K hK => ?_, ?_, ?_⟩
           · obtain ⟨⟨hS1, hS2⟩, ⟨hS3, hS4⟩, ⟨hS5, hS6⟩, ⟨hS7, hS8⟩⟩ := hS; go_wp2; exact hK _ _ (by simp only [RX.arr_getD, List.getD_cons_zero, List.getD_cons_succ]; first | exact RX.dec_t (by omega) | exact RX.dec_f (by omega) | exact RX.beq_t (by omega) | exact RX.beq_f (by omega) | exact RX.bne_t (by omega) | exact RX.bne_f (by omega) | exact RX.bneB _ | rfl) rfl
           · simp only [RX.put_some, RX.put_none, List.set_cons_zero, List.set_cons_succ]; rfl
           refine hR _ _ ?_; clear hR R)
      refine RX.step (fun R hR => ?_)
      refine RX.one_chain (by first | rfl | (rw [HO.out]; rfl)) rfl (fun K hK => ?_)
      go_wp2_with fail
      refine (rnegate_at _ pu HU.out _).mono ?_
      rintro e wc7 ⟨rfl, hb⟩
      have hBn := hB.trans (hb.mono hB.size)
      have m1 := k1.keep hb
      have m2 := k2.keep hb
      have m3 := k3.keep hb
      have m4 := k4.keep hb
      clear hb hB k1 k2 k3 k4
      rw [HN.out]
      refine hK _ _ ⟨⟨m1, m2, m3, m4⟩, hR _ _ ?_⟩; clear hK K hR R
      have hB := hBn; have k1 := m1; have k2 := m2; have k3 := m3; have k4 := m4
      clear hBn m1 m2 m3 m4
      repeat
        refine RX.step (fun R hR => ?_)
        first
        | (refine RX.one_skip (by first | rfl | (rw [HO.out]; rfl)) (by simp only [RX.put_some, RX.put_none, List.set_cons_zero, List.set_cons_succ]; rfl) ?_
           refine hR _ _ ?_; clear hR R)
        | (refine RX.one_move (by first | rfl | (rw [HO.out]; rfl)) rfl (by first | exact Or.inl rfl | exact Or.inr rfl) (by simp only [RX.eval_tmp, RX.eval_const, List.getD_cons_zero, List.getD_cons_succ]; rfl) (by simp only [RX.put_some, RX.put_none, List.set_cons_zero, List.set_cons_succ]; rfl) ?_
           refine hR _ _ ?_; clear hR R)
        | (refine RX.one_nil (by first | rfl | (rw [HO.out]; rfl)) rfl rfl (by simp only [RX.eval_tmp, RX.eval_const, List.getD_cons_zero, List.getD_cons_succ]; rfl) (by simp only [RX.put_some, RX.put_none, List.set_cons_zero, List.set_cons_succ]; rfl) ?_
           refine hR _ _ ?_; clear hR R)
        | (refine RX.one_float (by first | rfl | (rw [HO.out]; rfl)) rfl rfl rfl ?_
           apply Exists.intro; apply Exists.intro
           refine ⟨fun w' hS K hK => ?_, ?_, ?_⟩
           · obtain ⟨⟨hS1, hS2⟩, ⟨hS3, hS4⟩, ⟨hS5, hS6⟩, ⟨hS7, hS8⟩⟩ := hS; go_wp2; exact hK _ _ (by simp only [RX.arr_getD, List.getD_cons_zero, List.getD_cons_succ]; first | exact RX.dec_t (by omega) | exact RX.dec_f (by omega) | exact RX.beq_t (by omega) | exact RX.beq_f (by omega) | exact RX.bne_t (by omega) | exact RX.bne_f (by omega) | exact RX.bneB _ | rfl) rfl
           · simp only [RX.put_some, RX.put_none, List.set_cons_zero, List.set_cons_succ]; rfl
           refine hR _ _ ?_; clear hR R)
      refine RX.step (fun R hR => ?_)
      refine RX.one_chain (by first | rfl | (rw [HO.out]; rfl)) rfl (fun K hK => ?_)
      go_wp2_with fail
      refine (compare_any U1 U2 V1 V2 _).mono ?_
      rintro e wc8 ⟨rfl, hb⟩
      have hBn := hB.trans (hb.mono hB.size)
      have m1 := k1.keep hb
      have m2 := k2.keep hb
      have m3 := k3.keep hb
      have m4 := k4.keep hb
      clear hb hB k1 k2 k3 k4
      rw [HCM.out]
      refine hK _ _ ⟨⟨m1, m2, m3, m4⟩, hR _ _ ?_⟩; clear hK K hR R
      have hB := hBn; have k1 := m1; have k2 := m2; have k3 := m3; have k4 := m4
      clear hBn m1 m2 m3 m4
      repeat
        refine RX.step (fun R hR => ?_)
        first
        | (refine RX.one_skip (by first | rfl | (rw [HO.out]; rfl)) (by simp only [RX.put_some, RX.put_none, List.set_cons_zero, List.set_cons_succ]; rfl) ?_
           refine hR _ _ ?_; clear hR R)
        | (refine RX.one_move (by first | rfl | (rw [HO.out]; rfl)) rfl (by first | exact Or.inl rfl | exact Or.inr rfl) (by simp only [RX.eval_tmp, RX.eval_const, List.getD_cons_zero, List.getD_cons_succ]; rfl) (by simp only [RX.put_some, RX.put_none, List.set_cons_zero, List.set_cons_succ]; rfl) ?_
           refine hR _ _ ?_; clear hR R)
        | (refine RX.one_nil (by first | rfl | (rw [HO.out]; rfl)) rfl rfl (by simp only [RX.eval_tmp, RX.eval_const, List.getD_cons_zero, List.getD_cons_succ]; rfl) (by simp only [RX.put_some, RX.put_none, List.set_cons_zero, List.set_cons_succ]; rfl) ?_
           refine hR _ _ ?_; clear hR R)
        | (refine RX.one_float (by first | rfl | (rw [HO.out]; rfl)) rfl rfl rfl ?_
           apply Exists.intro; apply Exists.intro
           refine ⟨fun w' hS K hK => ?_, ?_, ?_⟩
           · obtain ⟨⟨hS1, hS2⟩, ⟨hS3, hS4⟩, ⟨hS5, hS6⟩, ⟨hS7, hS8⟩⟩ := hS; go_wp2; exact hK _ _ (by simp only [RX.arr_getD, List.getD_cons_zero, List.getD_cons_succ]; first | exact RX.dec_t (by omega) | exact RX.dec_f (by omega) | exact RX.beq_t (by omega) | exact RX.beq_f (by omega) | exact RX.bne_t (by omega) | exact RX.bne_f (by omega) | exact RX.bneB _ | rfl) rfl
           · simp only [RX.put_some, RX.put_none, List.set_cons_zero, List.set_cons_succ]; rfl
           refine hR _ _ ?_; clear hR R)
      refine RX.step (fun R hR => ?_)
      refine RX.one_chain (by first | rfl | (rw [HO.out]; rfl)) rfl (fun K hK => ?_)
      go_wp2_with fail
      refine (rcompare_any U1 U2 V1 V2 _).mono ?_
      rintro e wc9 ⟨rfl, hb⟩
      have hBn := hB.trans (hb.mono hB.size)
      have m1 := k1.keep hb
      have m2 := k2.keep hb
      have m3 := k3.keep hb
      have m4 := k4.keep hb
      clear hb hB k1 k2 k3 k4
      rw [HCM.out]
      refine hK _ _ ⟨⟨m1, m2, m3, m4⟩, hR _ _ ?_⟩; clear hK K hR R
      have hB := hBn; have k1 := m1; have k2 := m2; have k3 := m3; have k4 := m4
      clear hBn m1 m2 m3 m4
      repeat
        refine RX.step (fun R hR => ?_)
        first
        | (refine RX.one_skip (by first | rfl | (rw [HO.out]; rfl)) (by simp only [RX.put_some, RX.put_none, List.set_cons_zero, List.set_cons_succ]; rfl) ?_
           refine hR _ _ ?_; clear hR R)
        | (refine RX.one_move (by first | rfl | (rw [HO.out]; rfl)) rfl (by first | exact Or.inl rfl | exact Or.inr rfl) (by simp only [RX.eval_tmp, RX.eval_const, List.getD_cons_zero, List.getD_cons_succ]; rfl) (by simp only [RX.put_some, RX.put_none, List.set_cons_zero, List.set_cons_succ]; rfl) ?_
           refine hR _ _ ?_; clear hR R)
        | (refine RX.one_nil (by first | rfl | (rw [HO.out]; rfl)) rfl rfl (by simp only [RX.eval_tmp, RX.eval_const, List.getD_cons_zero, List.getD_cons_succ]; rfl) (by simp only [RX.put_some, RX.put_none, List.set_cons_zero, List.set_cons_succ]; rfl) ?_
           refine hR _ _ ?_; clear hR R)
        | (refine RX.one_float (by first | rfl | (rw [HO.out]; rfl)) rfl rfl rfl ?_
           apply Exists.intro; apply Exists.intro
           refine ⟨fun w' hS K hK => ?_, ?_, ?_⟩
           · obtain ⟨⟨hS1, hS2⟩, ⟨hS3, hS4⟩, ⟨hS5, hS6⟩, ⟨hS7, hS8⟩⟩ := hS; go_wp2; exact hK _ _ (by simp only [RX.arr_getD, List.getD_cons_zero, List.getD_cons_succ]; first | exact RX.dec_t (by omega) | exact RX.dec_f (by omega) | exact RX.beq_t (by omega) | exact RX.beq_f (by omega) | exact RX.bne_t (by omega) | exact RX.bne_f (by omega) | exact RX.bneB _ | rfl) rfl
           · simp only [RX.put_some, RX.put_none, List.set_cons_zero, List.set_cons_succ]; rfl
           refine hR _ _ ?_; clear hR R)
      refine RX.wpL_nil (hQR _ _ (⟨k1, k2, k3, k4⟩) ?_); clear hQR QR HO OPS
      go_wp2
      go_ret
      exact ⟨rfl, hB⟩
end Go.Proofs.YtpbfgnffkhabnaaDoor
