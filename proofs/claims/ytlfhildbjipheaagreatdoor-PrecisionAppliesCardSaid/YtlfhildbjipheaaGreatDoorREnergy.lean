import Derived.Test.YtlfhildbjipheaaGreatDoorKRVec
import Derived.Test.YtlfhildbjipheaaGreatDoorEnergy
import Derived.Test.YtlfhildbjipheaaGreatDoorKDot
set_option linter.unusedSimpArgs false
set_option linter.unusedVariables false
namespace Go.Proofs.YtlfhildbjipheaaGreatDoor
open Go.RowKit Go.Grid Go.Maps Go.Sort Go.Shelf

theorem dot_step3 {a : Int} {zs : List Int} {k : Nat} (hk : k < zs.length) : a * dotL (zs.take k) (zs.take k) + a * (zs[k] * zs[k]) = a * dotL (zs.take (k + 1)) (zs.take (k + 1)) := by
  rw [← dot_step2 hk, Int.mul_assoc]
theorem qf_step3 {s c : Int} {zs : List Int} {D : List I2} {k : Nat} (hk : k < D.length) {d : Int} (hd : d = zs.getD D[k].1.toNat 0 - zs.getD D[k].2.toNat 0) : c + s * qf zs zs (D.take k) + s * (d * d) = c + s * qf zs zs (D.take (k + 1)) := by
  rw [← qf_step2 hk hd, Int.mul_assoc]
theorem sq_bd {d : Int} (h1 : -2097152 ≤ d) (h2 : d ≤ 2097152) : 0 ≤ d * d ∧ d * d ≤ 4398046511104 :=
  ⟨by rw [← Int.natAbs_mul_self]; omega, mul_abs_le h1 h2⟩
set_option maxRecDepth 100000 in
set_option maxHeartbeats 4000000 in
/-- ref22.Energy of a vector that is right. -/
theorem renergy_ok (f : Nat) (s a : Int) (p : Option Addr) (zs : List Int) (cap : Nat) (w : World) (hV : VecAt w p zs) (hok : VecOk f s a zs) :
    Calls Tryz.prog 29 #[prv f s a, .slice p zs.length cap] w fun e w' => e = .returned (.tuple #[wv (energyL s a zs (edgesL f)), .int .i64 0]) ∧ Below w.heap.size w w' := by
  have hpv : Hid (prv f s a = .agg #[.int .i64 f, .int .i64 s, .int .i64 a]) := Lib.hid rfl
  have hE : vecErr f s a zs = 0 := if_pos hok
  obtain ⟨⟨hf1, hf8, hs0, hs1, ha0, ha1⟩, hlen, hsm⟩ := hok
  have hl : zs.length ≤ 1000 := by
    have h1 : 0 ≤ 10 * (f : Int) * f := Int.mul_nonneg (by omega) (by omega)
    have h2 := Int.mul_le_mul (show 10 * (f : Int) ≤ 80 by omega) hf8 (by omega) (by omega)
    omega
  have h12 : 12 ≤ zs.length := by
    have h2 := Int.mul_le_mul (show 10 ≤ 10 * (f : Int) by omega) hf1 (by omega) (by omega)
    omega
  have hI : I64L zs := fun x hx => by have := hsm x hx; omega
  have HSM := Lib.hid hsm
  have hM : ((nodesL f).length : Int) = (zs.length : Int) := by
    rw [nodes_len (by omega) (by omega), hlen]; simp
  have hDin := edges_in (n := f) (by omega) (by omega)
  rw [hM] at hDin
  have hDl := edges_len (n := f) (by omega)
  have hvec := rvector_any f s a p zs cap
  rw [hpv.out] at hvec ⊢
  clear hM hlen
  go_enter Tryz.func29, Tryz.ntmps29
  go_wp2_with fail
  have hb0 : Below w.heap.size w ((w.alloc (.cells #[.int .i64 f, .int .i64 s, .int .i64 a] 47)).alloc (.cells #[.int .i64 0, .int .u64 0] 59)) := (by repeat (first | (with_reducible assumption) | (with_reducible exact Below.refl _ _) | (with_reducible refine Below.setCell ?_ (by first | omega | (simp; done) | (simp; omega)) _) | (with_reducible refine Below.alloc ?_ (by first | omega | (simp; done) | (simp; omega)) _) | (with_reducible apply Below.drew) | assumption))
  have c0 : ((w.alloc (.cells #[.int .i64 f, .int .i64 s, .int .i64 a] 47)).alloc (.cells #[.int .i64 0, .int .u64 0] 59)).cell? ⟨w.heap.size, 0, none⟩ = some (.int .i64 f) := (by simp [RX.cell_drew, RX.cell_alloc, Nat.add_assoc])
  have c1 : ((w.alloc (.cells #[.int .i64 f, .int .i64 s, .int .i64 a] 47)).alloc (.cells #[.int .i64 0, .int .u64 0] 59)).cell? ⟨w.heap.size, 1, none⟩ = some (.int .i64 s) := (by simp [RX.cell_drew, RX.cell_alloc, Nat.add_assoc])
  have c2 : ((w.alloc (.cells #[.int .i64 f, .int .i64 s, .int .i64 a] 47)).alloc (.cells #[.int .i64 0, .int .u64 0] 59)).cell? ⟨w.heap.size, 2, none⟩ = some (.int .i64 a) := (by simp [RX.cell_drew, RX.cell_alloc, Nat.add_assoc])
  have hR := SumAt.new (w.alloc (.cells #[.int .i64 f, .int .i64 s, .int .i64 a] 47))
  rw [show (w.alloc (.cells #[.int .i64 f, .int .i64 s, .int .i64 a] 47)).heap.size = w.heap.size + 1 by simp] at hR
  generalize ((w.alloc (.cells #[.int .i64 f, .int .i64 s, .int .i64 a] 47)).alloc (.cells #[.int .i64 0, .int .u64 0] 59)) = W0 at *
  refine (hvec W0 (hV.below hb0) (by omega) hI).mono ?_
  rintro e w1 ⟨rfl, hb1⟩
  rw [hE]
  replace hR := hR.below hb1
  replace c0 := RX.keep hb1 c0
  replace c1 := RX.keep hb1 c1
  replace c2 := RX.keep hb1 c2
  have hB1 : Below w.heap.size w w1 := hb0.trans (hb1.mono hb0.size)
  clear hb1 hb0 hE hvec
  clear W0
  go_wp2_with fail
  refine (redges_any f (by omega) (by omega) w1).mono ?_
  rintro e w2 ⟨ve, rfl, hrow, hb2⟩
  obtain ⟨pe, ce, b5, rfl, hce, hpe, hP⟩ := hrow.form
  replace hR := hR.below hb2
  replace c0 := RX.keep hb2 c0
  replace c1 := RX.keep hb2 c1
  replace c2 := RX.keep hb2 c2
  have hB2 : Below w.heap.size w w2 := hB1.trans (hb2.mono hB1.size)
  clear hb2 hB1 hrow
  obtain ⟨D, hD⟩ : ∃ D, D = edgesL f := ⟨_, rfl⟩
  rw [← hD] at hP hce hpe hDin hDl ⊢
  have HDin := Lib.hid hDin
  have HP := Lib.hid hP
  have HDe := Lib.hid hD
  obtain ⟨bx, ox, rfl, hbx, hcx⟩ := (hV.below hB2).cell (by omega)
  have HX := Lib.hid hcx
  clear hV hDin hP hcx hD
  go_wp2
  have hO3 := SumAt.new w2
  have hR3 := hR.below ((Below.refl w2.heap.size w2).alloc (Nat.le_refl _) (.cells #[.int .i64 0, .int .u64 0] 59))
  have hb3 : Below w2.heap.size w2 (w2.alloc (.cells #[.int .i64 0, .int .u64 0] 59)) := (Below.refl _ _).alloc (Nat.le_refl _) _
  have hRl := hR.lt
  obtain ⟨o, ho⟩ : ∃ o, o = w2.heap.size := ⟨_, rfl⟩
  have KEEP : Hid (∀ wx, Below o w2 wx → ∀ p v, w2.cell? p = some v → wx.cell? p = some v) := Lib.hid (fun wx hb p v h => RX.keep (by rw [← ho]; exact hb) h)
  rw [← ho] at hO3 hRl hb3 hbx ⊢
  generalize (w2.alloc (.cells #[.int .i64 0, .int .u64 0] 59)) = W3 at *
  clear hR
  have hwo : w.heap.size + 1 < o := hRl
  clear ho
  go_loopw [10] (fun i wr => ∃ k : Nat, k ≤ zs.length ∧ i = .int .i64 k ∧ SumAt wr o (a * dotL (zs.take k) (zs.take k)) ∧ SumAt wr (w.heap.size + 1) 0 ∧ Below o w2 wr) (fun i _ => zs.length - (intOf i).toNat)
  case atStart => exact ⟨0, by omega, rfl, by simpa [dotL] using hO3, hR3, hb3⟩
  case round =>
    clear hO3 hR3 hb3
    obtain ⟨k, hk, rfl, hSo, hSr, hB⟩ := hrel
    by_cases hlt : k < zs.length
    · have hdk : decide ((k : Int) < (zs.length : Int)) = true := decide_eq_true (by omega)
      have xk := KEEP.out wr hB _ _ (HX.out k hlt)
      have q2 := KEEP.out wr hB _ _ c2
      have hbdx := HSM.out zs[k] (List.getElem_mem _)
      have HS := Lib.hid (dot_step3 (a := a) hlt)
      obtain ⟨x, hx⟩ : ∃ x, x = zs[k] := ⟨_, rfl⟩
      rw [← hx] at xk hbdx HS
      have hsq := sq_bd (d := x) (by omega) (by omega)
      obtain ⟨y, hy⟩ : ∃ y, x * x = y := ⟨_, rfl⟩
      rw [hy] at hsq HS
      clear hx
      have hk0 : (0 : Int) ≤ (k : Int) := by omega
      have hkl : (k : Int) < (zs.length : Int) := by omega
      obtain ⟨S, hS⟩ : ∃ S, S = a * dotL (zs.take k) (zs.take k) := ⟨_, rfl⟩
      rw [← hS] at HS hSo
      clear hS
      obtain ⟨A, B, hA, hBB, hs⟩ := wv_parts S
      obtain ⟨a0, a1, z0, z1⟩ := hSo
      have HOS : Hid (SumAt wr o S) := Lib.hid ⟨a0, a1, z0, z1⟩
      rw [← hA] at a0
      rw [← hBB] at a1
      have HAB := Lib.hid hs.symm
      clear hA hBB hs
      go_wp2
      refine RY.region RX.fL (fun w' => w'.cell? ⟨o, 0, none⟩ = some (.int .i64 A) ∧ w'.cell? ⟨o, 1, none⟩ = some (.int .u64 B) ∧ w'.cell? ⟨bx, ox + k, none⟩ = some (.int .i64 x) ∧ w'.cell? ⟨w.heap.size, 2, none⟩ = some (.int .i64 a)) (by kernel_rfl) (by kernel_rfl) (⟨a0, a1, xk, q2⟩) (fun OPS HO QR hQR => ?_)
      repeat
        refine RY.step (fun R hR => ?_)
        first
        | (refine RY.one_skip (by first | rfl | (rw [HO.out]; rfl)) (by simp only [RX.put_some, RX.put_none, List.set_cons_zero, List.set_cons_succ]; rfl) ?_
           refine hR _ _ ?_; clear hR R)
        | (refine RY.one_move (by first | rfl | (rw [HO.out]; rfl)) rfl (by first | exact Or.inl rfl | exact Or.inr rfl) (by simp only [RX.eval_tmp, RX.eval_const, List.getD_cons_zero, List.getD_cons_succ]; rfl) (by simp only [RX.put_some, RX.put_none, List.set_cons_zero, List.set_cons_succ]; rfl) ?_
           refine hR _ _ ?_; clear hR R)
        | (refine RY.one_nil (by first | rfl | (rw [HO.out]; rfl)) rfl rfl (by simp only [RX.eval_tmp, RX.eval_const, List.getD_cons_zero, List.getD_cons_succ]; rfl) (by simp only [RX.put_some, RX.put_none, List.set_cons_zero, List.set_cons_succ]; rfl) ?_
           refine hR _ _ ?_; clear hR R)
        | (refine RY.one_float (by first | rfl | (rw [HO.out]; rfl)) rfl rfl rfl ?_
           apply Exists.intro; apply Exists.intro
           refine ⟨fun w' hS K hK => ?_, ?_, ?_⟩
           · obtain ⟨hS1, hS2, hS3, hS4⟩ := hS; go_wp2; exact hK _ _ (by simp only [RX.arr_getD, List.getD_cons_zero, List.getD_cons_succ]; first | exact RX.dec_t (by omega) | exact RX.dec_f (by omega) | exact RX.beq_t (by omega) | exact RX.beq_f (by omega) | exact RX.bne_t (by omega) | exact RX.bne_f (by omega) | exact RX.bneB _ | rfl) rfl
           · simp only [RX.put_some, RX.put_none, List.set_cons_zero, List.set_cons_succ]; rfl
           refine hR _ _ ?_; clear hR R)
      refine RY.step (fun R hR => ?_)
      refine RY.one_chain (by first | rfl | (rw [HO.out]; rfl)) rfl (fun K hK => ?_)
      go_wp2_with fail
      refine (rproduct_any a y _ (by omega) (by omega) (by omega) (by omega)).mono ?_
      rintro e w3 ⟨rfl, hb3⟩
      have hb3 : Below wr.heap.size wr w3 := ⟨hb3.os, hb3.tape, hb3.output, hb3.size, hb3.block⟩
      refine hK _ _ ⟨.inr (⟨RX.keep hb3 a0, RX.keep hb3 a1, RX.keep hb3 xk, RX.keep hb3 q2⟩), hR _ _ ?_⟩; clear hK K hR R
      repeat
        refine RY.step (fun R hR => ?_)
        first
        | (refine RY.one_skip (by first | rfl | (rw [HO.out]; rfl)) (by simp only [RX.put_some, RX.put_none, List.set_cons_zero, List.set_cons_succ]; rfl) ?_
           refine hR _ _ ?_; clear hR R)
        | (refine RY.one_move (by first | rfl | (rw [HO.out]; rfl)) rfl (by first | exact Or.inl rfl | exact Or.inr rfl) (by simp only [RX.eval_tmp, RX.eval_const, List.getD_cons_zero, List.getD_cons_succ]; rfl) (by simp only [RX.put_some, RX.put_none, List.set_cons_zero, List.set_cons_succ]; rfl) ?_
           refine hR _ _ ?_; clear hR R)
        | (refine RY.one_nil (by first | rfl | (rw [HO.out]; rfl)) rfl rfl (by simp only [RX.eval_tmp, RX.eval_const, List.getD_cons_zero, List.getD_cons_succ]; rfl) (by simp only [RX.put_some, RX.put_none, List.set_cons_zero, List.set_cons_succ]; rfl) ?_
           refine hR _ _ ?_; clear hR R)
        | (refine RY.one_float (by first | rfl | (rw [HO.out]; rfl)) rfl rfl rfl ?_
           apply Exists.intro; apply Exists.intro
           refine ⟨fun w' hS K hK => ?_, ?_, ?_⟩
           · obtain ⟨hS1, hS2, hS3, hS4⟩ := hS; go_wp2; exact hK _ _ (by simp only [RX.arr_getD, List.getD_cons_zero, List.getD_cons_succ]; first | exact RX.dec_t (by omega) | exact RX.dec_f (by omega) | exact RX.beq_t (by omega) | exact RX.beq_f (by omega) | exact RX.bne_t (by omega) | exact RX.bne_f (by omega) | exact RX.bneB _ | rfl) rfl
           · simp only [RX.put_some, RX.put_none, List.set_cons_zero, List.set_cons_succ]; rfl
           refine hR _ _ ?_; clear hR R)
      refine RY.step (fun R hR => ?_)
      refine RY.one_chain (by first | rfl | (rw [HO.out]; rfl)) rfl (fun K hK => ?_)
      go_wp2_with fail
      refine (radd_at2 _ _ S (a * y) HAB.out rfl _).mono ?_
      rintro e w4 ⟨rfl, hb4⟩
      rw [HS.out]
      have hb4 := hb3.trans (hb4.mono hb3.size)
      have a04 := RX.keep hb4 a0
      have a14 := RX.keep hb4 a1
      have x4 := RX.keep hb4 xk
      have y4 := RX.keep hb4 q2
      have hO4 := HOS.out.below hb4
      have hR4 := hSr.below hb4
      have hor := HOS.out.lt
      have hB4 : Below o w2 w4 := hB.trans (hb4.mono (by omega))
      obtain ⟨C, G, hC, hG, hVal⟩ := wv_parts (a * dotL (zs.take (k + 1)) (zs.take (k + 1)))
      rw [hVal]
      have HO4 := Lib.hid hO4
      have z04 := hO4.f0
      have z14 := hO4.f1
      have HC := Lib.hid (And.intro hC hG)
      have HXX := Lib.hid (And.intro hR4 hB4)
      clear hSr hB hb4 hb3 hC hG hVal hR4 hB4 xk q2 HS a0 a1 z0 z1 hO4 HOS
      refine hK _ _ ⟨.inr (⟨a04, a14, x4, y4⟩), hR _ _ ?_⟩; clear hK K hR R
      repeat
        refine RY.step (fun R hR => ?_)
        first
        | (refine RY.one_skip (by first | rfl | (rw [HO.out]; rfl)) (by simp only [RX.put_some, RX.put_none, List.set_cons_zero, List.set_cons_succ]; rfl) ?_
           refine hR _ _ ?_; clear hR R)
        | (refine RY.one_move (by first | rfl | (rw [HO.out]; rfl)) rfl (by first | exact Or.inl rfl | exact Or.inr rfl) (by simp only [RX.eval_tmp, RX.eval_const, List.getD_cons_zero, List.getD_cons_succ]; rfl) (by simp only [RX.put_some, RX.put_none, List.set_cons_zero, List.set_cons_succ]; rfl) ?_
           refine hR _ _ ?_; clear hR R)
        | (refine RY.one_nil (by first | rfl | (rw [HO.out]; rfl)) rfl rfl (by simp only [RX.eval_tmp, RX.eval_const, List.getD_cons_zero, List.getD_cons_succ]; rfl) (by simp only [RX.put_some, RX.put_none, List.set_cons_zero, List.set_cons_succ]; rfl) ?_
           refine hR _ _ ?_; clear hR R)
        | (refine RY.one_float (by first | rfl | (rw [HO.out]; rfl)) rfl rfl rfl ?_
           apply Exists.intro; apply Exists.intro
           refine ⟨fun w' hS K hK => ?_, ?_, ?_⟩
           · obtain ⟨hS1, hS2, hS3, hS4⟩ := hS; go_wp2; exact hK _ _ (by simp only [RX.arr_getD, List.getD_cons_zero, List.getD_cons_succ]; first | exact RX.dec_t (by omega) | exact RX.dec_f (by omega) | exact RX.beq_t (by omega) | exact RX.beq_f (by omega) | exact RX.bne_t (by omega) | exact RX.bne_f (by omega) | exact RX.bneB _ | rfl) rfl
           · simp only [RX.put_some, RX.put_none, List.set_cons_zero, List.set_cons_succ]; rfl
           refine hR _ _ ?_; clear hR R)
      refine RY.step (fun R hR => ?_)
      refine RY.one_chain (by first | rfl | (rw [HO.out]; rfl)) rfl (fun K hK => ?_)
      go_wp2
      first | refine ⟨(by first | exact .inl rfl | exact .inl trivial | trivial), hR _ _ (RY.wpL_nil (hQR _ _ ?_))⟩ | refine hR _ _ (RY.wpL_nil (hQR _ _ ?_)) | refine hQR _ _ ?_
      (try clear hR); (try clear R); clear hQR QR HO OPS
      go_wp2
      have HS1 : Hid (SumAt ((w4.setCell ⟨o, 0, none⟩ (.int .i64 C)).setCell ⟨o, 1, none⟩ (.int .u64 G)) o (a * dotL (zs.take (k + 1)) (zs.take (k + 1)))) := Lib.hid (sum_store HO4.out HC.out.1 HC.out.2)
      go_roundw
      case rel => exact ⟨k + 1, by omega, by go_num, HS1.out, HXX.out.1.set2 (by omega), (HXX.out.2.setCell (by simp) _).setCell (by simp) _⟩
      case measure => simp [intOf]; omega
    · have hdk : decide ((k : Int) < (zs.length : Int)) = false := decide_eq_false (by omega)
      have hkl : k = zs.length := by omega
      have e1 : a * dotL (zs.take k) (zs.take k) = a * dotL zs zs + s * qf zs zs (D.take 0) := by rw [hkl, List.take_length]; simp [qf]
      rw [e1] at hSo
      clear e1 hkl
      go_wp2
      go_loopw [11] (fun i wr => ∃ j : Nat, j ≤ D.length ∧ i = .int .i64 j ∧ SumAt wr o (a * dotL zs zs + s * qf zs zs (D.take j)) ∧ SumAt wr (w.heap.size + 1) 0 ∧ Below o w2 wr) (fun i _ => D.length - (intOf i).toNat)
      case atStart => exact ⟨0, by omega, rfl, hSo, hSr, hB⟩
      case round =>
        clear hSo hSr hB
        obtain ⟨j, hj, rfl, hSo, hSr, hB⟩ := hrel
        by_cases hlt2 : j < D.length
        · have hdj : decide ((j : Int) < (D.length : Int)) = true := decide_eq_true (by omega)
          obtain rfl := (hpe (by omega)).1
          have e0 := KEEP.out wr hB _ _ (HP.out j hlt2).1
          have e1 := KEEP.out wr hB _ _ (HP.out j hlt2).2
          obtain ⟨g1, g2, g3, g4⟩ := HDin.out D[j] (List.getElem_mem _)
          have HQ := fun (d : Int) hd => Lib.hid (qf_step3 (s := s) (c := a * dotL zs zs) (zs := zs) hlt2 (d := d) hd)
          obtain ⟨c, hc⟩ : ∃ c, c = D[j] := ⟨_, rfl⟩
          rw [← hc] at e0 e1 g1 g2 g3 g4 HQ
          obtain ⟨cA, cB'⟩ := c
          dsimp only at e0 e1 g1 g2 g3 g4 HQ
          obtain ⟨ia, rfl⟩ : ∃ ia : Nat, cA = (ia : Int) := ⟨cA.toNat, by omega⟩
          obtain ⟨ib, rfl⟩ : ∃ ib : Nat, cB' = (ib : Int) := ⟨cB'.toNat, by omega⟩
          have hia : ia < zs.length := by omega
          have hib : ib < zs.length := by omega
          have xa := KEEP.out wr hB _ _ (HX.out ia hia)
          have xb := KEEP.out wr hB _ _ (HX.out ib hib)
          have q1 := KEEP.out wr hB _ _ c1
          have hza := HSM.out zs[ia] (List.getElem_mem _)
          have hzb := HSM.out zs[ib] (List.getElem_mem _)
          have HQ2 := HQ (zs[ia] - zs[ib]) (by simp only [Int.toNat_natCast]; rw [show zs.getD ia 0 = zs[ia] by simp [List.getD, List.getElem?_eq_getElem hia], show zs.getD ib 0 = zs[ib] by simp [List.getD, List.getElem?_eq_getElem hib]])
          obtain ⟨za, hzae⟩ : ∃ z, z = zs[ia] := ⟨_, rfl⟩
          obtain ⟨zb, hzbe⟩ : ∃ z, z = zs[ib] := ⟨_, rfl⟩
          rw [← hzae] at xa hza HQ2
          rw [← hzbe] at xb hzb HQ2
          obtain ⟨d, hd⟩ : ∃ d, za - zb = d := ⟨_, rfl⟩
          rw [hd] at HQ2
          have hdb : -2097152 ≤ d ∧ d ≤ 2097152 := by omega
          have hsq := sq_bd (d := d) (by omega) (by omega)
          obtain ⟨y, hy⟩ : ∃ y, d * d = y := ⟨_, rfl⟩
          rw [hy] at hsq HQ2
          obtain ⟨S, hS⟩ : ∃ S, S = a * dotL zs zs + s * qf zs zs (D.take j) := ⟨_, rfl⟩
          rw [← hS] at HQ2 hSo
          clear hS HQ hzae hzbe hc
          have hj0 : (0 : Int) ≤ (j : Int) := by omega
          have hjl : (j : Int) < (D.length : Int) := by omega
          have hA0 : (0 : Int) ≤ (ia : Int) := by omega
          have hB0 : (0 : Int) ≤ (ib : Int) := by omega
          obtain ⟨A, B, hA, hBB, hs⟩ := wv_parts S
          obtain ⟨a0, a1, z0, z1⟩ := hSo
          have HOS : Hid (SumAt wr o S) := Lib.hid ⟨a0, a1, z0, z1⟩
          rw [← hA] at a0
          rw [← hBB] at a1
          have HAB := Lib.hid hs.symm
          clear hA hBB hs
          go_wp2
          refine RX.region RX.fL (fun w' => w' = _) (by kernel_rfl) (by kernel_rfl) rfl (fun OPS HO QR hQR => ?_)
          repeat
            refine RX.step (fun R hR => ?_)
            first
            | (refine RX.one_skip (by first | rfl | (rw [HO.out]; rfl)) (by simp only [RX.put_some, RX.put_none, List.set_cons_zero, List.set_cons_succ]; rfl) ?_
               refine hR _ _ ?_; clear hR R)
            | (refine RX.one_move (by first | rfl | (rw [HO.out]; rfl)) rfl (by first | exact Or.inl rfl | exact Or.inr rfl) (by simp only [RX.eval_tmp, RX.eval_const, List.getD_cons_zero, List.getD_cons_succ]; rfl) (by simp only [RX.put_some, RX.put_none, List.set_cons_zero, List.set_cons_succ]; rfl) ?_
               refine hR _ _ ?_; clear hR R)
            | (refine RX.one_nil (by first | rfl | (rw [HO.out]; rfl)) rfl rfl (by simp only [RX.eval_tmp, RX.eval_const, List.getD_cons_zero, List.getD_cons_succ]; rfl) (by simp only [RX.put_some, RX.put_none, List.set_cons_zero, List.set_cons_succ]; rfl) ?_
               refine hR _ _ ?_; clear hR R)
            | (refine RX.one_float (by first | rfl | (rw [HO.out]; rfl)) rfl rfl rfl ?_
               apply Exists.intro; apply Exists.intro
               refine ⟨fun w' hS K hK => ?_, ?_, ?_⟩
               · subst hS; go_wp2; exact hK _ _ (by simp only [RX.arr_getD, List.getD_cons_zero, List.getD_cons_succ]; first | exact RX.dec_t (by omega) | exact RX.dec_f (by omega) | exact RX.beq_t (by omega) | exact RX.beq_f (by omega) | exact RX.bne_t (by omega) | exact RX.bne_f (by omega) | exact RX.bneB _ | rfl) rfl
               · simp only [RX.put_some, RX.put_none, List.set_cons_zero, List.set_cons_succ]; rfl
               refine hR _ _ ?_; clear hR R)
          refine RX.wpL_nil (hQR _ _ rfl ?_); clear hQR QR HO OPS
          go_wp2
          refine RY.region RX.fL (fun w' => w'.cell? ⟨o, 0, none⟩ = some (.int .i64 A) ∧ w'.cell? ⟨o, 1, none⟩ = some (.int .u64 B) ∧ w'.cell? ⟨w.heap.size, 1, none⟩ = some (.int .i64 s)) (by kernel_rfl) (by kernel_rfl) (⟨a0, a1, q1⟩) (fun OPS HO QR hQR => ?_)
          repeat
            refine RY.step (fun R hR => ?_)
            first
            | (refine RY.one_skip (by first | rfl | (rw [HO.out]; rfl)) (by simp only [RX.put_some, RX.put_none, List.set_cons_zero, List.set_cons_succ]; rfl) ?_
               refine hR _ _ ?_; clear hR R)
            | (refine RY.one_move (by first | rfl | (rw [HO.out]; rfl)) rfl (by first | exact Or.inl rfl | exact Or.inr rfl) (by simp only [RX.eval_tmp, RX.eval_const, List.getD_cons_zero, List.getD_cons_succ]; rfl) (by simp only [RX.put_some, RX.put_none, List.set_cons_zero, List.set_cons_succ]; rfl) ?_
               refine hR _ _ ?_; clear hR R)
            | (refine RY.one_nil (by first | rfl | (rw [HO.out]; rfl)) rfl rfl (by simp only [RX.eval_tmp, RX.eval_const, List.getD_cons_zero, List.getD_cons_succ]; rfl) (by simp only [RX.put_some, RX.put_none, List.set_cons_zero, List.set_cons_succ]; rfl) ?_
               refine hR _ _ ?_; clear hR R)
            | (refine RY.one_float (by first | rfl | (rw [HO.out]; rfl)) rfl rfl rfl ?_
               apply Exists.intro; apply Exists.intro
               refine ⟨fun w' hS K hK => ?_, ?_, ?_⟩
               · obtain ⟨hS1, hS2, hS3⟩ := hS; go_wp2; exact hK _ _ (by simp only [RX.arr_getD, List.getD_cons_zero, List.getD_cons_succ]; first | exact RX.dec_t (by omega) | exact RX.dec_f (by omega) | exact RX.beq_t (by omega) | exact RX.beq_f (by omega) | exact RX.bne_t (by omega) | exact RX.bne_f (by omega) | exact RX.bneB _ | rfl) rfl
               · simp only [RX.put_some, RX.put_none, List.set_cons_zero, List.set_cons_succ]; rfl
               refine hR _ _ ?_; clear hR R)
          refine RY.step (fun R hR => ?_)
          refine RY.one_chain (by first | rfl | (rw [HO.out]; rfl)) rfl (fun K hK => ?_)
          go_wp2_with fail
          refine (rproduct_any s y _ (by omega) (by omega) (by omega) (by omega)).mono ?_
          rintro e w3 ⟨rfl, hb3⟩
          have hb3 : Below wr.heap.size wr w3 := ⟨hb3.os, hb3.tape, hb3.output, hb3.size, hb3.block⟩
          refine hK _ _ ⟨.inr (⟨RX.keep hb3 a0, RX.keep hb3 a1, RX.keep hb3 q1⟩), hR _ _ ?_⟩; clear hK K hR R
          repeat
            refine RY.step (fun R hR => ?_)
            first
            | (refine RY.one_skip (by first | rfl | (rw [HO.out]; rfl)) (by simp only [RX.put_some, RX.put_none, List.set_cons_zero, List.set_cons_succ]; rfl) ?_
               refine hR _ _ ?_; clear hR R)
            | (refine RY.one_move (by first | rfl | (rw [HO.out]; rfl)) rfl (by first | exact Or.inl rfl | exact Or.inr rfl) (by simp only [RX.eval_tmp, RX.eval_const, List.getD_cons_zero, List.getD_cons_succ]; rfl) (by simp only [RX.put_some, RX.put_none, List.set_cons_zero, List.set_cons_succ]; rfl) ?_
               refine hR _ _ ?_; clear hR R)
            | (refine RY.one_nil (by first | rfl | (rw [HO.out]; rfl)) rfl rfl (by simp only [RX.eval_tmp, RX.eval_const, List.getD_cons_zero, List.getD_cons_succ]; rfl) (by simp only [RX.put_some, RX.put_none, List.set_cons_zero, List.set_cons_succ]; rfl) ?_
               refine hR _ _ ?_; clear hR R)
            | (refine RY.one_float (by first | rfl | (rw [HO.out]; rfl)) rfl rfl rfl ?_
               apply Exists.intro; apply Exists.intro
               refine ⟨fun w' hS K hK => ?_, ?_, ?_⟩
               · obtain ⟨hS1, hS2, hS3⟩ := hS; go_wp2; exact hK _ _ (by simp only [RX.arr_getD, List.getD_cons_zero, List.getD_cons_succ]; first | exact RX.dec_t (by omega) | exact RX.dec_f (by omega) | exact RX.beq_t (by omega) | exact RX.beq_f (by omega) | exact RX.bne_t (by omega) | exact RX.bne_f (by omega) | exact RX.bneB _ | rfl) rfl
               · simp only [RX.put_some, RX.put_none, List.set_cons_zero, List.set_cons_succ]; rfl
               refine hR _ _ ?_; clear hR R)
          refine RY.step (fun R hR => ?_)
          refine RY.one_chain (by first | rfl | (rw [HO.out]; rfl)) rfl (fun K hK => ?_)
          go_wp2_with fail
          refine (radd_at2 _ _ S (s * y) HAB.out rfl _).mono ?_
          rintro e w4 ⟨rfl, hb4⟩
          rw [HQ2.out]
          have hb4 := hb3.trans (hb4.mono hb3.size)
          have a04 := RX.keep hb4 a0
          have a14 := RX.keep hb4 a1
          have y4 := RX.keep hb4 q1
          have hO4 := HOS.out.below hb4
          have hR4 := hSr.below hb4
          have hor := HOS.out.lt
          have hB4 : Below o w2 w4 := hB.trans (hb4.mono (by omega))
          obtain ⟨C, G, hC, hG, hVal⟩ := wv_parts (a * dotL zs zs + s * qf zs zs (D.take (j + 1)))
          rw [hVal]
          have HO4 := Lib.hid hO4
          have z04 := hO4.f0
          have z14 := hO4.f1
          have HC := Lib.hid (And.intro hC hG)
          have HXX := Lib.hid (And.intro hR4 hB4)
          clear hSr hB hb4 hb3 hC hG hVal hR4 hB4 xa xb q1 HQ2 a0 a1 z0 z1 hO4 HOS e0 e1
          refine hK _ _ ⟨.inr (⟨a04, a14, y4⟩), hR _ _ ?_⟩; clear hK K hR R
          repeat
            refine RY.step (fun R hR => ?_)
            first
            | (refine RY.one_skip (by first | rfl | (rw [HO.out]; rfl)) (by simp only [RX.put_some, RX.put_none, List.set_cons_zero, List.set_cons_succ]; rfl) ?_
               refine hR _ _ ?_; clear hR R)
            | (refine RY.one_move (by first | rfl | (rw [HO.out]; rfl)) rfl (by first | exact Or.inl rfl | exact Or.inr rfl) (by simp only [RX.eval_tmp, RX.eval_const, List.getD_cons_zero, List.getD_cons_succ]; rfl) (by simp only [RX.put_some, RX.put_none, List.set_cons_zero, List.set_cons_succ]; rfl) ?_
               refine hR _ _ ?_; clear hR R)
            | (refine RY.one_nil (by first | rfl | (rw [HO.out]; rfl)) rfl rfl (by simp only [RX.eval_tmp, RX.eval_const, List.getD_cons_zero, List.getD_cons_succ]; rfl) (by simp only [RX.put_some, RX.put_none, List.set_cons_zero, List.set_cons_succ]; rfl) ?_
               refine hR _ _ ?_; clear hR R)
            | (refine RY.one_float (by first | rfl | (rw [HO.out]; rfl)) rfl rfl rfl ?_
               apply Exists.intro; apply Exists.intro
               refine ⟨fun w' hS K hK => ?_, ?_, ?_⟩
               · obtain ⟨hS1, hS2, hS3⟩ := hS; go_wp2; exact hK _ _ (by simp only [RX.arr_getD, List.getD_cons_zero, List.getD_cons_succ]; first | exact RX.dec_t (by omega) | exact RX.dec_f (by omega) | exact RX.beq_t (by omega) | exact RX.beq_f (by omega) | exact RX.bne_t (by omega) | exact RX.bne_f (by omega) | exact RX.bneB _ | rfl) rfl
               · simp only [RX.put_some, RX.put_none, List.set_cons_zero, List.set_cons_succ]; rfl
               refine hR _ _ ?_; clear hR R)
          refine RY.step (fun R hR => ?_)
          refine RY.one_chain (by first | rfl | (rw [HO.out]; rfl)) rfl (fun K hK => ?_)
          go_wp2
          first | refine ⟨(by first | exact .inl rfl | exact .inl trivial | trivial), hR _ _ (RY.wpL_nil (hQR _ _ ?_))⟩ | refine hR _ _ (RY.wpL_nil (hQR _ _ ?_)) | refine hQR _ _ ?_
          (try clear hR); (try clear R); clear hQR QR HO OPS
          go_wp2
          have HS1 : Hid (SumAt ((w4.setCell ⟨o, 0, none⟩ (.int .i64 C)).setCell ⟨o, 1, none⟩ (.int .u64 G)) o (a * dotL zs zs + s * qf zs zs (D.take (j + 1)))) := Lib.hid (sum_store HO4.out HC.out.1 HC.out.2)
          go_roundw
          case rel => exact ⟨j + 1, by omega, by go_num, HS1.out, HXX.out.1.set2 (by omega), (HXX.out.2.setCell (by simp) _).setCell (by simp) _⟩
          case measure => simp [intOf]; omega
        · have hdj : decide ((j : Int) < (D.length : Int)) = false := decide_eq_false (by omega)
          have hjD : j = D.length := by omega
          have e1 : a * dotL zs zs + s * qf zs zs (D.take j) = energyL s a zs D := by rw [hjD, List.take_length]; rfl
          rw [e1] at hSo
          clear e1 hjD
          obtain ⟨C, G, hC, hG, hVal⟩ := wv_parts (energyL s a zs D)
          obtain ⟨d0, d1, _, _⟩ := hSo
          rw [← hC] at d0
          rw [← hG] at d1
          have HR := Lib.hid hSr
          obtain ⟨x0, x1, z0, z1⟩ := hSr
          have hoR : ¬ o = w.heap.size + 1 := by omega
          have HC := Lib.hid (And.intro hC hG)
          have HV := Lib.hid hVal
          have HB9 : Hid (Below w.heap.size w wr) := Lib.hid (hB2.trans (hB.mono (by omega)))
          clear hC hG hVal hB
          go_wp2
          refine bodyPost_ret (v := .tuple #[.agg #[.int .i64 C, .int .u64 G], .int .i64 0]) ?_ rfl ⟨by rw [← HDe.out, HV.out], (HB9.out.setCell (by simp) _).setCell (by simp) _⟩
          obtain ⟨q0, q1, _, _⟩ := sum_store HR.out HC.out.1 HC.out.2
          rw [← HC.out.1] at q0
          rw [← HC.out.2] at q1
          generalize ((wr.setCell ⟨w.heap.size + 1, 0, none⟩ (.int .i64 C)).setCell ⟨w.heap.size + 1, 1, none⟩ (.int .u64 G)) = W at q0 q1 ⊢
          simp [results, Tryz.results29, go_sem, q0, q1]
end Go.Proofs.YtlfhildbjipheaaGreatDoor
