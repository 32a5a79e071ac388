import Derived.Test.YtlfhildbjipheaaGreatDoorLinQ
set_option linter.unusedSimpArgs false
set_option linter.unusedVariables false
namespace Go.Proofs.YtlfhildbjipheaaGreatDoor
open Go.RowKit Go.Grid Go.Maps Go.Sort Go.Shelf

/-- Of the old blocks two may have turned. -/
def K2 (W wr : World) (g o : Nat) : Prop := W.heap.size ≤ wr.heap.size ∧ ∀ j, j < W.heap.size → j ≠ g → j ≠ o → wr.heap[j]? = W.heap[j]?
theorem K2.refl (W : World) (g o : Nat) : K2 W W g o := ⟨Nat.le_refl _, fun _ _ _ _ => rfl⟩
theorem K2.cell {W wr : World} {g o b k : Nat} {v : Value} (h : K2 W wr g o) (hc : W.cell? ⟨b, k, none⟩ = some v) (h1 : b ≠ g) (h2 : b ≠ o) : wr.cell? ⟨b, k, none⟩ = some v :=
  (World.cell?_of_block (h.2 b (World.block_lt_of_cell? _ _ hc) h1 h2)).trans hc
theorem K2.grown {W wr w' : World} {g o k : Nat} (h : K2 W wr g o) (hg : wr.grownBy w' (some k)) (hk : k = g ∨ k = o) : K2 W w' g o :=
  ⟨Nat.le_trans h.1 hg.size, fun j hj h1 h2 => (hg.block j (Nat.lt_of_lt_of_le hj h.1) (fun e => by injection e with e; rcases hk with hk | hk <;> omega)).trans (h.2 j hj h1 h2)⟩
theorem K2.set {W wr : World} {g o i : Nat} {v : Value} (h : K2 W wr g o) : K2 W (wr.setCell ⟨o, i, none⟩ v) g o :=
  ⟨by simpa [World.setCell] using h.1, fun j hj h1 h2 => (Below.heap_setCell _ _ _ j h2).trans (h.2 j hj h1 h2)⟩
theorem K2.below {W wr w' : World} {g o : Nat} (h : K2 W wr g o) (hb : Below wr.heap.size wr w') : K2 W w' g o :=
  ⟨Nat.le_trans h.1 hb.size, fun j hj h1 h2 => (hb.block j (Nat.lt_of_lt_of_le hj h.1)).trans (h.2 j hj h1 h2)⟩
theorem dot_step2 {a : Int} {zs : List Int} {k : Nat} (hk : k < zs.length) : a * dotL (zs.take k) (zs.take k) + a * zs[k] * zs[k] = a * dotL (zs.take (k + 1)) (zs.take (k + 1)) := by
  rw [dotL_take rfl hk, Int.mul_add, Int.mul_assoc]
theorem qf_step2 {s c : Int} {zs : List Int} {D : List I2} {k : Nat} (hk : k < D.length) {d : Int} (hd : d = zs.getD D[k].1.toNat 0 - zs.getD D[k].2.toNat 0) : c + s * qf zs zs (D.take k) + s * d * d = c + s * qf zs zs (D.take (k + 1)) := by
  rw [qf_take hk, ← hd, Int.mul_add, Int.mul_assoc]; omega

set_option maxRecDepth 100000 in
set_option maxHeartbeats 3000000 in
theorem energy_at (f : Nat) (s a : Int) (p : Option Addr) (zs : List Int) (cap n : Nat) (w : World) (hn : zs.length = n) (hT : HasTab w) (hV : VecAt w p zs) (hok : VecOk f s a zs) :
    Calls Tryz.prog 28 #[prv f s a, .slice p n cap] w fun e w' => e = .returned (.tuple #[wv (energyL s a zs (edgesL f)), .int .i64 0]) ∧ Below w.heap.size w w' := by
  have hpv : Hid (prv f s a = .agg #[.int .i64 f, .int .i64 s, .int .i64 a]) := Lib.hid rfl
  have hE : vecErr f s a zs = 0 := if_pos hok
  obtain ⟨⟨hf1, hf8, hs0, hs1, ha0, ha1⟩, hlen, hsm⟩ := hok
  have hl : n ≤ 1000 ∧ 12 ≤ n := by
    have h1 : 0 ≤ 10 * (f : Int) * f := Int.mul_nonneg (by omega) (by omega)
    have h2 := Int.mul_le_mul (show 10 * (f : Int) ≤ 80 by omega) hf8 (by omega) (by omega)
    have h3 := Int.mul_le_mul (show 10 ≤ 10 * (f : Int) by omega) hf1 (by omega) (by omega)
    omega
  have HIR := Lib.hid (edges_InR (f := f) (by omega) (by omega) hlen)
  have hDl := edges_len (n := f) (by omega)
  have hDin := edges_in (n := f) (by omega) (by omega)
  have HZ := Lib.hid (And.intro hn (And.intro hsm hV))
  rw [hpv.out]
  clear hlen
  go_enter Tryz.func28, Tryz.ntmps28
  go_wp2_with fail
  have hB : Below w.heap.size w ((w.alloc (.cells #[.int .i64 f, .int .i64 s, .int .i64 a] 47)).alloc (.cells #[.int .i64 0, .int .u64 0] 59)) := (by repeat (first | (with_reducible assumption) | (with_reducible exact Below.refl _ _) | (with_reducible refine Below.setCell ?_ (by first | omega | (simp; done) | (simp; omega)) _) | (with_reducible refine Below.alloc ?_ (by first | omega | (simp; done) | (simp; omega)) _) | (with_reducible apply Below.drew) | assumption))
  have c0 : ((w.alloc (.cells #[.int .i64 f, .int .i64 s, .int .i64 a] 47)).alloc (.cells #[.int .i64 0, .int .u64 0] 59)).cell? ⟨w.heap.size, 0, none⟩ = some (.int .i64 f) := (by simp [RX.cell_drew, RX.cell_alloc, Nat.add_assoc])
  have c1 : ((w.alloc (.cells #[.int .i64 f, .int .i64 s, .int .i64 a] 47)).alloc (.cells #[.int .i64 0, .int .u64 0] 59)).cell? ⟨w.heap.size, 1, none⟩ = some (.int .i64 s) := (by simp [RX.cell_drew, RX.cell_alloc, Nat.add_assoc])
  have c2 : ((w.alloc (.cells #[.int .i64 f, .int .i64 s, .int .i64 a] 47)).alloc (.cells #[.int .i64 0, .int .u64 0] 59)).cell? ⟨w.heap.size, 2, none⟩ = some (.int .i64 a) := (by simp [RX.cell_drew, RX.cell_alloc, Nat.add_assoc])
  have hR := SumAt.new (w.alloc (.cells #[.int .i64 f, .int .i64 s, .int .i64 a] 47))
  rw [show (w.alloc (.cells #[.int .i64 f, .int .i64 s, .int .i64 a] 47)).heap.size = w.heap.size + 1 by simp] at hR
  generalize ((w.alloc (.cells #[.int .i64 f, .int .i64 s, .int .i64 a] 47)).alloc (.cells #[.int .i64 0, .int .u64 0] 59)) = W0 at *
  have hvec := vector_any f s a p zs cap W0 (HZ.out.2.2.below hB) (by rw [HZ.out.1]; omega)
  rw [HZ.out.1] at hvec
  refine hvec.mono ?_
  rintro e w1 ⟨rfl, hb1⟩
  clear hvec hn hsm hV
  rw [hE]
  replace hR := hR.below hb1
  replace c0 := RX.keep hb1 c0
  replace c1 := RX.keep hb1 c1
  replace c2 := RX.keep hb1 c2
  replace hB := hB.trans (hb1.mono hB.size)
  clear hb1 hE
  clear W0
  go_wp2_with fail
  refine (edges_any f (by omega) (by omega) w1 (hT.below hB)).mono ?_
  rintro e w2 ⟨b5, k5, rfl, hk5, hP, hb5, hb2⟩
  have hR1 := hR.lt
  have hb5l : 0 < (edgesL f).length → b5 < w2.heap.size := fun h => World.block_lt_of_cell? _ _ (hP.c0 0 h)
  have hw12 := hb2.size
  replace hR := hR.below hb2
  replace c0 := RX.keep hb2 c0
  replace c1 := RX.keep hb2 c1
  replace c2 := RX.keep hb2 c2
  replace hB := hB.trans (hb2.mono hB.size)
  clear hb2 hT
  go_wp2_with fail
  refine (total_any _).mono ?_
  rintro e w3 ⟨rfl, hS3, hb3⟩
  replace hR := hR.below hb3
  replace c0 := RX.keep hb3 c0
  replace c1 := RX.keep hb3 c1
  replace c2 := RX.keep hb3 c2
  replace hB := hB.trans (hb3.mono hB.size)
  obtain ⟨g, hg⟩ : ∃ g, g = w2.heap.size := ⟨_, rfl⟩
  rw [← hg] at hS3 hb5l hw12 ⊢
  have hg2 : w.heap.size + 2 ≤ g := by omega
  replace hP : PairsAt w3 b5 (edgesL f) := ⟨fun k h => RX.keep hb3 (hP.c0 k h), fun k h => RX.keep hb3 (hP.c1 k h), fun k h => (hb3.frozen (show b5 < w2.heap.size by rw [← hg]; exact hb5l (by omega))).trans (hP.f0 k h), fun k h => (hb3.frozen (show b5 < w2.heap.size by rw [← hg]; exact hb5l (by omega))).trans (hP.f1 k h)⟩
  clear hb3 hR1 hw12 hb5 hg
  clear w2
  clear w1
  go_wp2_with fail
  refine (total1_any 0 0 0 g _ hS3 (by omega) (by omega) (by omega) (by omega)).mono ?_
  rintro e w4 ⟨rfl, hS4, hg4⟩
  rw [show (0 : Int) + 0 * 0 = 0 by omega] at hS4
  rw [wv_zero']
  have hgl := hS3.lt
  replace hR := hR.grown hg4 (by omega)
  replace c1 := hg4.cell c1 (by simp; omega)
  replace c2 := hg4.cell c2 (by simp; omega)
  replace hP : PairsAt w4 b5 (edgesL f) := ⟨fun k h => hg4.cell (hP.c0 k h) (by have := hb5l (by omega); simp; omega), fun k h => hg4.cell (hP.c1 k h) (by have := hb5l (by omega); simp; omega), fun k h => (World.frozen?_of_block (hg4.block b5 (Nat.lt_trans (hb5l (by omega)) hgl) (by have := hb5l (by omega); simp; omega))).trans (hP.f0 k h), fun k h => (World.frozen?_of_block (hg4.block b5 (Nat.lt_trans (hb5l (by omega)) hgl) (by have := hb5l (by omega); simp; omega))).trans (hP.f1 k h)⟩
  replace hB := hB.grown hg4 hB.size (fun k hk => by injection hk with hk; omega)
  clear hS3 hg4 c0 hgl
  clear w3
  go_wp2
  have hb6 := (Below.refl w4.heap.size w4).alloc (Nat.le_refl _) (.cells #[.int .i64 0, .int .u64 0] 59)
  have hO5 := SumAt.new w4
  have hgo := hS4.lt
  have hs4 := hB.size
  replace hS4 := hS4.below hb6
  replace hR := hR.below hb6
  replace c1 := RX.keep hb6 c1
  replace c2 := RX.keep hb6 c2
  have HPD : Hid ((∀ k (h : k < (edgesL f).length), (w4.alloc (.cells #[.int .i64 0, .int .u64 0] 59)).cell? ⟨b5, k * 2, none⟩ = some (.int .i64 (edgesL f)[k].1)) ∧ ∀ k (h : k < (edgesL f).length), (w4.alloc (.cells #[.int .i64 0, .int .u64 0] 59)).cell? ⟨b5, k * 2 + 1, none⟩ = some (.int .i64 (edgesL f)[k].2)) :=
    Lib.hid ⟨fun k h => RX.keep hb6 (hP.c0 k h), fun k h => RX.keep hb6 (hP.c1 k h)⟩
  replace hB := hB.trans (hb6.mono hs4)
  obtain ⟨o, ho⟩ : ∃ o, o = w4.heap.size := ⟨_, rfl⟩
  rw [← ho] at hO5 hgo hs4 ⊢
  clear hb6 hP ho
  generalize (w4.alloc (.cells #[.int .i64 0, .int .u64 0] 59)) = W5 at *
  clear w4
  have HVW : Hid (VecAt W5 p zs) := Lib.hid (HZ.out.2.2.below hB)
  obtain ⟨D, hD⟩ : ∃ D, D = edgesL f := ⟨_, rfl⟩
  rw [← hD] at HPD HIR hDl hDin hb5l hk5 ⊢
  have HD := Lib.hid hD
  have HDin := Lib.hid hDin
  clear hD hDin
  have HC := Lib.hid (And.intro c1 c2)
  clear c1 c2
  go_loopw [38] (fun i wr => ∃ k : Nat, k ≤ n ∧ i = .int .i64 k ∧ SumAt wr g (a * dotL (zs.take k) (zs.take k)) ∧ SumAt wr o (a * dotL (zs.take k) (zs.take k)) ∧ SumAt wr (w.heap.size + 1) 0 ∧ Below w.heap.size w wr ∧ K2 W5 wr g o) (fun i _ => n - (intOf i).toNat)
  case atStart => exact ⟨0, by omega, rfl, by simpa [dotL] using hS4, by simpa [dotL] using hO5, hR, hB, K2.refl _ _ _⟩
  case round =>
    clear hS4 hO5 hR hB
    obtain ⟨k, hk, rfl, hSg, hSo, hSr, hB, hK⟩ := hrel
    by_cases hlt : k < n
    · have hdk : decide ((k : Int) < (n : Int)) = true := decide_eq_true (by omega)
      have hkz : k < zs.length := by rw [HZ.out.1]; exact hlt
      obtain ⟨bx, ox, rfl, hbx, hcx⟩ := HZ.out.2.2.cell (by omega)
      have xk := RX.keep hB (hcx k hkz)
      have q2 := hK.cell HC.out.2 (by omega) (by omega)
      have hxr := HZ.out.2.1 zs[k] (List.getElem_mem _)
      have HSt := Lib.hid (dot_step2 (a := a) hkz)
      obtain ⟨x, hx⟩ : ∃ x, x = zs[k] := ⟨_, rfl⟩
      rw [← hx] at xk hxr HSt
      have hmb := mul_bd (s := a) (d := x) (by omega) (by omega) (by omega) (by omega)
      obtain ⟨y, hy⟩ : ∃ y, a * x = y := ⟨_, rfl⟩
      rw [hy] at hmb HSt
      clear hcx hx
      go_wp2_with fail
      refine (total1_any y x _ g _ hSg (by omega) (by omega) (by omega) (by omega)).mono ?_
      rintro e w6 ⟨rfl, hS6, hg6⟩
      rw [HSt.out] at hS6 ⊢
      have hO6 := hSo.grown hg6 (by omega)
      have hR6 := hSr.grown hg6 (by omega)
      have hB6 : Below w.heap.size w w6 := hB.grown hg6 hB.size (fun k hk => by injection hk with hk; omega)
      have hK6 := hK.grown hg6 (.inl rfl)
      obtain ⟨C, E, hC, hE, hVal⟩ := wv_parts (a * dotL (zs.take (k + 1)) (zs.take (k + 1)))
      rw [hVal]
      have HO6 := Lib.hid hO6
      obtain ⟨y0, y1, z0, z1⟩ := hO6
      have HCE := Lib.hid (And.intro hC hE)
      have HX := Lib.hid (And.intro hS6 (And.intro hR6 (And.intro hB6 hK6)))
      clear hSg hSo hSr hB hK hC hE hVal hg6 hS6 hR6 hB6 hK6 xk q2 HSt
      go_wp2
      have HS1 : Hid (SumAt ((w6.setCell ⟨o, 0, none⟩ (.int .i64 C)).setCell ⟨o, 1, none⟩ (.int .u64 E)) o (a * dotL (zs.take (k + 1)) (zs.take (k + 1)))) := Lib.hid (sum_store HO6.out HCE.out.1 HCE.out.2)
      go_roundw
      case rel => exact ⟨k + 1, by omega, by go_num, HX.out.1.set2 (by omega), HS1.out, HX.out.2.1.set2 (by omega), (HX.out.2.2.1.setCell (by simp; omega) _).setCell (by simp; omega) _, HX.out.2.2.2.set.set⟩
      case measure => simp [intOf]; omega
    · obtain rfl : k = n := by omega
      have hdk : decide ((k : Int) < (k : Int)) = false := decide_eq_false (by omega)
      have e1 : a * dotL (zs.take k) (zs.take k) = a * dotL zs zs + s * qf zs zs (D.take 0) := by rw [← HZ.out.1, List.take_length]; simp [qf]
      rw [e1] at hSg hSo
      clear e1
      go_wp2
      go_loopw [52] (fun i wr => ∃ j : Nat, j ≤ D.length ∧ i = .int .i64 j ∧ SumAt wr g (a * dotL zs zs + s * qf zs zs (D.take j)) ∧ SumAt wr o (a * dotL zs zs + s * qf zs zs (D.take j)) ∧ SumAt wr (w.heap.size + 1) 0 ∧ Below w.heap.size w wr ∧ K2 W5 wr g o) (fun i _ => D.length - (intOf i).toNat)
      case atStart => exact ⟨0, by omega, rfl, hSg, hSo, hSr, hB, hK⟩
      case round =>
        clear hSg hSo hSr hB hK
        obtain ⟨j, hj, rfl, hSg, hSo, hSr, hB, hK⟩ := hrel
        by_cases hlt : j < D.length
        · have hdk : decide ((j : Int) < (D.length : Int)) = true := decide_eq_true (by omega)
          have hb5g := hb5l (by omega)
          have x0 := hK.cell (HPD.out.1 j hlt) (by omega) (by omega)
          have x1 := hK.cell (HPD.out.2 j hlt) (by omega) (by omega)
          obtain ⟨c, hc⟩ : ∃ c, c = D[j] := ⟨_, rfl⟩
          obtain ⟨g1, _, g3, _⟩ := HDin.out D[j] (List.getElem_mem _)
          obtain ⟨r1, r2⟩ := HIR.out D[j] (List.getElem_mem _)
          have HQ : Hid (∀ d, d = zs.getD D[j].1.toNat 0 - zs.getD D[j].2.toNat 0 → a * dotL zs zs + s * qf zs zs (D.take j) + s * d * d = a * dotL zs zs + s * qf zs zs (D.take (j + 1))) := Lib.hid (fun d hd => qf_step2 hlt hd)
          rw [← hc] at x0 x1 g1 g3 r1 r2 HQ
          obtain ⟨cA, cB'⟩ := c
          dsimp only at x0 x1 g1 g3 r1 r2 HQ
          obtain ⟨ia, rfl⟩ : ∃ ia : Nat, cA = (ia : Int) := ⟨cA.toNat, by omega⟩
          obtain ⟨ib, rfl⟩ : ∃ ib : Nat, cB' = (ib : Int) := ⟨cB'.toNat, by omega⟩
          simp only [Int.toNat_natCast] at r1 r2 HQ
          have hian : ia < k := by rw [← HZ.out.1]; exact r1
          have hibn : ib < k := by rw [← HZ.out.1]; exact r2
          obtain ⟨bx, ox, rfl, hbx, hcx⟩ := HZ.out.2.2.cell (by omega)
          have xa := RX.keep hB (hcx ia r1)
          have xb := RX.keep hB (hcx ib r2)
          have q1 := hK.cell HC.out.1 (by omega) (by omega)
          have hza := HZ.out.2.1 zs[ia] (List.getElem_mem _)
          have hzb := HZ.out.2.1 zs[ib] (List.getElem_mem _)
          have ea : zs.getD ia 0 = zs[ia] := by simp [List.getD, List.getElem?_eq_getElem r1]
          have eb : zs.getD ib 0 = zs[ib] := by simp [List.getD, List.getElem?_eq_getElem r2]
          rw [ea, eb] at HQ
          clear ea eb
          generalize zs[ia] = za at *
          generalize zs[ib] = zb at *
          have hmb := mul_bd (s := s) (d := za - zb) (by omega) (by omega) (by omega) (by omega)
          have HSt := Lib.hid (HQ.out _ rfl)
          obtain ⟨d, hd⟩ : ∃ d, za - zb = d := ⟨_, rfl⟩
          rw [hd] at hmb HSt
          have hdb : -2097152 ≤ d ∧ d ≤ 2097152 := by omega
          obtain ⟨y, hy⟩ : ∃ y, s * d = y := ⟨_, rfl⟩
          rw [hy] at hmb HSt
          have hwl := hSg.lt
          have hBs := hB.size
          have l1 : bx < wr.heap.size := by omega
          have l2 : w.heap.size < wr.heap.size := by omega
          have l4 : ¬ (bx = wr.heap.size) := by omega
          have l5 : ¬ (w.heap.size = wr.heap.size) := by omega
          have HBf := Lib.hid (And.intro hSg (And.intro hSo (And.intro hSr (And.intro hB hK))))
          clear hcx hc g1 g3 r1 r2 HQ hSg hSo hSr hB hK
          go_wp2
          refine RX.region RX.fN (fun w' => w' = _) (by kernel_rfl) (by kernel_rfl) rfl (fun OPS HO QR hQR => ?_)
          repeat
            refine RX.step (fun R hR => ?_)
            first
            | (refine RX.one_skip (by first | rfl | (rw [HO.out]; rfl)) (by simp only [RX.put_some, RX.put_none, List.set_cons_zero, List.set_cons_succ]; rfl) ?_
               refine hR _ _ ?_; clear hR R)
            | (refine RX.one_move (by first | rfl | (rw [HO.out]; rfl)) rfl (by first | exact Or.inl rfl | exact Or.inr rfl) (by simp only [RX.eval_tmp, RX.eval_const, List.getD_cons_zero, List.getD_cons_succ]; rfl) (by simp only [RX.put_some, RX.put_none, List.set_cons_zero, List.set_cons_succ]; rfl) ?_
               refine hR _ _ ?_; clear hR R)
            | (refine RX.one_nil (by first | rfl | (rw [HO.out]; rfl)) rfl rfl (by simp only [RX.eval_tmp, RX.eval_const, List.getD_cons_zero, List.getD_cons_succ]; rfl) (by simp only [RX.put_some, RX.put_none, List.set_cons_zero, List.set_cons_succ]; rfl) ?_
               refine hR _ _ ?_; clear hR R)
            | (refine RX.one_float (by first | rfl | (rw [HO.out]; rfl)) rfl rfl rfl ?_
               apply Exists.intro; apply Exists.intro
               refine ⟨fun w' hS K hK => ?_, ?_, ?_⟩
               · subst hS; go_wp2; exact hK _ _ (by simp only [RX.arr_getD, List.getD_cons_zero, List.getD_cons_succ]; first | exact RX.dec_t (by omega) | exact RX.dec_f (by omega) | exact RX.beq_t (by omega) | exact RX.beq_f (by omega) | exact RX.bne_t (by omega) | exact RX.bne_f (by omega) | exact RX.bneB _ | rfl) rfl
               · simp only [RX.put_some, RX.put_none, List.set_cons_zero, List.set_cons_succ]; rfl
               refine hR _ _ ?_; clear hR R)
          refine RX.wpL_nil (hQR _ _ rfl ?_); clear hQR QR HO OPS
          go_wp2_with fail
          obtain ⟨hSg, hSo, hSr, hB, hK⟩ := HBf.out
          have hb6 := (Below.refl wr.heap.size wr).alloc (Nat.le_refl _) (.cells #[.int .i64 ia, .int .i64 ib] 39)
          replace hSg := (hSg.below hb6).drew
          replace hSo := (hSo.below hb6).drew
          replace hSr := (hSr.below hb6).drew
          replace hB := (hB.trans (hb6.mono hB.size)).drew
          replace hK : K2 W5 (wr.alloc (.cells #[.int .i64 ia, .int .i64 ib] 39)).drew g o := hK.below hb6.drew
          replace q1 : (wr.alloc (.cells #[.int .i64 ia, .int .i64 ib] 39)).drew.cell? ⟨w.heap.size, 1, none⟩ = some (.int .i64 s) := RX.keep hb6.drew q1
          clear hb6 x0 x1 xa xb HBf l4 l5
          generalize (wr.alloc (.cells #[.int .i64 ia, .int .i64 ib] 39)).drew = W6 at *
          refine (total1_any y d _ g _ hSg (by omega) (by omega) (by omega) (by omega)).mono ?_
          rintro e w7 ⟨rfl, hS6, hg6⟩
          rw [HSt.out] at hS6 ⊢
          have hO6 := hSo.grown hg6 (by omega)
          have hR6 := hSr.grown hg6 (by omega)
          have hB6 : Below w.heap.size w w7 := hB.grown hg6 hB.size (fun k hk => by injection hk with hk; omega)
          have hK6 := hK.grown hg6 (.inl rfl)
          obtain ⟨C, E, hC, hE, hVal⟩ := wv_parts (a * dotL zs zs + s * qf zs zs (D.take (j + 1)))
          rw [hVal]
          have HO6 := Lib.hid hO6
          obtain ⟨y0, y1, z0, z1⟩ := hO6
          have HCE := Lib.hid (And.intro hC hE)
          have HX := Lib.hid (And.intro hS6 (And.intro hR6 (And.intro hB6 hK6)))
          clear hSg hSo hSr hB hK hC hE hVal hg6 hS6 hR6 hB6 hK6 q1 HSt
          go_wp2
          have HS1 : Hid (SumAt ((w7.setCell ⟨o, 0, none⟩ (.int .i64 C)).setCell ⟨o, 1, none⟩ (.int .u64 E)) o (a * dotL zs zs + s * qf zs zs (D.take (j + 1)))) := Lib.hid (sum_store HO6.out HCE.out.1 HCE.out.2)
          go_roundw
          case rel => exact ⟨j + 1, by omega, by go_num, HX.out.1.set2 (by omega), HS1.out, HX.out.2.1.set2 (by omega), (HX.out.2.2.1.setCell (by simp; omega) _).setCell (by simp; omega) _, HX.out.2.2.2.set.set⟩
          case measure => simp [intOf]; omega
        · obtain rfl : j = D.length := by omega
          have hdk : decide ((D.length : Int) < (D.length : Int)) = false := decide_eq_false (by omega)
          have e1 : a * dotL zs zs + s * qf zs zs (D.take D.length) = energyL s a zs D := by rw [List.take_length]; rfl
          rw [e1] at hSg hSo
          clear e1 hSg
          obtain ⟨C, E, hC, hE, hVal⟩ := wv_parts (energyL s a zs D)
          obtain ⟨y0, y1, _, _⟩ := hSo
          rw [← hC] at y0
          rw [← hE] at y1
          have HR := Lib.hid hSr
          obtain ⟨x0, x1, z0, z1⟩ := hSr
          have hoR : ¬ o = w.heap.size + 1 := by omega
          have HCE := Lib.hid (And.intro hC hE)
          have HV := Lib.hid hVal
          clear hC hE hVal
          go_wp2
          refine bodyPost_ret (v := .tuple #[.agg #[.int .i64 C, .int .u64 E], .int .i64 0]) ?_ rfl ⟨by rw [← HD.out, HV.out], (hB.setCell (by simp) _).setCell (by simp) _⟩
          obtain ⟨q0, q1, _, _⟩ := sum_store HR.out HCE.out.1 HCE.out.2
          rw [← HCE.out.1] at q0
          rw [← HCE.out.2] at q1
          generalize ((wr.setCell ⟨w.heap.size + 1, 0, none⟩ (.int .i64 C)).setCell ⟨w.heap.size + 1, 1, none⟩ (.int .u64 E)) = W at q0 q1 ⊢
          simp [results, Tryz.results28, go_sem, q0, q1]
end Go.Proofs.YtlfhildbjipheaaGreatDoor
