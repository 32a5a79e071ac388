import Derived.Test.YtblgchhmcifdgaaGreatDoorLinQ
import Derived.Test.YtblgchhmcifdgaaGreatDoorKTerms
import Derived.Test.YtblgchhmcifdgaaGreatDoorRing
import Derived.Test.YtblgchhmcifdgaaGreatDoorKCSys
import Derived.Test.YtblgchhmcifdgaaGreatDoorKLaw23
set_option linter.unusedSimpArgs false
set_option linter.unusedVariables false
namespace Go.Proofs.YtblgchhmcifdgaaGreatDoor
open Go.RowKit Go.Grid Go.Maps Go.Sort Go.Shelf

/-- Of the old blocks two may have turned. -/
def K2 (W wr : World) (g o : Nat) : Prop := W.heap.size ≤ wr.heap.size ∧ ∀ j, j < W.heap.size → j ≠ g → j ≠ o → wr.heap[j]? = W.heap[j]?
theorem K2.refl (W : World) (g o : Nat) : K2 W W g o := ⟨Nat.le_refl _, fun _ _ _ _ => rfl⟩
theorem K2.cell {W wr : World} {g o b k : Nat} {v : Value} (h : K2 W wr g o) (hc : W.cell? ⟨b, k, none⟩ = some v) (h1 : b ≠ g) (h2 : b ≠ o) : wr.cell? ⟨b, k, none⟩ = some v :=
  (World.cell?_of_block (h.2 b (World.block_lt_of_cell? _ _ hc) h1 h2)).trans hc
theorem K2.grown {W wr w' : World} {g o k : Nat} (h : K2 W wr g o) (hg : wr.grownBy w' (some k)) (hk : k = g ∨ k = o) : K2 W w' g o :=
  ⟨Nat.le_trans h.1 hg.size, fun j hj h1 h2 => (hg.block j (Nat.lt_of_lt_of_le hj h.1) (fun e => by injection e with e; rcases hk with hk | hk <;> omega)).trans (h.2 j hj h1 h2)⟩
theorem K2.set {W wr : World} {g o i : Nat} {v : Value} (h : K2 W wr g o) : K2 W (wr.setCell ⟨o, i, none⟩ v) g o :=
  ⟨by simpa [World.setCell] using h.1, fun j hj h1 h2 => (Below.heap_setCell _ _ _ j h2).trans (h.2 j hj h1 h2)⟩
theorem K2.below {W wr w' : World} {g o : Nat} (h : K2 W wr g o) (hb : Below wr.heap.size wr w') : K2 W w' g o :=
  ⟨Nat.le_trans h.1 hb.size, fun j hj h1 h2 => (hb.block j (Nat.lt_of_lt_of_le hj h.1)).trans (h.2 j hj h1 h2)⟩
theorem dot_step2 {a : Int} {zs : List Int} {k : Nat} (hk : k < zs.length) : a * dotL (zs.take k) (zs.take k) + a * zs[k] * zs[k] = a * dotL (zs.take (k + 1)) (zs.take (k + 1)) := by
  rw [dotL_take rfl hk, Int.mul_add, Int.mul_assoc]
theorem qf_step2 {s c : Int} {zs : List Int} {D : List I2} {k : Nat} (hk : k < D.length) {d : Int} (hd : d = zs.getD D[k].1.toNat 0 - zs.getD D[k].2.toNat 0) : c + s * qf zs zs (D.take k) + s * d * d = c + s * qf zs zs (D.take (k + 1)) := by
  rw [qf_take hk, ← hd, Int.mul_add, Int.mul_assoc]; omega

set_option maxRecDepth 100000 in
set_option maxHeartbeats 3000000 in
theorem energy_at (f : Nat) (s a : Int) (p : Option Addr) (zs : List Int) (cap n : Nat) (w : World) (hn : zs.length = n) (hT : HasTab w) (hV : VecAt w p zs) (hok : VecOk f s a zs) :
    Calls Tryz.prog 53 #[prv f s a, .slice p n cap] w fun e w' => e = .returned (.tuple #[wv (energyL s a zs (edgesL f)), .int .i64 0]) ∧ Below w.heap.size w w' := by
  have hpv : Hid (prv f s a = .agg #[.int .i64 f, .int .i64 s, .int .i64 a]) := Lib.hid rfl
  have hE : vecErr f s a zs = 0 := if_pos hok
  obtain ⟨⟨hf1, hf8, hs0, hs1, ha0, ha1⟩, hlen, hsm⟩ := hok
  have hl : n ≤ 1000 ∧ 12 ≤ n := by
    have h1 : 0 ≤ 10 * (f : Int) * f := Int.mul_nonneg (by omega) (by omega)
    have h2 := Int.mul_le_mul (show 10 * (f : Int) ≤ 80 by omega) hf8 (by omega) (by omega)
    have h3 := Int.mul_le_mul (show 10 ≤ 10 * (f : Int) by omega) hf1 (by omega) (by omega)
    omega
  have HIR := Lib.hid (edges_InR (f := f) (by omega) (by omega) hlen)
  have hDl := edges_len (n := f) (by omega)
  have hDin := edges_in (n := f) (by omega) (by omega)
  have HZ := Lib.hid (And.intro hn (And.intro hsm hV))
  rw [hpv.out]
  clear hlen
  go_enter Tryz.func53, Tryz.ntmps53
  go_wp2_with fail
  have hB : Below w.heap.size w ((w.alloc (.cells #[.int .i64 f, .int .i64 s, .int .i64 a] 23)).alloc (.cells #[.int .i64 0, .int .u64 0] 49)) := (by repeat (first | (with_reducible assumption) | (with_reducible exact Below.refl _ _) | (with_reducible refine Below.setCell ?_ (by first | omega | (simp; done) | (simp; omega)) _) | (with_reducible refine Below.alloc ?_ (by first | omega | (simp; done) | (simp; omega)) _) | (with_reducible apply Below.drew) | assumption))
  have c0 : ((w.alloc (.cells #[.int .i64 f, .int .i64 s, .int .i64 a] 23)).alloc (.cells #[.int .i64 0, .int .u64 0] 49)).cell? ⟨w.heap.size, 0, none⟩ = some (.int .i64 f) := (by simp [RX.cell_drew, RX.cell_alloc, Nat.add_assoc])
  have c1 : ((w.alloc (.cells #[.int .i64 f, .int .i64 s, .int .i64 a] 23)).alloc (.cells #[.int .i64 0, .int .u64 0] 49)).cell? ⟨w.heap.size, 1, none⟩ = some (.int .i64 s) := (by simp [RX.cell_drew, RX.cell_alloc, Nat.add_assoc])
  have c2 : ((w.alloc (.cells #[.int .i64 f, .int .i64 s, .int .i64 a] 23)).alloc (.cells #[.int .i64 0, .int .u64 0] 49)).cell? ⟨w.heap.size, 2, none⟩ = some (.int .i64 a) := (by simp [RX.cell_drew, RX.cell_alloc, Nat.add_assoc])
  have hR := SumAt.new (w.alloc (.cells #[.int .i64 f, .int .i64 s, .int .i64 a] 23))
  rw [show (w.alloc (.cells #[.int .i64 f, .int .i64 s, .int .i64 a] 23)).heap.size = w.heap.size + 1 by simp] at hR
  generalize ((w.alloc (.cells #[.int .i64 f, .int .i64 s, .int .i64 a] 23)).alloc (.cells #[.int .i64 0, .int .u64 0] 49)) = W0 at *
  have hvec := vector_any f s a p zs cap W0 (HZ.out.2.2.below hB) (by rw [HZ.out.1]; omega)
  rw [HZ.out.1] at hvec
  refine hvec.mono ?_
  rintro e w1 ⟨rfl, hb1⟩
  clear hvec hn hsm hV
  rw [hE]
  replace hR := hR.below hb1
  replace c0 := RX.keep hb1 c0
  replace c1 := RX.keep hb1 c1
  replace c2 := RX.keep hb1 c2
  replace hB := hB.trans (hb1.mono hB.size)
  clear hb1 hE
  clear W0
  go_wp2_with fail
  refine (edges_any f (by omega) (by omega) w1 (hT.below hB)).mono ?_
  rintro e w2 ⟨b5, k5, rfl, hk5, hP, hb5, hb2⟩
  have hR1 := hR.lt
  have hb5l : 0 < (edgesL f).length → b5 < w2.heap.size := fun h => World.block_lt_of_cell? _ _ (hP.c0 0 h)
  have hw12 := hb2.size
  replace hR := hR.below hb2
  replace c0 := RX.keep hb2 c0
  replace c1 := RX.keep hb2 c1
  replace c2 := RX.keep hb2 c2
  replace hB := hB.trans (hb2.mono hB.size)
  clear hb2 hT
  go_wp2_with fail
  refine (total_any _).mono ?_
  rintro e w3 ⟨rfl, hS3, hb3⟩
  replace hR := hR.below hb3
  replace c0 := RX.keep hb3 c0
  replace c1 := RX.keep hb3 c1
  replace c2 := RX.keep hb3 c2
  replace hB := hB.trans (hb3.mono hB.size)
  obtain ⟨g, hg⟩ : ∃ g, g = w2.heap.size := ⟨_, rfl⟩
  rw [← hg] at hS3 hb5l hw12 ⊢
  have hg2 : w.heap.size + 2 ≤ g := by omega
  replace hP : PairsAt w3 b5 (edgesL f) := ⟨fun k h => RX.keep hb3 (hP.c0 k h), fun k h => RX.keep hb3 (hP.c1 k h), fun k h => (hb3.frozen (show b5 < w2.heap.size by rw [← hg]; exact hb5l (by omega))).trans (hP.f0 k h), fun k h => (hb3.frozen (show b5 < w2.heap.size by rw [← hg]; exact hb5l (by omega))).trans (hP.f1 k h)⟩
  clear hb3 hR1 hw12 hb5 hg
  clear w2
  clear w1
  go_wp2_with fail
  refine (total1_any 0 0 0 g _ hS3 (by omega) (by omega) (by omega) (by omega)).mono ?_
  rintro e w4 ⟨rfl, hS4, hg4⟩
  rw [show (0 : Int) + 0 * 0 = 0 by omega] at hS4
  rw [wv_zero']
  have hgl := hS3.lt
  replace hR := hR.grown hg4 (by omega)
  replace c1 := hg4.cell c1 (by simp; omega)
  replace c2 := hg4.cell c2 (by simp; omega)
  replace hP : PairsAt w4 b5 (edgesL f) := ⟨fun k h => hg4.cell (hP.c0 k h) (by have := hb5l (by omega); simp; omega), fun k h => hg4.cell (hP.c1 k h) (by have := hb5l (by omega); simp; omega), fun k h => (World.frozen?_of_block (hg4.block b5 (Nat.lt_trans (hb5l (by omega)) hgl) (by have := hb5l (by omega); simp; omega))).trans (hP.f0 k h), fun k h => (World.frozen?_of_block (hg4.block b5 (Nat.lt_trans (hb5l (by omega)) hgl) (by have := hb5l (by omega); simp; omega))).trans (hP.f1 k h)⟩
  replace hB := hB.grown hg4 hB.size (fun k hk => by injection hk with hk; omega)
  clear hS3 hg4 c0 hgl
  clear w3
  go_wp2
  have hb6 := (Below.refl w4.heap.size w4).alloc (Nat.le_refl _) (.cells #[.int .i64 0, .int .u64 0] 49)
  have hO5 := SumAt.new w4
  have hgo := hS4.lt
  have hs4 := hB.size
  replace hS4 := hS4.below hb6
  replace hR := hR.below hb6
  replace c1 := RX.keep hb6 c1
  replace c2 := RX.keep hb6 c2
  have HPD : Hid ((∀ k (h : k < (edgesL f).length), (w4.alloc (.cells #[.int .i64 0, .int .u64 0] 49)).cell? ⟨b5, k * 2, none⟩ = some (.int .i64 (edgesL f)[k].1)) ∧ ∀ k (h : k < (edgesL f).length), (w4.alloc (.cells #[.int .i64 0, .int .u64 0] 49)).cell? ⟨b5, k * 2 + 1, none⟩ = some (.int .i64 (edgesL f)[k].2)) :=
    Lib.hid ⟨fun k h => RX.keep hb6 (hP.c0 k h), fun k h => RX.keep hb6 (hP.c1 k h)⟩
  replace hB := hB.trans (hb6.mono hs4)
  obtain ⟨o, ho⟩ : ∃ o, o = w4.heap.size := ⟨_, rfl⟩
  rw [← ho] at hO5 hgo hs4 ⊢
  clear hb6 hP ho
  generalize (w4.alloc (.cells #[.int .i64 0, .int .u64 0] 49)) = W5 at *
  clear w4
  have HVW : Hid (VecAt W5 p zs) := Lib.hid (HZ.out.2.2.below hB)
  obtain ⟨D, hD⟩ : ∃ D, D = edgesL f := ⟨_, rfl⟩
  rw [← hD] at HPD HIR hDl hDin hb5l hk5 ⊢
  have HD := Lib.hid hD
  have HDin := Lib.hid hDin
  clear hD hDin
  have HC := Lib.hid (And.intro c1 c2)
  clear c1 c2
  go_loopw [38] (fun i wr => ∃ k : Nat, k ≤ n ∧ i = .int .i64 k ∧ SumAt wr g (a * dotL (zs.take k) (zs.take k)) ∧ SumAt wr o (a * dotL (zs.take k) (zs.take k)) ∧ SumAt wr (w.heap.size + 1) 0 ∧ Below w.heap.size w wr ∧ K2 W5 wr g o) (fun i _ => n - (intOf i).toNat)
  case atStart => exact ⟨0, by omega, rfl, by simpa [dotL] using hS4, by simpa [dotL] using hO5, hR, hB, K2.refl _ _ _⟩
  case round =>
    clear hS4 hO5 hR hB
    obtain ⟨k, hk, rfl, hSg, hSo, hSr, hB, hK⟩ := hrel
    by_cases hlt : k < n
    · have hdk : decide ((k : Int) < (n : Int)) = true := decide_eq_true (by omega)
      have hkz : k < zs.length := by rw [HZ.out.1]; exact hlt
      obtain ⟨bx, ox, rfl, hbx, hcx⟩ := HZ.out.2.2.cell (by omega)
      have xk := RX.keep hB (hcx k hkz)
      have q2 := hK.cell HC.out.2 (by omega) (by omega)
      have hxr := HZ.out.2.1 zs[k] (List.getElem_mem _)
      have HSt := Lib.hid (dot_step2 (a := a) hkz)
      obtain ⟨x, hx⟩ : ∃ x, x = zs[k] := ⟨_, rfl⟩
      rw [← hx] at xk hxr HSt
      have hmb := mul_bd (s := a) (d := x) (by omega) (by omega) (by omega) (by omega)
      obtain ⟨y, hy⟩ : ∃ y, a * x = y := ⟨_, rfl⟩
      rw [hy] at hmb HSt
      clear hcx hx
      go_wp2_with fail
      refine (total1_any y x _ g _ hSg (by omega) (by omega) (by omega) (by omega)).mono ?_
      rintro e w6 ⟨rfl, hS6, hg6⟩
      rw [HSt.out] at hS6 ⊢
      have hO6 := hSo.grown hg6 (by omega)
      have hR6 := hSr.grown hg6 (by omega)
      have hB6 : Below w.heap.size w w6 := hB.grown hg6 hB.size (fun k hk => by injection hk with hk; omega)
      have hK6 := hK.grown hg6 (.inl rfl)
      obtain ⟨C, E, hC, hE, hVal⟩ := wv_parts (a * dotL (zs.take (k + 1)) (zs.take (k + 1)))
      rw [hVal]
      have HO6 := Lib.hid hO6
      obtain ⟨y0, y1, z0, z1⟩ := hO6
      have HCE := Lib.hid (And.intro hC hE)
      have HX := Lib.hid (And.intro hS6 (And.intro hR6 (And.intro hB6 hK6)))
      clear hSg hSo hSr hB hK hC hE hVal hg6 hS6 hR6 hB6 hK6 xk q2 HSt
      go_wp2
      have HS1 : Hid (SumAt ((w6.setCell ⟨o, 0, none⟩ (.int .i64 C)).setCell ⟨o, 1, none⟩ (.int .u64 E)) o (a * dotL (zs.take (k + 1)) (zs.take (k + 1)))) := Lib.hid (sum_store HO6.out HCE.out.1 HCE.out.2)
      go_roundw
      case rel => exact ⟨k + 1, by omega, by go_num, HX.out.1.set2 (by omega), HS1.out, HX.out.2.1.set2 (by omega), (HX.out.2.2.1.setCell (by simp; omega) _).setCell (by simp; omega) _, HX.out.2.2.2.set.set⟩
      case measure => simp [intOf]; omega
    · obtain rfl : k = n := by omega
      have hdk : decide ((k : Int) < (k : Int)) = false := decide_eq_false (by omega)
      have e1 : a * dotL (zs.take k) (zs.take k) = a * dotL zs zs + s * qf zs zs (D.take 0) := by rw [← HZ.out.1, List.take_length]; simp [qf]
      rw [e1] at hSg hSo
      clear e1
      go_wp2
      go_loopw [52] (fun i wr => ∃ j : Nat, j ≤ D.length ∧ i = .int .i64 j ∧ SumAt wr g (a * dotL zs zs + s * qf zs zs (D.take j)) ∧ SumAt wr o (a * dotL zs zs + s * qf zs zs (D.take j)) ∧ SumAt wr (w.heap.size + 1) 0 ∧ Below w.heap.size w wr ∧ K2 W5 wr g o) (fun i _ => D.length - (intOf i).toNat)
      case atStart => exact ⟨0, by omega, rfl, hSg, hSo, hSr, hB, hK⟩
      case round =>
        clear hSg hSo hSr hB hK
        obtain ⟨j, hj, rfl, hSg, hSo, hSr, hB, hK⟩ := hrel
        by_cases hlt : j < D.length
        · have hdk : decide ((j : Int) < (D.length : Int)) = true := decide_eq_true (by omega)
          have hb5g := hb5l (by omega)
          have x0 := hK.cell (HPD.out.1 j hlt) (by omega) (by omega)
          have x1 := hK.cell (HPD.out.2 j hlt) (by omega) (by omega)
          obtain ⟨c, hc⟩ : ∃ c, c = D[j] := ⟨_, rfl⟩
          obtain ⟨g1, _, g3, _⟩ := HDin.out D[j] (List.getElem_mem _)
          obtain ⟨r1, r2⟩ := HIR.out D[j] (List.getElem_mem _)
          have HQ : Hid (∀ d, d = zs.getD D[j].1.toNat 0 - zs.getD D[j].2.toNat 0 → a * dotL zs zs + s * qf zs zs (D.take j) + s * d * d = a * dotL zs zs + s * qf zs zs (D.take (j + 1))) := Lib.hid (fun d hd => qf_step2 hlt hd)
          rw [← hc] at x0 x1 g1 g3 r1 r2 HQ
          obtain ⟨cA, cB'⟩ := c
          dsimp only at x0 x1 g1 g3 r1 r2 HQ
          obtain ⟨ia, rfl⟩ : ∃ ia : Nat, cA = (ia : Int) := ⟨cA.toNat, by omega⟩
          obtain ⟨ib, rfl⟩ : ∃ ib : Nat, cB' = (ib : Int) := ⟨cB'.toNat, by omega⟩
          simp only [Int.toNat_natCast] at r1 r2 HQ
          have hian : ia < k := by rw [← HZ.out.1]; exact r1
          have hibn : ib < k := by rw [← HZ.out.1]; exact r2
          obtain ⟨bx, ox, rfl, hbx, hcx⟩ := HZ.out.2.2.cell (by omega)
          have xa := RX.keep hB (hcx ia r1)
          have xb := RX.keep hB (hcx ib r2)
          have q1 := hK.cell HC.out.1 (by omega) (by omega)
          have hza := HZ.out.2.1 zs[ia] (List.getElem_mem _)
          have hzb := HZ.out.2.1 zs[ib] (List.getElem_mem _)
          have ea : zs.getD ia 0 = zs[ia] := by simp [List.getD, List.getElem?_eq_getElem r1]
          have eb : zs.getD ib 0 = zs[ib] := by simp [List.getD, List.getElem?_eq_getElem r2]
          rw [ea, eb] at HQ
          clear ea eb
          generalize zs[ia] = za at *
          generalize zs[ib] = zb at *
          have hmb := mul_bd (s := s) (d := za - zb) (by omega) (by omega) (by omega) (by omega)
          have HSt := Lib.hid (HQ.out _ rfl)
          obtain ⟨d, hd⟩ : ∃ d, za - zb = d := ⟨_, rfl⟩
          rw [hd] at hmb HSt
          have hdb : -2097152 ≤ d ∧ d ≤ 2097152 := by omega
          obtain ⟨y, hy⟩ : ∃ y, s * d = y := ⟨_, rfl⟩
          rw [hy] at hmb HSt
          have hwl := hSg.lt
          have hBs := hB.size
          have l1 : bx < wr.heap.size := by omega
          have l2 : w.heap.size < wr.heap.size := by omega
          have l4 : ¬ (bx = wr.heap.size) := by omega
          have l5 : ¬ (w.heap.size = wr.heap.size) := by omega
          have HBf := Lib.hid (And.intro hSg (And.intro hSo (And.intro hSr (And.intro hB hK))))
          clear hcx hc g1 g3 r1 r2 HQ hSg hSo hSr hB hK
          go_wp2
          refine RX.region RX.fN (fun w' => w' = _) (by kernel_rfl) (by kernel_rfl) rfl (fun OPS HO QR hQR => ?_)
          repeat
            refine RX.step (fun R hR => ?_)
            first
            | (refine RX.one_skip (by first | rfl | (rw [HO.out]; rfl)) (by simp only [RX.put_some, RX.put_none, List.set_cons_zero, List.set_cons_succ]; rfl) ?_
               refine hR _ _ ?_; clear hR R)
            | (refine RX.one_move (by first | rfl | (rw [HO.out]; rfl)) rfl (by first | exact Or.inl rfl | exact Or.inr rfl) (by simp only [RX.eval_tmp, RX.eval_const, List.getD_cons_zero, List.getD_cons_succ]; rfl) (by simp only [RX.put_some, RX.put_none, List.set_cons_zero, List.set_cons_succ]; rfl) ?_
               refine hR _ _ ?_; clear hR R)
            | (refine RX.one_nil (by first | rfl | (rw [HO.out]; rfl)) rfl rfl (by simp only [RX.eval_tmp, RX.eval_const, List.getD_cons_zero, List.getD_cons_succ]; rfl) (by simp only [RX.put_some, RX.put_none, List.set_cons_zero, List.set_cons_succ]; rfl) ?_
               refine hR _ _ ?_; clear hR R)
            | (refine RX.one_float (by first | rfl | (rw [HO.out]; rfl)) rfl rfl rfl ?_
               apply Exists.intro; apply Exists.intro
               refine ⟨fun w' hS K hK => ?_, ?_, ?_⟩
               · subst hS; go_wp2; exact hK _ _ (by simp only [RX.arr_getD, List.getD_cons_zero, List.getD_cons_succ]; first | exact RX.dec_t (by omega) | exact RX.dec_f (by omega) | exact RX.beq_t (by omega) | exact RX.beq_f (by omega) | exact RX.bne_t (by omega) | exact RX.bne_f (by omega) | exact RX.bneB _ | rfl) rfl
               · simp only [RX.put_some, RX.put_none, List.set_cons_zero, List.set_cons_succ]; rfl
               refine hR _ _ ?_; clear hR R)
          refine RX.wpL_nil (hQR _ _ rfl ?_); clear hQR QR HO OPS
          go_wp2_with fail
          obtain ⟨hSg, hSo, hSr, hB, hK⟩ := HBf.out
          have hb6 := (Below.refl wr.heap.size wr).alloc (Nat.le_refl _) (.cells #[.int .i64 ia, .int .i64 ib] 92)
          replace hSg := (hSg.below hb6).drew
          replace hSo := (hSo.below hb6).drew
          replace hSr := (hSr.below hb6).drew
          replace hB := (hB.trans (hb6.mono hB.size)).drew
          replace hK : K2 W5 (wr.alloc (.cells #[.int .i64 ia, .int .i64 ib] 92)).drew g o := hK.below hb6.drew
          replace q1 : (wr.alloc (.cells #[.int .i64 ia, .int .i64 ib] 92)).drew.cell? ⟨w.heap.size, 1, none⟩ = some (.int .i64 s) := RX.keep hb6.drew q1
          clear hb6 x0 x1 xa xb HBf l4 l5
          generalize (wr.alloc (.cells #[.int .i64 ia, .int .i64 ib] 92)).drew = W6 at *
          refine (total1_any y d _ g _ hSg (by omega) (by omega) (by omega) (by omega)).mono ?_
          rintro e w7 ⟨rfl, hS6, hg6⟩
          rw [HSt.out] at hS6 ⊢
          have hO6 := hSo.grown hg6 (by omega)
          have hR6 := hSr.grown hg6 (by omega)
          have hB6 : Below w.heap.size w w7 := hB.grown hg6 hB.size (fun k hk => by injection hk with hk; omega)
          have hK6 := hK.grown hg6 (.inl rfl)
          obtain ⟨C, E, hC, hE, hVal⟩ := wv_parts (a * dotL zs zs + s * qf zs zs (D.take (j + 1)))
          rw [hVal]
          have HO6 := Lib.hid hO6
          obtain ⟨y0, y1, z0, z1⟩ := hO6
          have HCE := Lib.hid (And.intro hC hE)
          have HX := Lib.hid (And.intro hS6 (And.intro hR6 (And.intro hB6 hK6)))
          clear hSg hSo hSr hB hK hC hE hVal hg6 hS6 hR6 hB6 hK6 q1 HSt
          go_wp2
          have HS1 : Hid (SumAt ((w7.setCell ⟨o, 0, none⟩ (.int .i64 C)).setCell ⟨o, 1, none⟩ (.int .u64 E)) o (a * dotL zs zs + s * qf zs zs (D.take (j + 1)))) := Lib.hid (sum_store HO6.out HCE.out.1 HCE.out.2)
          go_roundw
          case rel => exact ⟨j + 1, by omega, by go_num, HX.out.1.set2 (by omega), HS1.out, HX.out.2.1.set2 (by omega), (HX.out.2.2.1.setCell (by simp; omega) _).setCell (by simp; omega) _, HX.out.2.2.2.set.set⟩
          case measure => simp [intOf]; omega
        · obtain rfl : j = D.length := by omega
          have hdk : decide ((D.length : Int) < (D.length : Int)) = false := decide_eq_false (by omega)
          have e1 : a * dotL zs zs + s * qf zs zs (D.take D.length) = energyL s a zs D := by rw [List.take_length]; rfl
          rw [e1] at hSg hSo
          clear e1 hSg
          obtain ⟨C, E, hC, hE, hVal⟩ := wv_parts (energyL s a zs D)
          obtain ⟨y0, y1, _, _⟩ := hSo
          rw [← hC] at y0
          rw [← hE] at y1
          have HR := Lib.hid hSr
          obtain ⟨x0, x1, z0, z1⟩ := hSr
          have hoR : ¬ o = w.heap.size + 1 := by omega
          have HCE := Lib.hid (And.intro hC hE)
          have HV := Lib.hid hVal
          clear hC hE hVal
          go_wp2
          refine bodyPost_ret (v := .tuple #[.agg #[.int .i64 C, .int .u64 E], .int .i64 0]) ?_ rfl ⟨by rw [← HD.out, HV.out], (hB.setCell (by simp) _).setCell (by simp) _⟩
          obtain ⟨q0, q1, _, _⟩ := sum_store HR.out HCE.out.1 HCE.out.2
          rw [← HCE.out.1] at q0
          rw [← HCE.out.2] at q1
          generalize ((wr.setCell ⟨w.heap.size + 1, 0, none⟩ (.int .i64 C)).setCell ⟨w.heap.size + 1, 1, none⟩ (.int .u64 E)) = W at q0 q1 ⊢
          simp [results, Tryz.results53, go_sem, q0, q1]
end Go.Proofs.YtblgchhmcifdgaaGreatDoor

set_option linter.unusedSimpArgs false
set_option linter.unusedVariables false
namespace Go.Proofs.YtblgchhmcifdgaaGreatDoor
open Go.RowKit Go.Grid

/-! cost.Cost. -/
def misL (S : Sy) (x : List Int) (k : Nat) : Int := S.targets.getD k 0 - valL (S.rows.getD k ⟨[], 0, 0, 0⟩).sh x
def costTo (S : Sy) (x : List Int) : Nat → Int
  | 0 => energyL S.s S.a x (edgesL S.f.toNat)
  | k + 1 => costTo S x k + (S.rows.getD k ⟨[], 0, 0, 0⟩).weight * misL S x k * misL S x k
/-- The cost. -/
def costL (S : Sy) (x : List Int) : Int := costTo S x S.rows.length
set_option maxRecDepth 100000
set_option maxHeartbeats 4000000 in
theorem ccost_ok (S : Sy) (v : Value) (p : Option Addr) (x : List Int) (xc : Nat) (w : World) (hT : HasTab w) (hS : SysIn w v S) (hok : SyOk S) (hV : VecAt w p x) (hvo : VecOk S.f S.s S.a x) :
    Calls Tryz.prog 21 #[v, .slice p x.length xc] w fun e w' => e = .returned (.tuple #[wv (costL S x), .int .i64 0]) ∧ Below w.heap.size w w' := by
  have hE : sysErr S = 0 := syOk_iff.2 hok
  have HS := Lib.hid hS
  have HOK := Lib.hid hok
  obtain ⟨p1, d1, p2, d2, rfl, hd1, hd2, hR, hTg⟩ := hS
  have HR := Lib.hid hR
  have HTG := Lib.hid hTg
  have HX := Lib.hid hV
  have hxb : Bd 1048576 x := hvo.2.2
  have HXB : Hid (Bd 1099511627776 x) := Lib.hid (hxb.mono (by omega))
  have HXB0 := Lib.hid hxb
  have hxl : x.length ≤ 1000 := by have := hok.nodes; have := hvo.2.1; omega
  have hfn : ((S.f.toNat : Nat) : Int) = S.f := Int.toNat_of_nonneg (by have := hok.1.1; omega)
  have HEN : Hid (∀ w', HasTab w' → VecAt w' p x → Calls Tryz.prog 53 #[.agg #[.int .i64 S.f, .int .i64 S.s, .int .i64 S.a], .slice p x.length xc] w' fun e w'' => e = .returned (.tuple #[wv (energyL S.s S.a x (edgesL S.f.toNat)), .int .i64 0]) ∧ Below w'.heap.size w' w'') := Lib.hid (fun w' h1 h2 => by
    have h := energy_at S.f.toNat S.s S.a p x xc x.length w' rfl h1 h2 (vecOk_nat hvo)
    rw [hfn] at h
    exact h)
  have HTL := Lib.hid hok.2.2.1
  have hrl : S.rows.length ≤ 200 := hok.2.1
  have HC0 : Hid (costTo S x 0 = energyL S.s S.a x (edgesL S.f.toNat)) := Lib.hid rfl
  have HTB := Lib.hid hT
  clear hR hTg hV hxb hfn hok hvo hT
  go_enter Tryz.func21, Tryz.ntmps21
  go_wp2_with fail
  refine (ccheck_any S _ _ (HS.out.below (by repeat (first | (with_reducible assumption) | (with_reducible exact Below.refl _ _) | (with_reducible refine Below.setCell ?_ (by first | omega | (simp; done) | (simp; omega)) _) | (with_reducible refine Below.alloc ?_ (by first | omega | (simp; done) | (simp; omega)) _) | (with_reducible apply Below.drew) | assumption))) HOK.out.len).mono ?_
  rintro e w1 ⟨rfl, hb1⟩
  rw [hE]
  have hB : Below w.heap.size w w1 := Below.trans (by repeat (first | (with_reducible assumption) | (with_reducible exact Below.refl _ _) | (with_reducible refine Below.setCell ?_ (by first | omega | (simp; done) | (simp; omega)) _) | (with_reducible refine Below.alloc ?_ (by first | omega | (simp; done) | (simp; omega)) _) | (with_reducible apply Below.drew) | assumption)) (hb1.mono (by simp <;> omega))
  have c0 : w1.cell? ⟨w.heap.size, 0, none⟩ = some (.int .i64 S.f) := RX.keep hb1 (by simp [RX.cell_drew, RX.cell_alloc, Nat.add_assoc])
  have c1 : w1.cell? ⟨w.heap.size, 1, none⟩ = some (.int .i64 S.s) := RX.keep hb1 (by simp [RX.cell_drew, RX.cell_alloc, Nat.add_assoc])
  have c2 : w1.cell? ⟨w.heap.size, 2, none⟩ = some (.int .i64 S.a) := RX.keep hb1 (by simp [RX.cell_drew, RX.cell_alloc, Nat.add_assoc])
  have c3 : w1.cell? ⟨w.heap.size, 3, none⟩ = some (.slice p1 S.rows.length d1) := RX.keep hb1 (by simp [RX.cell_drew, RX.cell_alloc, Nat.add_assoc])
  have c4 : w1.cell? ⟨w.heap.size, 4, none⟩ = some (.slice p2 S.targets.length d2) := RX.keep hb1 (by simp [RX.cell_drew, RX.cell_alloc, Nat.add_assoc])
  have r0 : w1.cell? ⟨w.heap.size + 1, 0, none⟩ = some (.int .i64 0) := RX.keep hb1 (by simp [RX.cell_drew, RX.cell_alloc, Nat.add_assoc])
  have r1 : w1.cell? ⟨w.heap.size + 1, 1, none⟩ = some (.int .u64 0) := RX.keep hb1 (by simp [RX.cell_drew, RX.cell_alloc, Nat.add_assoc])
  have rf : ∀ k, w1.frozen? ⟨w.heap.size + 1, k, none⟩ = false := fun k => by
    rw [World.frozen?_of_block (hb1.block _ (by simp))]; simp
  clear hb1 hE
  go_wp2_with fail
  refine (HEN.out _ (HTB.out.below hB) (HX.out.below hB)).mono ?_
  rintro e w2 ⟨rfl, hb2⟩
  rw [← HC0.out]
  obtain ⟨C0, D0, q1, q2, hS0⟩ := wv_parts (costTo S x 0)
  clear q1 q2
  rw [hS0]
  have HS0 := Lib.hid hS0
  clear hS0
  have m3 := RX.keep hb2 c3
  have m4 := RX.keep hb2 c4
  have e0 := RX.keep hb2 r0
  have e1 := RX.keep hb2 r1
  have hsz : w.heap.size + 1 < w2.heap.size := World.block_lt_of_cell? _ _ e0
  have hr0l : w.heap.size + 1 < w1.heap.size := World.block_lt_of_cell? _ _ r0
  have ef : ∀ k, w2.frozen? ⟨w.heap.size + 1, k, none⟩ = false := fun k => (hb2.frozen (p := ⟨w.heap.size + 1, k, none⟩) hr0l).trans (rf k)
  have HB2 := Lib.hid (hB.trans (hb2.mono hB.size))
  have hsz2 : w.heap.size < w2.heap.size := by omega
  clear hb2 hB c0 c1 c2 c3 c4 r0 r1 rf HEN HS hr0l
  go_wp2
  refine absW (F := fun w' => w'.cell? ⟨w2.heap.size, 0, none⟩ = some (.int .i64 C0) ∧ w'.cell? ⟨w2.heap.size, 1, none⟩ = some (.int .u64 D0) ∧ w'.frozen? ⟨w2.heap.size, 0, none⟩ = false ∧ w'.frozen? ⟨w2.heap.size, 1, none⟩ = false ∧ Below w2.heap.size w2 w') ⟨(by simp [RX.cell_drew, RX.cell_alloc, Nat.add_assoc]), (by simp [RX.cell_drew, RX.cell_alloc, Nat.add_assoc]), by simp, by simp, (by repeat (first | (with_reducible assumption) | (with_reducible exact Below.refl _ _) | (with_reducible refine Below.setCell ?_ (by first | omega | (simp; done) | (simp; omega)) _) | (with_reducible refine Below.alloc ?_ (by first | omega | (simp; done) | (simp; omega)) _) | (with_reducible apply Below.drew) | assumption))⟩ ?_
  rintro W4 ⟨s0, s1, sf0, sf1, hb4⟩
  obtain ⟨Wb, hWb⟩ : ∃ Wb, Wb = w2.heap.size := ⟨_, rfl⟩
  rw [← hWb] at s0 s1 sf0 sf1 ⊢
  have HB4 := Lib.hid hb4
  have hne1 : ¬ (w.heap.size = Wb) := by omega
  have hne2 : ¬ (w.heap.size + 1 = Wb) := by omega
  have HWB := Lib.hid hWb
  clear hWb hb4
  go_loopw [32] (fun i wr => ∃ (k : Nat) (C D : Int), k ≤ S.rows.length ∧ i = .int .i64 k ∧ Hid (wv (costTo S x k) = .agg #[.int .i64 C, .int .u64 D]) ∧ wr.cell? ⟨Wb, 0, none⟩ = some (.int .i64 C) ∧ wr.cell? ⟨Wb, 1, none⟩ = some (.int .u64 D) ∧ wr.frozen? ⟨Wb, 0, none⟩ = false ∧ wr.frozen? ⟨Wb, 1, none⟩ = false ∧ W4.grownBy wr (some Wb)) (fun i _ => S.rows.length - (intOf i).toNat)
  case atStart => exact ⟨0, C0, D0, Nat.zero_le _, rfl, HS0, s0, s1, sf0, sf1, ⟨rfl, rfl, rfl, Nat.le_refl _, fun _ _ _ => rfl⟩⟩
  case round =>
    clear s0 s1 sf0 sf1
    obtain ⟨k, C, D, hk, rfl, HV, s0, s1, sf0, sf1, hgr⟩ := hrel
    have hgr2 : w2.grownBy wr (some Wb) := (grw_below HB4.out _).trans hgr
    have hb2r : Below w2.heap.size w2 wr := (Below.refl _ _).grown hgr2 (Nat.le_refl _) (fun k hk => by injection hk with hk; have := HWB.out; omega)
    by_cases hlt : k < S.rows.length
    · have hdk : decide ((k : Int) < (S.rows.length : Int)) = true := decide_eq_true (by omega)
      have hltT : k < S.targets.length := by rw [HTL.out]; exact hlt
      have hbw : Below w.heap.size w wr := HB2.out.trans (hb2r.mono HB2.out.size)
      obtain ⟨bR, oR, rfl, hbR, hcR⟩ := (HR.out.below hbw).get (by omega)
      obtain ⟨bT, oT, rfl, hbT, hcT⟩ := (HTG.out.below hbw).cell (by omega)
      obtain ⟨q, cap, g0, gcap, gsh, g1, g2, g3⟩ := hcR k hlt
      have tk := hcT k hltT
      have hrow := HOK.out.row (List.getElem_mem hlt)
      have htg := HOK.out.target (List.getElem_mem hltT)
      have hvb := hrow.2.2.1.val_all HXB0.out (by omega)
      have HSTEP : Hid (costTo S x (k + 1) = costTo S x k + S.rows[k].weight * (S.targets[k] - valL S.rows[k].sh x) * (S.targets[k] - valL S.rows[k].sh x)) := Lib.hid (by
        show costTo S x k + (S.rows.getD k ⟨[], 0, 0, 0⟩).weight * misL S x k * misL S x k = _
        unfold misL
        rw [show S.rows.getD k ⟨[], 0, 0, 0⟩ = S.rows[k] by simp [List.getD, List.getElem?_eq_getElem hlt], i64_get hltT])
      obtain ⟨r, hr⟩ : ∃ r, r = S.rows[k] := ⟨_, rfl⟩
      obtain ⟨t, ht⟩ : ∃ t, t = S.targets[k] := ⟨_, rfl⟩
      rw [← hr] at g0 gcap gsh g1 g2 g3 hrow HSTEP hvb
      rw [← ht] at tk htg HSTEP
      obtain ⟨m, hm⟩ : ∃ m, t - valL r.sh x = m := ⟨_, rfl⟩
      rw [hm] at HSTEP
      have hmb : -8589934592 ≤ m ∧ m ≤ 8589934592 := by omega
      have hpb := fprod_bd (a := r.weight) (b := m) (A := 100) (B := 8589934592) (by have := hrow.2.1; omega) hrow.2.1.2 hmb.1 hmb.2 (by omega)
      obtain ⟨wm, hwm⟩ : ∃ wm, r.weight * m = wm := ⟨_, rfl⟩
      rw [hwm] at HSTEP hpb
      have HM := Lib.hid hm
      have HSW := Lib.hid hrow.2.2.1
      have hshl := hrow.2.2.2.1
      have HG := Lib.hid gsh
      have HXr := Lib.hid (HX.out.below hbw)
      have m4r := RX.keep hb2r m4
      have hWl : Wb < wr.heap.size := World.block_lt_of_cell? _ _ s0
      have hkL : (k : Int) < (S.targets.length : Int) := by omega
      have hk0 : (0 : Int) ≤ (k : Int) := by omega
      have HGR := Lib.hid hgr
      clear hr ht hm gsh hcR hcT hbw hb2r hgr2 hgr hrow hvb htg
      go_wp2
      refine absW (F := fun w' => w'.cell? ⟨wr.heap.size, 0, none⟩ = some (.slice q r.sh.length cap) ∧ w'.cell? ⟨wr.heap.size, 1, none⟩ = some (.int .i64 r.value) ∧ w'.cell? ⟨wr.heap.size, 2, none⟩ = some (.int .i64 r.weight) ∧ w'.cell? ⟨wr.heap.size, 3, none⟩ = some (.int .i64 r.report) ∧ w'.cell? ⟨w.heap.size, 4, none⟩ = some (.slice (some ⟨bT, oT, none⟩) S.targets.length d2) ∧ w'.cell? ⟨bT, oT + k, none⟩ = some (.int .i64 t) ∧ Below wr.heap.size wr w') ⟨(by simp [RX.cell_drew, RX.cell_alloc, Nat.add_assoc]), (by simp [RX.cell_drew, RX.cell_alloc, Nat.add_assoc]), (by simp [RX.cell_drew, RX.cell_alloc, Nat.add_assoc]), (by simp [RX.cell_drew, RX.cell_alloc, Nat.add_assoc]), RX.keep (show Below wr.heap.size wr _ from (by repeat (first | (with_reducible assumption) | (with_reducible exact Below.refl _ _) | (with_reducible refine Below.setCell ?_ (by first | omega | (simp; done) | (simp; omega)) _) | (with_reducible refine Below.alloc ?_ (by first | omega | (simp; done) | (simp; omega)) _) | (with_reducible apply Below.drew) | assumption))) m4r, RX.keep (show Below wr.heap.size wr _ from (by repeat (first | (with_reducible assumption) | (with_reducible exact Below.refl _ _) | (with_reducible refine Below.setCell ?_ (by first | omega | (simp; done) | (simp; omega)) _) | (with_reducible refine Below.alloc ?_ (by first | omega | (simp; done) | (simp; omega)) _) | (with_reducible apply Below.drew) | assumption))) tk, (by repeat (first | (with_reducible assumption) | (with_reducible exact Below.refl _ _) | (with_reducible refine Below.setCell ?_ (by first | omega | (simp; done) | (simp; omega)) _) | (with_reducible refine Below.alloc ?_ (by first | omega | (simp; done) | (simp; omega)) _) | (with_reducible apply Below.drew) | assumption))⟩ ?_
      rintro W5 ⟨a0, a1, a2, a3, a4, a5, hb5⟩
      have HB5 := Lib.hid hb5
      clear hb5 g0 g1 g2 g3 tk m4r
      refine RX.region RX.fN (fun w' => w'.cell? ⟨wr.heap.size, 0, none⟩ = some (.slice q r.sh.length cap) ∧ w'.cell? ⟨wr.heap.size, 1, none⟩ = some (.int .i64 r.value) ∧ w'.cell? ⟨wr.heap.size, 2, none⟩ = some (.int .i64 r.weight) ∧ w'.cell? ⟨wr.heap.size, 3, none⟩ = some (.int .i64 r.report) ∧ w'.cell? ⟨w.heap.size, 4, none⟩ = some (.slice (some ⟨bT, oT, none⟩) S.targets.length d2) ∧ w'.cell? ⟨bT, oT + k, none⟩ = some (.int .i64 t)) (by kernel_rfl) (by kernel_rfl) (⟨a0, a1, a2, a3, a4, a5⟩) (fun OPS HO QR hQR => ?_)
      repeat
        refine RX.step (fun R hR => ?_)
        first
        | (refine RX.one_skip (by first | rfl | (rw [HO.out]; rfl)) (by simp only [RX.put_some, RX.put_none, List.set_cons_zero, List.set_cons_succ]; rfl) ?_
           refine hR _ _ ?_; clear hR R)
        | (refine RX.one_move (by first | rfl | (rw [HO.out]; rfl)) rfl (by first | exact Or.inl rfl | exact Or.inr rfl) (by simp only [RX.eval_tmp, RX.eval_const, List.getD_cons_zero, List.getD_cons_succ]; rfl) (by simp only [RX.put_some, RX.put_none, List.set_cons_zero, List.set_cons_succ]; rfl) ?_
           refine hR _ _ ?_; clear hR R)
        | (refine RX.one_nil (by first | rfl | (rw [HO.out]; rfl)) rfl rfl (by simp only [RX.eval_tmp, RX.eval_const, List.getD_cons_zero, List.getD_cons_succ]; rfl) (by simp only [RX.put_some, RX.put_none, List.set_cons_zero, List.set_cons_succ]; rfl) ?_
           refine hR _ _ ?_; clear hR R)
        | (refine RX.one_float (by first | rfl | (rw [HO.out]; rfl)) rfl rfl rfl ?_
           apply Exists.intro; apply Exists.intro
           refine ⟨fun w' hS K hK => ?_, ?_, ?_⟩
           · obtain ⟨hS1, hS2, hS3, hS4, hS5, hS6⟩ := hS; go_wp2; exact hK _ _ (by simp only [RX.arr_getD, List.getD_cons_zero, List.getD_cons_succ]; first | exact RX.dec_t (by omega) | exact RX.dec_f (by omega) | exact RX.beq_t (by omega) | exact RX.beq_f (by omega) | exact RX.bne_t (by omega) | exact RX.bne_f (by omega) | exact RX.bneB _ | rfl) rfl
           · simp only [RX.put_some, RX.put_none, List.set_cons_zero, List.set_cons_succ]; rfl
           refine hR _ _ ?_; clear hR R)
      refine RX.step (fun R hR => ?_)
      refine RX.one_chain (by first | rfl | (rw [HO.out]; rfl)) rfl (fun K hK => ?_)
      go_wp2_with fail
      refine (cmisfit_any r q cap t x p xc _ ?_ gcap (by omega) HSW.out ?_ HXB.out (by omega) (by have := HM.out; have := HSW.out.val_all HXB0.out (by omega); omega)).mono ?_
      · exact (HG.out.below HB5.out).below (by repeat (first | (with_reducible assumption) | (with_reducible exact Below.refl _ _) | (with_reducible refine Below.setCell ?_ (by first | omega | (simp; done) | (simp; omega)) _) | (with_reducible refine Below.alloc ?_ (by first | omega | (simp; done) | (simp; omega)) _) | (with_reducible apply Below.drew) | assumption))
      · exact (HXr.out.below HB5.out).below (by repeat (first | (with_reducible assumption) | (with_reducible exact Below.refl _ _) | (with_reducible refine Below.setCell ?_ (by first | omega | (simp; done) | (simp; omega)) _) | (with_reducible refine Below.alloc ?_ (by first | omega | (simp; done) | (simp; omega)) _) | (with_reducible apply Below.drew) | assumption))
      rintro e w6 ⟨rfl, hb6⟩
      rw [HM.out]
      replace hb6 : Below W5.heap.size W5 w6 := ⟨hb6.os, hb6.tape, hb6.output, hb6.size, hb6.block⟩
      have hb7 : Below wr.heap.size wr w6 := HB5.out.trans (hb6.mono HB5.out.size)
      have z0 := RX.keep hb6 a0
      have z1 := RX.keep hb6 a1
      have z2 := RX.keep hb6 a2
      have z3 := RX.keep hb6 a3
      have z4 := RX.keep hb6 a4
      have z5 := RX.keep hb6 a5
      have u0 := RX.keep hb7 s0
      have u1 := RX.keep hb7 s1
      have uf0 : w6.frozen? ⟨Wb, 0, none⟩ = false := (World.frozen?_of_block (hb7.block _ hWl)).trans sf0
      have uf1 : w6.frozen? ⟨Wb, 1, none⟩ = false := (World.frozen?_of_block (hb7.block _ hWl)).trans sf1
      have HB7 := Lib.hid hb7
      clear hb6 hb7 a0 a1 a2 a3 a4 a5 s0 s1 sf0 sf1
      refine hK _ _ ⟨⟨z0, z1, z2, z3, z4, z5⟩, hR _ _ ?_⟩; clear hK K hR R
      repeat
        refine RX.step (fun R hR => ?_)
        first
        | (refine RX.one_skip (by first | rfl | (rw [HO.out]; rfl)) (by simp only [RX.put_some, RX.put_none, List.set_cons_zero, List.set_cons_succ]; rfl) ?_
           refine hR _ _ ?_; clear hR R)
        | (refine RX.one_move (by first | rfl | (rw [HO.out]; rfl)) rfl (by first | exact Or.inl rfl | exact Or.inr rfl) (by simp only [RX.eval_tmp, RX.eval_const, List.getD_cons_zero, List.getD_cons_succ]; rfl) (by simp only [RX.put_some, RX.put_none, List.set_cons_zero, List.set_cons_succ]; rfl) ?_
           refine hR _ _ ?_; clear hR R)
        | (refine RX.one_nil (by first | rfl | (rw [HO.out]; rfl)) rfl rfl (by simp only [RX.eval_tmp, RX.eval_const, List.getD_cons_zero, List.getD_cons_succ]; rfl) (by simp only [RX.put_some, RX.put_none, List.set_cons_zero, List.set_cons_succ]; rfl) ?_
           refine hR _ _ ?_; clear hR R)
        | (refine RX.one_float (by first | rfl | (rw [HO.out]; rfl)) rfl rfl rfl ?_
           apply Exists.intro; apply Exists.intro
           refine ⟨fun w' hS K hK => ?_, ?_, ?_⟩
           · obtain ⟨hS1, hS2, hS3, hS4, hS5, hS6⟩ := hS; go_wp2; exact hK _ _ (by simp only [RX.arr_getD, List.getD_cons_zero, List.getD_cons_succ]; first | exact RX.dec_t (by omega) | exact RX.dec_f (by omega) | exact RX.beq_t (by omega) | exact RX.beq_f (by omega) | exact RX.bne_t (by omega) | exact RX.bne_f (by omega) | exact RX.bneB _ | rfl) rfl
           · simp only [RX.put_some, RX.put_none, List.set_cons_zero, List.set_cons_succ]; rfl
           refine hR _ _ ?_; clear hR R)
      refine RX.wpL_nil (hQR _ _ (⟨z0, z1, z2, z3, z4, z5⟩) ?_); clear hQR QR HO OPS
      clear z0 z1 z3 z4 z5
      have hRb : wr.heap.size < w6.heap.size := World.block_lt_of_cell? _ _ z2
      go_wp2
      refine RY.region RX.fN (fun w' => w'.cell? ⟨wr.heap.size, 2, none⟩ = some (.int .i64 r.weight) ∧ w'.cell? ⟨Wb, 0, none⟩ = some (.int .i64 C) ∧ w'.cell? ⟨Wb, 1, none⟩ = some (.int .u64 D)) (by kernel_rfl) (by kernel_rfl) (⟨z2, u0, u1⟩) (fun OPS HO QR hQR => ?_)
      repeat
        refine RY.step (fun R hR => ?_)
        first
        | (refine RY.one_skip (by first | rfl | (rw [HO.out]; rfl)) (by simp only [RX.put_some, RX.put_none, List.set_cons_zero, List.set_cons_succ]; rfl) ?_
           refine hR _ _ ?_; clear hR R)
        | (refine RY.one_move (by first | rfl | (rw [HO.out]; rfl)) rfl (by first | exact Or.inl rfl | exact Or.inr rfl) (by simp only [RX.eval_tmp, RX.eval_const, List.getD_cons_zero, List.getD_cons_succ]; rfl) (by simp only [RX.put_some, RX.put_none, List.set_cons_zero, List.set_cons_succ]; rfl) ?_
           refine hR _ _ ?_; clear hR R)
        | (refine RY.one_nil (by first | rfl | (rw [HO.out]; rfl)) rfl rfl (by simp only [RX.eval_tmp, RX.eval_const, List.getD_cons_zero, List.getD_cons_succ]; rfl) (by simp only [RX.put_some, RX.put_none, List.set_cons_zero, List.set_cons_succ]; rfl) ?_
           refine hR _ _ ?_; clear hR R)
        | (refine RY.one_float (by first | rfl | (rw [HO.out]; rfl)) rfl rfl rfl ?_
           apply Exists.intro; apply Exists.intro
           refine ⟨fun w' hS K hK => ?_, ?_, ?_⟩
           · obtain ⟨hS1, hS2, hS3⟩ := hS; go_wp2; exact hK _ _ (by simp only [RX.arr_getD, List.getD_cons_zero, List.getD_cons_succ]; first | exact RX.dec_t (by omega) | exact RX.dec_f (by omega) | exact RX.beq_t (by omega) | exact RX.beq_f (by omega) | exact RX.bne_t (by omega) | exact RX.bne_f (by omega) | exact RX.bneB _ | rfl) rfl
           · simp only [RX.put_some, RX.put_none, List.set_cons_zero, List.set_cons_succ]; rfl
           refine hR _ _ ?_; clear hR R)
      refine RY.step (fun R hR => ?_)
      refine RY.one_chain (by first | rfl | (rw [HO.out]; rfl)) rfl (fun K hK => ?_)
      go_wp2_with fail
      refine (product_wv _ _ _ (by omega) (by omega) (by omega) (by omega)).mono ?_
      rintro e w7 ⟨rfl, hb8⟩
      replace hb8 : Below w6.heap.size w6 w7 := ⟨hb8.os, hb8.tape, hb8.output, hb8.size, hb8.block⟩
      have y2 := RX.keep hb8 z2
      have y0 := RX.keep hb8 u0
      have y1 := RX.keep hb8 u1
      have hWl6 : Wb < w6.heap.size := World.block_lt_of_cell? _ _ u0
      have yf0 : w7.frozen? ⟨Wb, 0, none⟩ = false := (hb8.frozen (p := ⟨Wb, 0, none⟩) hWl6).trans uf0
      have yf1 : w7.frozen? ⟨Wb, 1, none⟩ = false := (hb8.frozen (p := ⟨Wb, 1, none⟩) hWl6).trans uf1
      have HB8 : Hid (Below wr.heap.size wr w7) := Lib.hid (HB7.out.trans (hb8.mono HB7.out.size))
      clear hb8 z2 u0 u1 uf0 uf1
      refine hK _ _ ⟨.inr (⟨y2, y0, y1⟩), hR _ _ ?_⟩; clear hK K hR R
      repeat
        refine RY.step (fun R hR => ?_)
        first
        | (refine RY.one_skip (by first | rfl | (rw [HO.out]; rfl)) (by simp only [RX.put_some, RX.put_none, List.set_cons_zero, List.set_cons_succ]; rfl) ?_
           refine hR _ _ ?_; clear hR R)
        | (refine RY.one_move (by first | rfl | (rw [HO.out]; rfl)) rfl (by first | exact Or.inl rfl | exact Or.inr rfl) (by simp only [RX.eval_tmp, RX.eval_const, List.getD_cons_zero, List.getD_cons_succ]; rfl) (by simp only [RX.put_some, RX.put_none, List.set_cons_zero, List.set_cons_succ]; rfl) ?_
           refine hR _ _ ?_; clear hR R)
        | (refine RY.one_nil (by first | rfl | (rw [HO.out]; rfl)) rfl rfl (by simp only [RX.eval_tmp, RX.eval_const, List.getD_cons_zero, List.getD_cons_succ]; rfl) (by simp only [RX.put_some, RX.put_none, List.set_cons_zero, List.set_cons_succ]; rfl) ?_
           refine hR _ _ ?_; clear hR R)
        | (refine RY.one_float (by first | rfl | (rw [HO.out]; rfl)) rfl rfl rfl ?_
           apply Exists.intro; apply Exists.intro
           refine ⟨fun w' hS K hK => ?_, ?_, ?_⟩
           · obtain ⟨hS1, hS2, hS3⟩ := hS; go_wp2; exact hK _ _ (by simp only [RX.arr_getD, List.getD_cons_zero, List.getD_cons_succ]; first | exact RX.dec_t (by omega) | exact RX.dec_f (by omega) | exact RX.beq_t (by omega) | exact RX.beq_f (by omega) | exact RX.bne_t (by omega) | exact RX.bne_f (by omega) | exact RX.bneB _ | rfl) rfl
           · simp only [RX.put_some, RX.put_none, List.set_cons_zero, List.set_cons_succ]; rfl
           refine hR _ _ ?_; clear hR R)
      refine RY.step (fun R hR => ?_)
      refine RY.one_chain (by first | rfl | (rw [HO.out]; rfl)) rfl (fun K hK => ?_)
      go_wp2_with fail
      refine (add_at _ _ (costTo S x k) (wm * m) HV.out.symm rfl _).mono ?_
      rintro e w8 ⟨rfl, hb9⟩
      rw [← HSTEP.out]
      obtain ⟨C1, D1, q1, q2, hS1⟩ := wv_parts (costTo S x (k + 1))
      clear q1 q2
      rw [hS1]
      have HS1 := Lib.hid hS1
      clear hS1
      replace hb9 : Below w7.heap.size w7 w8 := ⟨hb9.os, hb9.tape, hb9.output, hb9.size, hb9.block⟩
      have x2 := RX.keep hb9 y2
      have x0 := RX.keep hb9 y0
      have x1 := RX.keep hb9 y1
      have hWl7 : Wb < w7.heap.size := World.block_lt_of_cell? _ _ y0
      have xf0 : w8.frozen? ⟨Wb, 0, none⟩ = false := (hb9.frozen (p := ⟨Wb, 0, none⟩) hWl7).trans yf0
      have xf1 : w8.frozen? ⟨Wb, 1, none⟩ = false := (hb9.frozen (p := ⟨Wb, 1, none⟩) hWl7).trans yf1
      have HB9 : Hid (Below wr.heap.size wr w8) := Lib.hid (HB8.out.trans (hb9.mono HB8.out.size))
      clear hb9 y2 y0 y1 yf0 yf1
      refine hK _ _ ⟨.inr (⟨x2, x0, x1⟩), hR _ _ ?_⟩; clear hK K hR R
      repeat
        refine RY.step (fun R hR => ?_)
        first
        | (refine RY.one_skip (by first | rfl | (rw [HO.out]; rfl)) (by simp only [RX.put_some, RX.put_none, List.set_cons_zero, List.set_cons_succ]; rfl) ?_
           refine hR _ _ ?_; clear hR R)
        | (refine RY.one_move (by first | rfl | (rw [HO.out]; rfl)) rfl (by first | exact Or.inl rfl | exact Or.inr rfl) (by simp only [RX.eval_tmp, RX.eval_const, List.getD_cons_zero, List.getD_cons_succ]; rfl) (by simp only [RX.put_some, RX.put_none, List.set_cons_zero, List.set_cons_succ]; rfl) ?_
           refine hR _ _ ?_; clear hR R)
        | (refine RY.one_nil (by first | rfl | (rw [HO.out]; rfl)) rfl rfl (by simp only [RX.eval_tmp, RX.eval_const, List.getD_cons_zero, List.getD_cons_succ]; rfl) (by simp only [RX.put_some, RX.put_none, List.set_cons_zero, List.set_cons_succ]; rfl) ?_
           refine hR _ _ ?_; clear hR R)
        | (refine RY.one_float (by first | rfl | (rw [HO.out]; rfl)) rfl rfl rfl ?_
           apply Exists.intro; apply Exists.intro
           refine ⟨fun w' hS K hK => ?_, ?_, ?_⟩
           · obtain ⟨hS1, hS2, hS3⟩ := hS; go_wp2; exact hK _ _ (by simp only [RX.arr_getD, List.getD_cons_zero, List.getD_cons_succ]; first | exact RX.dec_t (by omega) | exact RX.dec_f (by omega) | exact RX.beq_t (by omega) | exact RX.beq_f (by omega) | exact RX.bne_t (by omega) | exact RX.bne_f (by omega) | exact RX.bneB _ | rfl) rfl
           · simp only [RX.put_some, RX.put_none, List.set_cons_zero, List.set_cons_succ]; rfl
           refine hR _ _ ?_; clear hR R)
      refine RY.step (fun R hR => ?_)
      refine RY.one_chain (by first | rfl | (rw [HO.out]; rfl)) rfl (fun K hK => ?_)
      go_wp2
      first | refine ⟨(by first | exact .inl rfl | exact .inl trivial | trivial), hR _ _ (RY.wpL_nil (hQR _ _ ?_))⟩ | refine hR _ _ (RY.wpL_nil (hQR _ _ ?_)) | refine hQR _ _ ?_
      (try clear hR); (try clear R); clear hQR QR HO OPS
      go_wp2
      go_roundw
      case rel =>
        refine ⟨k + 1, C1, D1, by omega, by go_num, HS1, ?_, ?_, by rw [World.frozen?_setCell, World.frozen?_setCell]; exact xf0, by rw [World.frozen?_setCell, World.frozen?_setCell]; exact xf1, ?_⟩
        · rw [World.cell?_setCell_other _ _ _ _ (by simp)]; exact World.cell?_setCell_same' _ _ _ (by rw [x0]; rfl)
        · exact World.cell?_setCell_same' _ _ _ (by rw [World.cell?_setCell_other _ _ _ _ (by simp), x1]; rfl)
        · exact ((HGR.out.trans (grw_below HB9.out _)).trans (grownBy_setCell _ _ _ _)).trans (grownBy_setCell _ _ _ _)
      case measure => simp [intOf]; omega
    · have hdk : decide ((k : Int) < (S.rows.length : Int)) = false := decide_eq_false (by omega)
      obtain rfl : k = S.rows.length := by omega
      have f0 := hgr2.cell e0 (by simp; exact hne2)
      have f1 := hgr2.cell e1 (by simp; exact hne2)
      have ff : ∀ k, wr.frozen? ⟨w.heap.size + 1, k, none⟩ = false := fun k => (World.frozen?_of_block (hgr2.block (w.heap.size + 1) hsz (by simp; exact hne2))).trans (ef k)
      have ff0 := ff 0
      have ff1 := ff 1
      have HBw := Lib.hid (HB2.out.trans (hb2r.mono HB2.out.size))
      have HVE : Hid (wv (costL S x) = .agg #[.int .i64 C, .int .u64 D]) := HV
      clear hgr hgr2 hb2r ff HV
      go_wp2
      refine bodyPost_ret (v := .tuple #[.agg #[.int .i64 C, .int .u64 D], .int .i64 0]) ?_ rfl ⟨by rw [HVE.out], (HBw.out.setCell (by simp) _).setCell (by simp) _⟩
      simp [results, Tryz.results21, go_sem, f0, f1]
end Go.Proofs.YtblgchhmcifdgaaGreatDoor

set_option linter.unusedSimpArgs false
set_option linter.unusedVariables false
namespace Go.Proofs.YtblgchhmcifdgaaGreatDoor
open Go.RowKit Go.Grid

/-! The cost of a sum; the residual fixes the vector. -/
theorem sq_sub (w d b : Int) : w * (d - b) * (d - b) = w * d * d - 2 * (w * d * b) + w * b * b := by
  have e1 : w * (d - b) * (d - b) = w * (d - b) * d - w * (d - b) * b := Int.mul_sub _ _ _
  have e2 : w * (d - b) = w * d - w * b := Int.mul_sub _ _ _
  have e3 : (w * d - w * b) * d = w * d * d - w * b * d := Int.sub_mul _ _ _
  have e4 : (w * d - w * b) * b = w * d * b - w * b * b := Int.sub_mul _ _ _
  have e5 : w * b * d = w * d * b := Int.mul_right_comm _ _ _
  rw [e1, e2, e3, e4, e5]; omega
def qc (P : List (Rw × Int)) (x : List Int) : Int := (P.map (fun p => p.1.weight * (p.2 - dotT p.1.sh x) * (p.2 - dotT p.1.sh x))).sum
def qm (P : List (Rw × Int)) (x h : List Int) : Int := (P.map (fun p => p.1.weight * (p.2 - dotT p.1.sh x) * dotT p.1.sh h)).sum
def qt (P : List (Rw × Int)) (h : List Int) : Int := (P.map (fun p => p.1.weight * p.2 * dotT p.1.sh h)).sum
def qd (P : List (Rw × Int)) (x h : List Int) : Int := (P.map (fun p => p.1.weight * dotT p.1.sh x * dotT p.1.sh h)).sum
theorem qc_add {x h : List Int} (hl : x.length = h.length) : ∀ P : List (Rw × Int), qc P (addL x h) = qc P x - 2 * qm P x h + qd P h h
  | [] => by simp [qc, qm, qd]
  | p :: P => by
    have ih := qc_add hl P
    simp only [qc, qm, qd, List.map_cons, List.sum_cons] at ih ⊢
    rw [ih, dotT_addL _ hl]
    have e : p.2 - (dotT p.1.sh x + dotT p.1.sh h) = (p.2 - dotT p.1.sh x) - dotT p.1.sh h := by omega
    rw [e, sq_sub]; omega
theorem qm_split (x h : List Int) : ∀ P : List (Rw × Int), qm P x h = qt P h - qd P x h
  | [] => by simp [qt, qm, qd]
  | p :: P => by
    have ih := qm_split x h P
    simp only [qt, qm, qd, List.map_cons, List.sum_cons] at ih ⊢
    rw [ih, Int.mul_sub, Int.sub_mul]; omega
theorem qd_rows {S : Sy} (h : SyOk S) (x y : List Int) : qd (S.rows.zip S.targets) x y = qr S x y := by
  have hm : (S.rows.zip S.targets).map (·.1) = S.rows := by rw [List.map_fst_zip]; rw [h.2.2.1]; omega
  unfold qd qr
  conv => rhs; rw [← hm]
  rw [List.map_map]; rfl
theorem dotT_zip (y : List Int) : ∀ P : List (Rw × Int), dotT (tAll P) y = qt P y
  | [] => by simp [tAll, dotT, qt]
  | p :: P => by
    have ih := dotT_zip y P
    rw [show tAll (p :: P) = rowT p ++ tAll P by simp [tAll], dotT_append, ih, dotT_row]
    simp [qt]
theorem dot_right {S : Sy} (h : SyOk S) {y : List Int} (hy : y.length = S.n) : dotL (rightL S) y = qt (S.rows.zip S.targets) y := by
  unfold rightL
  rw [dot_spread _ _ _ (by simp [hy]) (by
    rw [List.length_replicate]
    exact inT_all (fun p hp c hc => (h.zipT p hp).1.1 c hc)), dotL_comm, dot_rep0, dotT_zip]; simp
theorem dot_less : ∀ r m u : List Int, r.length = m.length → dotL (lessL r m) u = dotL r u - dotL m u
  | [], [], u, _ => by simp [lessL, dotL_nil]
  | a :: x, b :: y, [], _ => by simp [lessL, dotL]
  | a :: x, b :: y, c :: u, h => by
    have ih := dot_less x y u (by simpa using h)
    simp only [lessL, List.zipWith_cons_cons, dotL] at ih ⊢
    rw [ih, Int.sub_mul]; omega
theorem dot_res {S : Sy} (h : SyOk S) {x u : List Int} (hx : x.length = S.n) (hu : u.length = S.n) : dotL (resL S x) u = qm (S.rows.zip S.targets) x u - (S.a * dotL x u + S.s * qf x u (edgesL S.f.toNat)) := by
  unfold resL
  rw [dot_less _ _ _ (by rw [rightL_len, multL_len, hx]), dot_right h hu, dot_mult h hx hu, qm_split, qd_rows h]; omega
theorem energy_add {s a : Int} {x h : List Int} (hl : x.length = h.length) (D : List I2) : energyL s a (addL x h) D = energyL s a x D + 2 * (a * dotL x h + s * qf x h D) + energyL s a h D := by
  unfold energyL
  rw [dot_addL _ _ _ hl, dotL_comm x (addL x h), dotL_comm h (addL x h), dot_addL _ _ _ hl, dot_addL _ _ _ hl, qf_addL _ hl, qf_comm x (addL x h), qf_comm h (addL x h), qf_addL _ hl, qf_addL _ hl, dotL_comm h x, qf_comm h x]
  simp only [Int.mul_add]; omega
theorem costL_eq {S : Sy} (h : SyOk S) {x : List Int} (hx : x.length = S.n) : costL S x = energyL S.s S.a x (edgesL S.f.toNat) + qc (S.rows.zip S.targets) x := by
  have hlz : (S.rows.zip S.targets).length = S.rows.length := by rw [List.length_zip, h.2.2.1]; omega
  have key : ∀ k, k ≤ S.rows.length → costTo S x k = energyL S.s S.a x (edgesL S.f.toNat) + qc ((S.rows.zip S.targets).take k) x := by
    intro k
    induction k with
    | zero => intro _; simp [costTo, qc]
    | succ k ih =>
      intro hk
      have ht : k < S.targets.length := by have := h.2.2.1; omega
      have e : ((S.rows.zip S.targets).take (k + 1)) = (S.rows.zip S.targets).take k ++ [(S.rows[k], S.targets[k])] := by
        rw [List.take_succ_eq_append_getElem (by omega), List.getElem_zip]
      rw [e, costTo, ih (by omega)]
      unfold misL
      rw [show S.rows.getD k ⟨[], 0, 0, 0⟩ = S.rows[k] by simp [List.getD, List.getElem?_eq_getElem (show k < S.rows.length by omega)], i64_get ht, valL_dot (x := x) (fun c hc => by rw [hx]; exact (h.row (List.getElem_mem _)).1 c hc)]
      simp only [qc, List.map_append, List.sum_append, List.map_cons, List.map_nil, List.sum_cons, List.sum_nil]
      omega
  have := key S.rows.length (Nat.le_refl _)
  rw [← hlz, List.take_length, hlz] at this
  exact this
/-- The cost of a sum. -/
theorem cost_add {S : Sy} (h : SyOk S) {x u : List Int} (hx : x.length = S.n) (hu : u.length = S.n) : costL S (addL x u) = costL S x - 2 * dotL (resL S x) u + dotL (multL S u) u := by
  have hxu : x.length = u.length := by omega
  rw [costL_eq h (by rw [addL_len hxu, hx]), costL_eq h hx, dot_res h hx hu, dot_mult h hu hu, energy_add hxu, qc_add hxu, qd_rows h]
  have e : energyL S.s S.a u (edgesL S.f.toNat) = S.a * dotL u u + S.s * qf u u (edgesL S.f.toNat) := rfl
  rw [e]; omega
theorem qr_nn {S : Sy} (h : SyOk S) (u : List Int) : 0 ≤ qr S u u := by
  have key : ∀ R : List Rw, (∀ r ∈ R, 0 ≤ r.weight) → 0 ≤ (R.map (fun r => r.weight * dotT r.sh u * dotT r.sh u)).sum := by
    intro R
    induction R with
    | nil => intro _; simp
    | cons r R ih =>
      intro h0
      have := ih (fun r hr => h0 r (by simp [hr]))
      have h1 := Int.mul_nonneg (h0 r (by simp)) (sq_nn (dotT r.sh u))
      rw [← Int.mul_assoc] at h1
      simp only [List.map_cons, List.sum_cons]; omega
  exact key S.rows (fun r hr => by have := (h.row hr).2.1; omega)
/-- The form is at least Anchor times the sum of the squares. -/
theorem form_ge {S : Sy} (h : SyOk S) {u : List Int} (hu : u.length = S.n) : S.a * dotL u u ≤ dotL (multL S u) u := by
  rw [dot_mult h hu hu]
  have h1 := qr_nn h u
  have h2 := Int.mul_nonneg (show 0 ≤ S.s by have := h.1; unfold PrOk at this; omega) (qf_nn u (edgesL S.f.toNat))
  omega
theorem form_zero {S : Sy} (h : SyOk S) {u : List Int} (hu : u.length = S.n) (h0 : dotL (multL S u) u = 0) : ∀ z ∈ u, z = 0 := by
  have h1 := form_ge h hu
  have h2 := dot_nn u
  have ha : 1 ≤ S.a := by have := h.1; unfold PrOk at this; omega
  have h3 := Int.mul_le_mul_of_nonneg_right ha h2
  exact dot_zero u (by omega)
def subL (x y : List Int) : List Int := List.zipWith (fun a b => a - b) x y
theorem add_sub : ∀ x y : List Int, x.length = y.length → addL y (subL x y) = x
  | [], [], _ => rfl
  | a :: x, b :: y, h => by
    have ih := add_sub x y (by simpa using h)
    simp only [addL, subL, List.zipWith_cons_cons] at ih ⊢
    rw [ih]; congr 1; omega
theorem sub_zero : ∀ x y : List Int, x.length = y.length → (∀ z ∈ subL x y, z = 0) → x = y
  | [], [], _, _ => rfl
  | a :: x, b :: y, h, hz => by
    have h1 := hz (a - b) (by simp [subL])
    have ih := sub_zero x y (by simpa using h) (fun z hz' => hz z (by simp only [subL, List.zipWith_cons_cons] at hz' ⊢; exact List.mem_cons_of_mem _ hz'))
    rw [ih]; congr 1; omega
/-- Where the residuals are equal, the vectors are. -/
theorem res_inj {S : Sy} (h : SyOk S) {x y : List Int} (hx : x.length = S.n) (hy : y.length = S.n) (he : resL S x = resL S y) : x = y := by
  have hxy : x.length = y.length := by omega
  have hu : (subL x y).length = S.n := by simp [subL]; omega
  have e1 := dot_res h hx hu
  have e2 := dot_res h hy hu
  rw [he, e2] at e1
  have e3 : dotL (multL S x) (subL x y) = dotL (multL S y) (subL x y) := by
    rw [dot_mult h hx hu, dot_mult h hy hu]
    rw [qm_split, qm_split, qd_rows h, qd_rows h] at e1
    omega
  have e4 : multL S x = addL (multL S y) (multL S (subL x y)) := by
    conv => lhs; rw [← add_sub x y hxy]
    exact mult_add h hy hu
  rw [e4, dot_addL _ _ _ (by rw [multL_len, multL_len, hy, hu])] at e3
  exact sub_zero x y hxy (form_zero h hu (by omega))
theorem dot_zeroL : ∀ r u : List Int, (∀ z ∈ r, z = 0) → dotL r u = 0
  | [], u, _ => dotL_nil u
  | a :: r, [], _ => rfl
  | a :: r, b :: u, h => by
    rw [show dotL (a :: r) (b :: u) = a * b + dotL r u from rfl, dot_zeroL r u (fun z hz => h z (by simp [hz])), h a (by simp)]; simp
/-- The residual 0 has the least cost. -/
theorem cost_least {S : Sy} (h : SyOk S) {x y : List Int} (hx : x.length = S.n) (hy : y.length = S.n) (h0 : ∀ z ∈ resL S x, z = 0) : costL S x ≤ costL S y := by
  have hu : (subL y x).length = S.n := by simp [subL]; omega
  have e := cost_add h hx hu
  rw [add_sub y x (by omega), dot_zeroL _ _ h0] at e
  have h1 := form_ge h hu
  have h2 := dot_nn (subL y x)
  have ha : 1 ≤ S.a := by have := h.1; unfold PrOk at this; omega
  have h3 := Int.mul_nonneg (show 0 ≤ S.a by omega) h2
  omega
end Go.Proofs.YtblgchhmcifdgaaGreatDoor
