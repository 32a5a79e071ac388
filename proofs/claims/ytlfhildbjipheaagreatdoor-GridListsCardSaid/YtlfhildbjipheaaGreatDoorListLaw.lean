import Derived.Test.YtlfhildbjipheaaGreatDoorListA
import Derived.Test.YtlfhildbjipheaaGreatDoorKInts
import Derived.Test.YtlfhildbjipheaaGreatDoorKSrc
import Derived.Test.YtlfhildbjipheaaGreatDoorAwake03
import Derived.BigQuiet
set_option linter.unusedSimpArgs false
set_option linter.unusedVariables false
namespace Go.Proofs.YtlfhildbjipheaaGreatDoor
open Go.RowKit Go.Grid Go.Maps Go.Sort Go.Shelf

theorem onF_len {α : Type} {x : Int} {L : Nat → List α} {B : Nat} (h : ∀ n, 1 ≤ n → n ≤ 8 → (L n).length ≤ B) : (onF x L).length ≤ B := by
  unfold onF
  split
  · exact h _ (by omega) (by omega)
  · simp
/-- keep.Ints of two slices that hold the same numbers. -/
theorem kints_same (v u : Value) (zs : List Int) (w : World) (h1 : RdI w v zs) (h2 : RdI w u zs) (hl : zs.length ≤ 1000) : Calls Tryz.prog 18 #[v, u] w fun e w' => e = .returned (.bool true) ∧ Below w.heap.size w w' := by
  obtain ⟨p, c, rfl, _, hv⟩ := h1
  obtain ⟨q, d, rfl, _, hu⟩ := h2
  refine (kints_len p q zs zs c d w hv hu rfl (by omega)).mono ?_
  rintro e w' ⟨rfl, hb⟩
  exact ⟨by simp, hb⟩
set_option maxRecDepth 100000 in
set_option maxHeartbeats 4000000 in
theorem lists_law (W : World) (n0 node k : Int) (hk1 : -9223372036854775808 ≤ k) (hk2 : k ≤ 9223372036854775807) (hn1 : -9223372036854775808 ≤ node) (hn2 : node ≤ 9223372036854775807) (hT : HasTab W) :
    Calls Tryz.prog 3 #[.int .i64 n0, .int .i64 node, .int .i64 k] W fun e w' => e = .returned (.bool true) ∧ Below W.heap.size W w' := by
  obtain ⟨m, hm⟩ : ∃ m : Nat, 1 + k % 8 = (m : Int) := ⟨(1 + k % 8).toNat, by omega⟩
  have hm1 : 1 ≤ m := by omega
  have hm8 : m ≤ 8 := by omega
  obtain ⟨xs, hxs⟩ : ∃ xs : Nat → Int, xs = fun j => if j = 0 then n0 else (m : Int) := ⟨_, rfl⟩
  have HX0 : Hid (xs 0 = n0) := Lib.hid (by rw [hxs]; rfl)
  have HX1 : Hid (xs 1 = (m : Int)) := Lib.hid (by rw [hxs]; rfl)
  clear hxs
  obtain ⟨c, hc⟩ : ∃ c, c = countI (m : Int) := ⟨_, rfl⟩
  have hc1 : 1 ≤ c ∧ c ≤ 642 := by have := countI_nat hm1 hm8; omega
  have HC := Lib.hid hc
  clear hc
  go_enter Tryz.func3, Tryz.ntmps3
  go_wp2_with fail
  refine (kmod_any k 8 W hk1 hk2 (by omega) (by omega)).mono ?_
  rintro e w1 ⟨rfl, rfl⟩
  go_wp2
  clear hm hk1 hk2
  refine absW (F := fun w' => (∀ j, j < 2 → w'.cell? ⟨W.heap.size, j, none⟩ = some (.int .i64 (xs j))) ∧ Below W.heap.size W w') ⟨?_, ?_⟩ ?_
  · intro j hj
    rw [RX.cell_alloc, if_pos rfl]
    rcases j with _ | _ | j
    · rw [HX0.out]; rfl
    · rw [HX1.out]; rfl
    · omega
  · exact (Below.refl _ _).alloc (Nat.le_refl _) _
  rintro W1 ⟨hcs, hb1⟩
  have HCS := Lib.hid hcs
  have HB1 := Lib.hid hb1
  have hbl : W.heap.size < W1.heap.size := World.block_lt_of_cell? _ _ (hcs 0 (by omega))
  clear hcs hb1
  go_loopw [38] (fun i wr => ∃ j : Nat, j ≤ 2 ∧ i = .int .i64 j ∧ Below W1.heap.size W1 wr) (fun i _ => 2 - (intOf i).toNat)
  case atStart => exact ⟨0, by omega, rfl, Below.refl _ _⟩
  case round =>
    obtain ⟨j, hj, rfl, hB⟩ := hrel
    by_cases hlt : j < 2
    · have hdk : decide ((j : Int) < 2) = true := decide_eq_true (by omega)
      have hxc := RX.keep hB (HCS.out j hlt)
      obtain ⟨x, hx⟩ : ∃ x, x = xs j := ⟨_, rfl⟩
      rw [← hx] at hxc
      clear hx
      have hj0 : (0 : Int) ≤ (j : Int) := by omega
      have hj2 : (j : Int) < 2 := by omega
      obtain ⟨A, hA⟩ : ∃ A, A = onF x nodesL := ⟨_, rfl⟩
      obtain ⟨C, hC⟩ : ∃ C, C = onF x cellsS := ⟨_, rfl⟩
      obtain ⟨E, hE⟩ : ∃ E, E = onF x edgesL := ⟨_, rfl⟩
      have hAl : A.length ≤ 642 := by rw [hA]; exact onF_len (fun n h1 h8 => nodes_max h1 h8)
      have hCl : C.length ≤ 5000 := by rw [hC]; exact onF_len (fun n h1 h8 => cellsS_len h8)
      have hEl : E.length ≤ 15000 := by rw [hE]; exact onF_len (fun n h1 h8 => edges_len h8)
      have HLL := Lib.hid (And.intro hA (And.intro hC hE))
      clear hA hC hE
      obtain ⟨er, her⟩ : ∃ er, er = fErr x := ⟨_, rfl⟩
      have HER := Lib.hid her
      clear her
      have hT1 : HasTab wr := hT.below (HB1.out.trans (hB.mono HB1.out.size))
      go_wp2_with fail
      refine (gnodesA x _ hT1).mono ?_
      rintro e w2 ⟨v2, rfl, hp2, hb2⟩
      rw [← HLL.out.1] at hp2
      rw [← HER.out]
      have HG2 := Lib.hid hb2
      clear hxc
      go_wp2_with fail
      refine (rnodesA x _).mono ?_
      rintro e w3 ⟨v3, rfl, hp3, hb3⟩
      rw [← HLL.out.1] at hp3
      rw [← HER.out]
      replace hp2 := hp2.below hb3
      replace hb3 := HG2.out.trans (hb3.mono HG2.out.size)
      have HG3 := Lib.hid hb3
      have hT3 := hT1.below hb3
      clear hb2 hb3 HG2
      go_wp2_with fail
      refine (gcellsA x _ hT3).mono ?_
      rintro e w4 ⟨v4, rfl, hp4, hb4⟩
      rw [← HLL.out.2.1] at hp4
      rw [← HER.out]
      replace hp2 := hp2.below hb4
      replace hp3 := hp3.below hb4
      replace hb4 := HG3.out.trans (hb4.mono HG3.out.size)
      have HG4 := Lib.hid hb4
      clear hb4 HG3
      go_wp2_with fail
      refine (rcellsA x _).mono ?_
      rintro e w5 ⟨v5, rfl, hp5, hb5⟩
      rw [← HLL.out.2.1] at hp5
      rw [← HER.out]
      replace hp2 := hp2.below hb5
      replace hp3 := hp3.below hb5
      replace hp4 := hp4.below hb5
      replace hb5 := HG4.out.trans (hb5.mono HG4.out.size)
      have HG5 := Lib.hid hb5
      clear hb5 HG4 hT3 hT1
      obtain ⟨p2, c2, b2, rfl, hc2, hq2, hr2⟩ := hp2
      obtain ⟨p3, c3, b3, rfl, hc3, hq3, hr3⟩ := hp3
      obtain ⟨p4, c4, b4, rfl, hc4, hq4, hr4⟩ := hp4
      obtain ⟨p5, c5, b5, rfl, hc5, hq5, hr5⟩ := hp5
      have HR2 := Lib.hid hr2
      have HR3 := Lib.hid hr3
      have HR4 := Lib.hid hr4
      have HR5 := Lib.hid hr5
      clear hr2 hr3 hr4 hr5
      go_wp2
      go_loopw [18] (fun i wx => ∃ t : Nat, t ≤ A.length ∧ i = .int .i64 t ∧ Below w5.heap.size w5 wx) (fun i _ => A.length - (intOf i).toNat)
      case atStart => exact ⟨0, by omega, rfl, Below.refl _ _⟩
      case round =>
        obtain ⟨t, ht, rfl, hb⟩ := hrel
        by_cases hlt2 : t < A.length
        · have hdt : decide ((t : Int) < (A.length : Int)) = true := decide_eq_true (by omega)
          obtain ⟨x0, x1, x2, x3⟩ := HR2.out t hlt2
          obtain ⟨y0, y1, y2, y3⟩ := HR3.out t hlt2
          obtain rfl := hq2 (by omega)
          obtain rfl := hq3 (by omega)
          replace x0 := RX.keep hb x0
          replace y0 := RX.keep hb y0
          replace x1 := RX.keep hb x1
          replace y1 := RX.keep hb y1
          replace x2 := RX.keep hb x2
          replace y2 := RX.keep hb y2
          replace x3 := RX.keep hb x3
          replace y3 := RX.keep hb y3
          generalize A[t] = P at *
          have ht0 : (0 : Int) ≤ (t : Int) := by omega
          have htl : (t : Int) < (A.length : Int) := by omega
          have HB := Lib.hid hb
          clear hb
          go_wp2
          refine RX.region RX.fL (fun w' => w' = _) (by kernel_rfl) (by kernel_rfl) rfl (fun OPS HO QR hQR => ?_)
          repeat
            refine RX.step (fun R hR => ?_)
            first
            | (refine RX.one_skip (by first | rfl | (rw [HO.out]; rfl)) (by simp only [RX.put_some, RX.put_none, List.set_cons_zero, List.set_cons_succ]; rfl) ?_
               refine hR _ _ ?_; clear hR R)
            | (refine RX.one_move (by first | rfl | (rw [HO.out]; rfl)) rfl (by first | exact Or.inl rfl | exact Or.inr rfl) (by simp only [RX.eval_tmp, RX.eval_const, List.getD_cons_zero, List.getD_cons_succ]; rfl) (by simp only [RX.put_some, RX.put_none, List.set_cons_zero, List.set_cons_succ]; rfl) ?_
               refine hR _ _ ?_; clear hR R)
            | (refine RX.one_nil (by first | rfl | (rw [HO.out]; rfl)) rfl rfl (by simp only [RX.eval_tmp, RX.eval_const, List.getD_cons_zero, List.getD_cons_succ]; rfl) (by simp only [RX.put_some, RX.put_none, List.set_cons_zero, List.set_cons_succ]; rfl) ?_
               refine hR _ _ ?_; clear hR R)
            | (refine RX.one_float (by first | rfl | (rw [HO.out]; rfl)) rfl rfl rfl ?_
               apply Exists.intro; apply Exists.intro
               refine ⟨fun w' hS K hK => ?_, ?_, ?_⟩
               · subst hS; go_wp2; exact hK _ _ (by simp only [RX.arr_getD, List.getD_cons_zero, List.getD_cons_succ]; first | exact RX.dec_t (by omega) | exact RX.dec_f (by omega) | exact RX.beq_t (by omega) | exact RX.beq_f (by omega) | exact RX.bne_t (by omega) | exact RX.bne_f (by omega) | exact RX.bneB _ | rfl) rfl
               · simp only [RX.put_some, RX.put_none, List.set_cons_zero, List.set_cons_succ]; rfl
               refine hR _ _ ?_; clear hR R)
          refine RX.wpL_nil (hQR _ _ rfl ?_); clear hQR QR HO OPS
          go_wp2
          go_roundw
          case rel => exact ⟨t + 1, by omega, by go_num, HB.out.drew⟩
          case measure => simp [intOf]; omega
        · have hdt : decide ((t : Int) < (A.length : Int)) = false := decide_eq_false (by omega)
          have HB := Lib.hid hb
          clear hb
          go_wp2
          go_loopw [19] (fun i wx => ∃ t : Nat, t ≤ C.length ∧ i = .int .i64 t ∧ Below w5.heap.size w5 wx) (fun i _ => C.length - (intOf i).toNat)
          case atStart => exact ⟨0, by omega, rfl, HB.out⟩
          case round =>
            obtain ⟨t, ht, rfl, hb⟩ := hrel
            by_cases hlt2 : t < C.length
            · have hdt : decide ((t : Int) < (C.length : Int)) = true := decide_eq_true (by omega)
              obtain ⟨x0, x1, x2⟩ := HR4.out t hlt2
              obtain ⟨y0, y1, y2⟩ := HR5.out t hlt2
              obtain rfl := hq4 (by omega)
              obtain rfl := hq5 (by omega)
              replace x0 := RX.keep hb x0
              replace y0 := RX.keep hb y0
              replace x1 := RX.keep hb x1
              replace y1 := RX.keep hb y1
              replace x2 := RX.keep hb x2
              replace y2 := RX.keep hb y2
              generalize C[t] = P at *
              have ht0 : (0 : Int) ≤ (t : Int) := by omega
              have htl : (t : Int) < (C.length : Int) := by omega
              have HB := Lib.hid hb
              clear hb
              go_wp2
              refine RX.region RX.fL (fun w' => w' = _) (by kernel_rfl) (by kernel_rfl) rfl (fun OPS HO QR hQR => ?_)
              repeat
                refine RX.step (fun R hR => ?_)
                first
                | (refine RX.one_skip (by first | rfl | (rw [HO.out]; rfl)) (by simp only [RX.put_some, RX.put_none, List.set_cons_zero, List.set_cons_succ]; rfl) ?_
                   refine hR _ _ ?_; clear hR R)
                | (refine RX.one_move (by first | rfl | (rw [HO.out]; rfl)) rfl (by first | exact Or.inl rfl | exact Or.inr rfl) (by simp only [RX.eval_tmp, RX.eval_const, List.getD_cons_zero, List.getD_cons_succ]; rfl) (by simp only [RX.put_some, RX.put_none, List.set_cons_zero, List.set_cons_succ]; rfl) ?_
                   refine hR _ _ ?_; clear hR R)
                | (refine RX.one_nil (by first | rfl | (rw [HO.out]; rfl)) rfl rfl (by simp only [RX.eval_tmp, RX.eval_const, List.getD_cons_zero, List.getD_cons_succ]; rfl) (by simp only [RX.put_some, RX.put_none, List.set_cons_zero, List.set_cons_succ]; rfl) ?_
                   refine hR _ _ ?_; clear hR R)
                | (refine RX.one_float (by first | rfl | (rw [HO.out]; rfl)) rfl rfl rfl ?_
                   apply Exists.intro; apply Exists.intro
                   refine ⟨fun w' hS K hK => ?_, ?_, ?_⟩
                   · subst hS; go_wp2; exact hK _ _ (by simp only [RX.arr_getD, List.getD_cons_zero, List.getD_cons_succ]; first | exact RX.dec_t (by omega) | exact RX.dec_f (by omega) | exact RX.beq_t (by omega) | exact RX.beq_f (by omega) | exact RX.bne_t (by omega) | exact RX.bne_f (by omega) | exact RX.bneB _ | rfl) rfl
                   · simp only [RX.put_some, RX.put_none, List.set_cons_zero, List.set_cons_succ]; rfl
                   refine hR _ _ ?_; clear hR R)
              refine RX.wpL_nil (hQR _ _ rfl ?_); clear hQR QR HO OPS
              go_wp2
              go_roundw
              case rel => exact ⟨t + 1, by omega, by go_num, HB.out.drew⟩
              case measure => simp [intOf]; omega
            · have hdt : decide ((t : Int) < (C.length : Int)) = false := decide_eq_false (by omega)
              have HB := Lib.hid hb
              clear hb
              have hb15 : Below W1.heap.size W1 w5 := hB.trans (HG5.out.mono hB.size)
              have hb1r : Below W1.heap.size W1 wr := hb15.trans (HB.out.mono hb15.size)
              have hT6 : HasTab wr := hT.below (HB1.out.trans (hb1r.mono HB1.out.size))
              go_wp2_with fail
              refine (gedgesA x _ hT6).mono ?_
              rintro e w6 ⟨v6, rfl, hp6, hb6⟩
              rw [← HLL.out.2.2] at hp6
              rw [← HER.out]
              have H16 := Lib.hid (hb1r.trans (hb6.mono hb1r.size))
              clear hb6 hb15 hb1r hT6
              go_wp2_with fail
              refine (redgesA x _).mono ?_
              rintro e w7 ⟨v7, rfl, hp7, hb7⟩
              rw [← HLL.out.2.2] at hp7
              rw [← HER.out]
              replace hp6 := hp6.below hb7
              have H17 := Lib.hid (H16.out.trans (hb7.mono H16.out.size))
              clear hb7 H16
              obtain ⟨p6, c6, b6, rfl, hc6, hq6, hr6⟩ := hp6
              obtain ⟨p7, c7, b7, rfl, hc7, hq7, hr7⟩ := hp7
              have HR6 := Lib.hid hr6
              have HR7 := Lib.hid hr7
              clear hr6 hr7
              go_wp2
              go_loopw [24] (fun i wx => ∃ t : Nat, t ≤ E.length ∧ i = .int .i64 t ∧ Below w7.heap.size w7 wx) (fun i _ => E.length - (intOf i).toNat)
              case atStart => exact ⟨0, by omega, rfl, Below.refl _ _⟩
              case round =>
                obtain ⟨t, ht, rfl, hb⟩ := hrel
                by_cases hlt2 : t < E.length
                · have hdt : decide ((t : Int) < (E.length : Int)) = true := decide_eq_true (by omega)
                  obtain ⟨x0, x1⟩ := HR6.out t hlt2
                  obtain ⟨y0, y1⟩ := HR7.out t hlt2
                  obtain rfl := hq6 (by omega)
                  obtain rfl := hq7 (by omega)
                  replace x0 := RX.keep hb x0
                  replace y0 := RX.keep hb y0
                  replace x1 := RX.keep hb x1
                  replace y1 := RX.keep hb y1
                  generalize E[t] = P at *
                  have ht0 : (0 : Int) ≤ (t : Int) := by omega
                  have htl : (t : Int) < (E.length : Int) := by omega
                  have HB := Lib.hid hb
                  clear hb
                  go_wp2
                  refine RX.region RX.fL (fun w' => w' = _) (by kernel_rfl) (by kernel_rfl) rfl (fun OPS HO QR hQR => ?_)
                  repeat
                    refine RX.step (fun R hR => ?_)
                    first
                    | (refine RX.one_skip (by first | rfl | (rw [HO.out]; rfl)) (by simp only [RX.put_some, RX.put_none, List.set_cons_zero, List.set_cons_succ]; rfl) ?_
                       refine hR _ _ ?_; clear hR R)
                    | (refine RX.one_move (by first | rfl | (rw [HO.out]; rfl)) rfl (by first | exact Or.inl rfl | exact Or.inr rfl) (by simp only [RX.eval_tmp, RX.eval_const, List.getD_cons_zero, List.getD_cons_succ]; rfl) (by simp only [RX.put_some, RX.put_none, List.set_cons_zero, List.set_cons_succ]; rfl) ?_
                       refine hR _ _ ?_; clear hR R)
                    | (refine RX.one_nil (by first | rfl | (rw [HO.out]; rfl)) rfl rfl (by simp only [RX.eval_tmp, RX.eval_const, List.getD_cons_zero, List.getD_cons_succ]; rfl) (by simp only [RX.put_some, RX.put_none, List.set_cons_zero, List.set_cons_succ]; rfl) ?_
                       refine hR _ _ ?_; clear hR R)
                    | (refine RX.one_float (by first | rfl | (rw [HO.out]; rfl)) rfl rfl rfl ?_
                       apply Exists.intro; apply Exists.intro
                       refine ⟨fun w' hS K hK => ?_, ?_, ?_⟩
                       · subst hS; go_wp2; exact hK _ _ (by simp only [RX.arr_getD, List.getD_cons_zero, List.getD_cons_succ]; first | exact RX.dec_t (by omega) | exact RX.dec_f (by omega) | exact RX.beq_t (by omega) | exact RX.beq_f (by omega) | exact RX.bne_t (by omega) | exact RX.bne_f (by omega) | exact RX.bneB _ | rfl) rfl
                       · simp only [RX.put_some, RX.put_none, List.set_cons_zero, List.set_cons_succ]; rfl
                       refine hR _ _ ?_; clear hR R)
                  refine RX.wpL_nil (hQR _ _ rfl ?_); clear hQR QR HO OPS
                  go_wp2
                  go_roundw
                  case rel => exact ⟨t + 1, by omega, by go_num, HB.out.drew⟩
                  case measure => simp [intOf]; omega
                · have hdt : decide ((t : Int) < (E.length : Int)) = false := decide_eq_false (by omega)
                  have HB := Lib.hid hb
                  clear hb
                  go_wp2_with fail
                  refine (rcount_any m _).mono ?_
                  rintro e w8 ⟨rfl, rfl⟩
                  rw [← HC.out]
                  go_wp2_with fail
                  refine (kmod_any node c _ hn1 hn2 hc1.1 (by omega)).mono ?_
                  rintro e w8 ⟨rfl, rfl⟩
                  obtain ⟨z, hz⟩ : ∃ z, z = node % c := ⟨_, rfl⟩
                  rw [← hz]
                  clear hz
                  obtain ⟨ys, hys⟩ : ∃ ys : Nat → Int, ys = fun j => if j = 0 then node else z := ⟨_, rfl⟩
                  have HY0 : Hid (ys 0 = node) := Lib.hid (by rw [hys]; rfl)
                  have HY1 : Hid (ys 1 = z) := Lib.hid (by rw [hys]; rfl)
                  clear hys
                  go_wp2
                  refine absW (F := fun w' => (∀ j, j < 2 → w'.cell? ⟨wr.heap.size, j, none⟩ = some (.int .i64 (ys j))) ∧ Below wr.heap.size wr w') ⟨?_, ?_⟩ ?_
                  · intro j hj
                    rw [RX.cell_alloc, if_pos rfl]
                    rcases j with _ | _ | j
                    · rw [HY0.out]; rfl
                    · rw [HY1.out]; rfl
                    · omega
                  · exact (Below.refl _ _).alloc (Nat.le_refl _) _
                  rintro W9 ⟨hys, hb9⟩
                  have HYS := Lib.hid hys
                  have hl9 : wr.heap.size < W9.heap.size := World.block_lt_of_cell? _ _ (hys 0 (by omega))
                  have h79 : Below w7.heap.size w7 W9 := HB.out.trans (hb9.mono HB.out.size)
                  have H19 : Hid (Below W1.heap.size W1 W9) := Lib.hid (H17.out.trans (h79.mono H17.out.size))
                  clear hys hb9 h79
                  obtain ⟨B9, hB9⟩ : ∃ B, B = wr.heap.size := ⟨_, rfl⟩
                  rw [← hB9] at HYS hl9 ⊢
                  clear hB9
                  go_loopw [156] (fun i wx => ∃ t : Nat, t ≤ 2 ∧ i = .int .i64 t ∧ Below W9.heap.size W9 wx) (fun i _ => 2 - (intOf i).toNat)
                  case atStart => exact ⟨0, by omega, rfl, Below.refl _ _⟩
                  case round =>
                    obtain ⟨t, ht, rfl, hb⟩ := hrel
                    by_cases hlt2 : t < 2
                    · have hdt : decide ((t : Int) < 2) = true := decide_eq_true (by omega)
                      have hyc := RX.keep hb (HYS.out t hlt2)
                      obtain ⟨y, hy⟩ : ∃ y, y = ys t := ⟨_, rfl⟩
                      rw [← hy] at hyc
                      clear hy
                      have ht0 : (0 : Int) ≤ (t : Int) := by omega
                      have htl : (t : Int) < 2 := by omega
                      have hT9 : HasTab wr := hT.below (HB1.out.trans ((H19.out.trans (hb.mono H19.out.size)).mono HB1.out.size))
                      go_wp2_with fail
                      refine (gneighA x y _ hT9).mono ?_
                      rintro e wa ⟨va, rfl, hra, hba⟩
                      go_wp2_with fail
                      refine (rneighA x y _).mono ?_
                      rintro e wb ⟨vb, rfl, hrb, hbb⟩
                      replace hra := hra.below hbb
                      have hbw : Below W9.heap.size W9 wb := hb.trans ((hba.trans (hbb.mono hba.size)).mono hb.size)
                      have HBW := Lib.hid hbw
                      clear hb hba hbb hbw hyc
                      go_wp2_with fail
                      refine (kints_same va vb (nbL x y) wb hra hrb (by have := nbL_len x y; omega)).mono ?_
                      rintro e wc ⟨rfl, hbc⟩
                      have HBC := Lib.hid (HBW.out.trans (hbc.mono HBW.out.size))
                      clear hbc hra hrb
                      go_wp2
                      go_roundw
                      case rel => exact ⟨t + 1, by omega, by go_num, HBC.out⟩
                      case measure => simp [intOf]; omega
                    · have hdt : decide ((t : Int) < 2) = false := decide_eq_false (by omega)
                      have HB := Lib.hid (H19.out.trans (hb.mono H19.out.size))
                      clear hb
                      go_wp2
                      go_roundw
                      case rel => exact ⟨j + 1, by omega, by go_num, HB.out⟩
                      case measure => simp [intOf]; omega
    · have hdk : decide ((j : Int) < 2) = false := decide_eq_false (by omega)
      have HB := Lib.hid (HB1.out.trans (hB.mono HB1.out.size))
      clear hB
      go_wp2_with fail
      refine (awake03_any _ (hT.below HB.out)).mono ?_
      rintro e w2 ⟨rfl, hb2⟩
      have HB2 := Lib.hid (HB.out.trans (hb2.mono HB.out.size))
      clear hb2
      go_wp2
      go_ret
      exact ⟨rfl, HB2.out⟩
end Go.Proofs.YtlfhildbjipheaaGreatDoor
