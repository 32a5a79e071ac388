import Derived.Test.YtlfhildbjipheaaGreatDoorLocQ
import Derived.Test.YtlfhildbjipheaaGreatDoorHops
import Derived.Test.YtlfhildbjipheaaGreatDoorKSrc
import Derived.Test.YtlfhildbjipheaaGreatDoorShares
import Derived.Test.YtlfhildbjipheaaGreatDoorAwake03
import Derived.Test.YtlfhildbjipheaaGreatDoorKRegion
set_option linter.unusedSimpArgs false
set_option linter.unusedVariables false
namespace Go.Proofs.YtlfhildbjipheaaGreatDoor
open Go.RowKit Go.Grid Go.Maps Go.Sort Go.Shelf

/-- The sums of the corners' weights so far: i shares done, of the next one t vertices. -/
def wSo (n : Nat) (S : List (Nat × Nat)) (i t v : Nat) : Int := if v < t then (wdot n v (S.take (i + 1)) : Nat) else (wdot n v (S.take i) : Nat)
theorem wdot_take {n v : Nat} {S : List (Nat × Nat)} {i : Nat} (hi : i < S.length) : wdot n v (S.take (i + 1)) = wdot n v (S.take i) + S[i].2 * wt ((nodesL n).getD S[i].1 ⟨0, 0, 0, 0⟩) v := by
  unfold wdot
  rw [List.take_succ_eq_append_getElem hi, List.map_append, List.sum_append]
  simp
theorem wsum_eq : ∀ S : List (Nat × Nat), wsum S = (S.map (fun c => c.2)).sum
  | [] => rfl
  | c :: S => by simp [wsum, wsum_eq S]
theorem wsum_perm {S T : List (Nat × Nat)} (h : S.Perm T) : wsum S = wsum T := by rw [wsum_eq, wsum_eq]; exact (h.map _).sum_nat
theorem wsum_take {S : List (Nat × Nat)} {i : Nat} (hi : i < S.length) : wsum (S.take (i + 1)) = wsum (S.take i) + S[i].2 := by
  rw [wsum_eq, wsum_eq, List.take_succ_eq_append_getElem hi, List.map_append, List.sum_append]; simp
theorem sum_take_le (l : List Nat) (j : Nat) : (l.take j).sum ≤ l.sum := by
  have h : (l.take j ++ l.drop j).sum = l.sum := by rw [List.take_append_drop]
  rw [List.sum_append] at h
  omega
theorem wsum_le (S : List (Nat × Nat)) (j : Nat) : wsum (S.take j) ≤ wsum S := by
  rw [wsum_eq, wsum_eq, List.map_take]; exact sum_take_le _ _
theorem wdot_le (n v : Nat) (S : List (Nat × Nat)) (j : Nat) : wdot n v (S.take j) ≤ wdot n v S := by
  unfold wdot; rw [List.map_take]; exact sum_take_le _ _
set_option maxRecDepth 100000
set_option maxHeartbeats 4000000 in
theorem locates_law (W : World) (q : Option Addr) (cap : Nat) (L : List Int) (hV : VecAt W q L) (hI : I64L L) (hl : L.length ≤ cap) (hc : cap ≤ 9223372036854775807) (hT : HasTab W) :
    Calls Tryz.prog 5 #[.slice q L.length cap] W fun e w' => e = .returned (.bool true) ∧ Below W.heap.size W w' := by
  go_enter Tryz.func5, Tryz.ntmps5
  go_wp2_with fail
  refine (knew_any q cap L W hV hI hl hc).mono ?_
  rintro e w1 ⟨rfl, hb, b0, hblt, hs⟩
  clear hV hI
  generalize min L.length 2000 = N at *
  go_wp2_with fail
  refine (srcRange_any w1 W.heap.size b0 N 0 1 5 hs (by omega) (by omega) (by omega)).mono ?_
  rintro e w2 ⟨ni, rfl, hn1, hn5, hg2, i2, hs2⟩
  obtain ⟨n, rfl⟩ : ∃ n : Nat, ni = n := ⟨ni.toNat, by omega⟩
  replace hb := hb.grown hg2 hb.size (fun k hk => by injection hk with hk; omega)
  clear hg2 hs
  have h1 : 1 ≤ n := by omega
  have h8 : n ≤ 8 := by omega
  have hn840 := hh_mul h1 h8
  go_wp2_with fail
  refine (somewhere_any w2 W.heap.size b0 N i2 hs2 (fun h0 => by have := hblt h0; have := hb.size; omega)).mono ?_
  rintro e w3 ⟨p, rfl, hp, hg3, i3, hs3⟩
  replace hb := hb.grown hg3 hb.size (fun k hk => by injection hk with hk; omega)
  clear hg3 hs2 hs3 hblt
  have HP := Lib.hid hp
  have HN := Lib.hid hn840
  have hpv : Hid (pv p = .agg #[.int .i64 p.f, .int .i64 p.a, .int .i64 p.b, .int .i64 p.c]) := Lib.hid rfl
  rw [hpv.out]
  clear hp hn840
  go_wp2_with fail
  rw [← hpv.out]
  have hb4 := hb.alloc hb.size (.cells #[.int .i64 p.f, .int .i64 p.a, .int .i64 p.b, .int .i64 p.c] 32)
  have c0 : (w3.alloc (.cells #[.int .i64 p.f, .int .i64 p.a, .int .i64 p.b, .int .i64 p.c] 32)).cell? ⟨w3.heap.size, 0, none⟩ = some (.int .i64 p.f) := (by simp [RX.cell_drew, RX.cell_alloc, Nat.add_assoc])
  have c1 : (w3.alloc (.cells #[.int .i64 p.f, .int .i64 p.a, .int .i64 p.b, .int .i64 p.c] 32)).cell? ⟨w3.heap.size, 1, none⟩ = some (.int .i64 p.a) := (by simp [RX.cell_drew, RX.cell_alloc, Nat.add_assoc])
  have c2 : (w3.alloc (.cells #[.int .i64 p.f, .int .i64 p.a, .int .i64 p.b, .int .i64 p.c] 32)).cell? ⟨w3.heap.size, 2, none⟩ = some (.int .i64 p.b) := (by simp [RX.cell_drew, RX.cell_alloc, Nat.add_assoc])
  have c3 : (w3.alloc (.cells #[.int .i64 p.f, .int .i64 p.a, .int .i64 p.b, .int .i64 p.c] 32)).cell? ⟨w3.heap.size, 3, none⟩ = some (.int .i64 p.c) := (by simp [RX.cell_drew, RX.cell_alloc, Nat.add_assoc])
  generalize (w3.alloc (.cells #[.int .i64 p.f, .int .i64 p.a, .int .i64 p.b, .int .i64 p.c] 32)) = w4 at *
  have hW3 := hb.size
  clear hb
  refine (glocate_any n h1 h8 p HP.out w4 (hT.below hb4)).mono ?_
  rintro e w5 ⟨xb, xc, S, hS, rfl, hxc, hat, hb5⟩
  replace c0 := RX.keep hb5 c0
  replace c1 := RX.keep hb5 c1
  replace c2 := RX.keep hb5 c2
  replace c3 := RX.keep hb5 c3
  replace hb5 := hb4.trans (hb5.mono hb4.size)
  have HS := Lib.hid hS
  clear hS hb4
  go_wp2_with fail
  refine (gnodes_any n h1 h8 w5 (hT.below hb5)).mono ?_
  rintro e w6 ⟨nb, ncap, rfl, hncap, hown, hb6⟩
  obtain ⟨_, _, nb', e9, _, hnb', hNP⟩ := PlRow.form hown
  have hSne : S ≠ [] := fun h => loc_ne h1 HN.out HP.out (List.perm_nil.1 (h ▸ HS.out.1).symm)
  have hS0 : 0 < S.length := List.length_pos_iff.2 hSne
  have hSl : S.length ≤ 3 := by
    rw [HS.out.1.length_eq]
    unfold locRaw
    rw [List.length_map]
    refine Nat.le_trans (List.length_filter_le _ _) ?_
    unfold locAll
    dsimp only
    split
    · simp
    · split <;> simp
  injection e9 with e9 _ _
  have hM0 : 0 < (nodesL n).length := by rw [nodes_len h1 h8]; omega
  have hnbe : nb = nb' := by
    have h9 := (hnb' hM0).1
    rw [h9] at e9
    injection e9 with e9
    injection e9
  subst hnbe
  clear e9 hnb' hown
  have hat6 : SharesAt w6 xb S := fun k hk => ⟨RX.keep hb6 (hat k hk).1, RX.keep hb6 (hat k hk).2⟩
  replace c0 := RX.keep hb6 c0
  replace c1 := RX.keep hb6 c1
  replace c2 := RX.keep hb6 c2
  replace c3 := RX.keep hb6 c3
  replace hb6 := hb5.trans (hb6.mono hb5.size)
  have HB6 := Lib.hid hb6
  have HAT := Lib.hid hat6
  have HNP := Lib.hid hNP
  have HSW : Hid (∀ x ∈ S, x.1 < (nodesL n).length ∧ 0 < x.2 ∧ x.2 ≤ 840) := Lib.hid (fun x hx => loc_nodes h1 HN.out HP.out x (HS.out.1.mem_iff.1 hx))
  have HASC := Lib.hid HS.out.2
  have hM642 := nodes_max h1 h8
  have HC := Lib.hid (And.intro c0 (And.intro c1 (And.intro c2 c3)))
  have hlt3 : w3.heap.size < w6.heap.size := World.block_lt_of_cell? _ _ c0
  clear hb5 hb6 hat hat6 hNP c0 c1 c2 c3 hSne
  have HSUMS : Hid (wsum S = 840) := Lib.hid (by rw [wsum_perm HS.out.1]; exact loc_sum h1 HN.out HP.out)
  have HLIN : Hid (∀ v, v < 12 → wdot n v S = 840 * wt p v) := Lib.hid (fun v hv => by rw [wdot_perm HS.out.1]; exact loc_lin h1 HN.out HP.out hv)
  have HWB : Hid (∀ v j, v < 12 → wdot n v (S.take j) ≤ 705600) := Lib.hid (fun v j hv => by
    have a := wdot_le n v S j
    rw [HLIN.out v hv] at a
    have b := wt_le HP.out v
    omega)
  obtain ⟨M, hM⟩ : ∃ M, M = (nodesL n).length := ⟨_, rfl⟩
  rw [← hM] at hncap hM0 hM642 HSW
  rw [← hM]
  have HM := Lib.hid hM
  clear hM
  have hS00 : ((S.length : Int) == 0) = false := by rw [beq_eq_false_iff_ne]; omega
  go_wp2
  clear hS00
  obtain ⟨g, hg⟩ : ∃ g, g = w6.heap.size := ⟨_, rfl⟩
  have KEEP : Hid (∀ wx, Below g w6 wx → ∀ p v, w6.cell? p = some v → wx.cell? p = some v) := Lib.hid (fun wx hb p v h => RX.keep (by rw [← hg]; exact hb) h)
  rw [← hg]
  refine absW (F := fun w' => FRow w' g 12 (wSo n S 0 0) ∧ Below g w6 w' ∧ g < w'.heap.size) ⟨?_, ?_, ?_⟩ ?_
  · intro v hv
    rw [hg, RX.cell_alloc, if_pos rfl, z12 v hv, RX.frozen_alloc, if_pos rfl]
    exact ⟨by simp [wSo, wdot], rfl⟩
  · rw [hg]; exact (Below.refl _ _).alloc (Nat.le_refl _) _
  · rw [hg]; simp
  rintro W7 ⟨hF7, hb7, hg7⟩
  have hg3 : w3.heap.size < g := by omega
  have hWg : W.heap.size ≤ g := by have := HB6.out.size; omega
  have HBW : Hid (∀ wx, Below g w6 wx → Below W.heap.size W wx) := Lib.hid (fun wx hb => HB6.out.trans (hb.mono hWg))
  clear hg
  go_loopw [10, 62] (fun s i wr => ∃ j : Nat, j ≤ S.length ∧ i = .int .i64 j ∧ s = .int .i64 ((wsum (S.take j) : Nat) : Int) ∧ FRow wr g 12 (wSo n S j 0) ∧ Below g w6 wr ∧ g < wr.heap.size) (fun _ i _ => S.length - (intOf i).toNat)
  case atStart => exact ⟨0, Nat.zero_le _, rfl, rfl, hF7, hb7, hg7⟩
  case round =>
    clear hF7 hb7 hg7
    obtain ⟨j, hj, rfl, rfl, hF, hb, hgr⟩ := hrel
    by_cases hlt : j < S.length
    · have hdk : decide ((j : Int) < (S.length : Int)) = true := decide_eq_true (by omega)
      obtain ⟨x0c, x1c⟩ := HAT.out j hlt
      replace x0c := KEEP.out wr hb _ _ x0c
      replace x1c := KEEP.out wr hb _ _ x1c
      obtain ⟨hx1, hx2, hx3⟩ := HSW.out S[j] (List.getElem_mem _)
      have HSUM := Lib.hid (wsum_take hlt)
      have hsb : wsum (S.take j) ≤ 840 := by have := wsum_le S j; rw [HSUMS.out] at this; exact this
      have HWD := Lib.hid (fun v => wdot_take (n := n) (v := v) hlt)
      have HPREV : Hid (∀ i (h : i < j), S[i].1 < S[j].1) := Lib.hid (fun i h => List.pairwise_iff_getElem.1 HASC.out i j (by omega) hlt h)
      obtain ⟨x, hx⟩ : ∃ x, x = S[j] := ⟨_, rfl⟩
      rw [← hx] at x0c x1c hx1 hx2 hx3 HSUM HWD HPREV
      clear hx
      obtain ⟨x0, x1⟩ := x
      dsimp only at x0c x1c hx1 hx2 hx3 HSUM HWD HPREV
      have hx1M : x0 < (nodesL n).length := by rw [← HM.out]; exact hx1
      obtain ⟨q0, q1, q2, q3⟩ := HNP.out x0 hx1M
      replace q0 := KEEP.out wr hb _ _ q0
      replace q1 := KEEP.out wr hb _ _ q1
      replace q2 := KEEP.out wr hb _ _ q2
      replace q3 := KEEP.out wr hb _ _ q3
      have HPOK := Lib.hid (node_ok HN.out (List.getElem_mem hx1M)).1
      have HGD : Hid ((nodesL n).getD x0 ⟨0, 0, 0, 0⟩ = (nodesL n)[x0]) := Lib.hid (by rw [List.getD_eq_getElem?_getD, List.getElem?_eq_getElem hx1M]; rfl)
      obtain ⟨P, hP⟩ : ∃ P, P = (nodesL n)[x0] := ⟨_, rfl⟩
      rw [← hP] at q0 q1 q2 q3 HPOK HGD
      clear hP hx1M
      have hpvP : Hid (pv P = .agg #[.int .i64 P.f, .int .i64 P.a, .int .i64 P.b, .int .i64 P.c]) := Lib.hid rfl
      have hj0 : (0 : Int) ≤ (j : Int) := by omega
      have hjl : (j : Int) < (S.length : Int) := by omega
      have HF := Lib.hid hF
      have HB := Lib.hid hb
      clear hF hb
      obtain ⟨sm, hsm⟩ : ∃ s, s = wsum (S.take j) := ⟨_, rfl⟩
      rw [← hsm] at hsb HSUM
      rw [← hsm]
      clear hsm
      go_wp2
      go_cut [96] from 67 to 96 (fun c wx => c = .bool false ∧ wx = (wr.alloc (.cells #[.int .i64 x0, .int .i64 x1] 73)).drew)
      case first =>
        by_cases hj1 : j = 0
        · subst hj1
          refine RX.region RX.fL (fun w' => w' = _) (by kernel_rfl) (by kernel_rfl) rfl (fun OPS HO QR hQR => ?_)
          repeat
            refine RX.step (fun R hR => ?_)
            first
            | (refine RX.one_skip (by first | rfl | (rw [HO.out]; rfl)) (by simp only [RX.put_some, RX.put_none, List.set_cons_zero, List.set_cons_succ]; rfl) ?_
               refine hR _ _ ?_; clear hR R)
            | (refine RX.one_move (by first | rfl | (rw [HO.out]; rfl)) rfl (by first | exact Or.inl rfl | exact Or.inr rfl) (by simp only [RX.eval_tmp, RX.eval_const, List.getD_cons_zero, List.getD_cons_succ]; rfl) (by simp only [RX.put_some, RX.put_none, List.set_cons_zero, List.set_cons_succ]; rfl) ?_
               refine hR _ _ ?_; clear hR R)
            | (refine RX.one_nil (by first | rfl | (rw [HO.out]; rfl)) rfl rfl (by simp only [RX.eval_tmp, RX.eval_const, List.getD_cons_zero, List.getD_cons_succ]; rfl) (by simp only [RX.put_some, RX.put_none, List.set_cons_zero, List.set_cons_succ]; rfl) ?_
               refine hR _ _ ?_; clear hR R)
            | (refine RX.one_float (by first | rfl | (rw [HO.out]; rfl)) rfl rfl rfl ?_
               apply Exists.intro; apply Exists.intro
               refine ⟨fun w' hS K hK => ?_, ?_, ?_⟩
               · subst hS; go_wp2; exact hK _ _ (by simp only [RX.arr_getD, List.getD_cons_zero, List.getD_cons_succ]; first | exact RX.dec_t (by omega) | exact RX.dec_f (by omega) | exact RX.beq_t (by omega) | exact RX.beq_f (by omega) | exact RX.bne_t (by omega) | exact RX.bne_f (by omega) | exact RX.bneB _ | rfl) rfl
               · simp only [RX.put_some, RX.put_none, List.set_cons_zero, List.set_cons_succ]; rfl
               refine hR _ _ ?_; clear hR R)
          refine RX.wpL_nil (hQR _ _ rfl ?_); clear hQR QR HO OPS
          go_wp2
          go_meet
          case rel => exact ⟨rfl, rfl⟩
        · obtain ⟨y0c, _⟩ := HAT.out (j - 1) (by omega)
          replace y0c := KEEP.out wr HB.out _ _ y0c
          have hprev := HPREV.out (j - 1) (by omega)
          generalize S[j - 1] = y at *
          obtain ⟨y0, y1⟩ := y
          dsimp only at y0c hprev
          have hk1 : ((j : Int) - 1) = ((j - 1 : Nat) : Int) := by omega
          obtain ⟨kk, hkk⟩ : ∃ kk, kk = j - 1 := ⟨_, rfl⟩
          rw [← hkk] at y0c hk1
          have hkk0 : (0 : Int) ≤ (kk : Int) := by omega
          have hkkI : (kk : Int) < (S.length : Int) := by omega
          have hjp : (0 : Int) < (j : Int) := by omega
          clear hkk
          have hxl : xb < wr.heap.size := World.block_lt_of_cell? _ _ y0c
          have hxn : ¬ (xb = wr.heap.size) := by omega
          refine RX.region RX.fL (fun w' => w' = _) (by kernel_rfl) (by kernel_rfl) rfl (fun OPS HO QR hQR => ?_)
          repeat
            refine RX.step (fun R hR => ?_)
            first
            | (refine RX.one_skip (by first | rfl | (rw [HO.out]; rfl)) (by simp only [RX.put_some, RX.put_none, List.set_cons_zero, List.set_cons_succ]; rfl) ?_
               refine hR _ _ ?_; clear hR R)
            | (refine RX.one_move (by first | rfl | (rw [HO.out]; rfl)) rfl (by first | exact Or.inl rfl | exact Or.inr rfl) (by simp only [RX.eval_tmp, RX.eval_const, List.getD_cons_zero, List.getD_cons_succ]; rfl) (by simp only [RX.put_some, RX.put_none, List.set_cons_zero, List.set_cons_succ]; rfl) ?_
               refine hR _ _ ?_; clear hR R)
            | (refine RX.one_nil (by first | rfl | (rw [HO.out]; rfl)) rfl rfl (by simp only [RX.eval_tmp, RX.eval_const, List.getD_cons_zero, List.getD_cons_succ]; rfl) (by simp only [RX.put_some, RX.put_none, List.set_cons_zero, List.set_cons_succ]; rfl) ?_
               refine hR _ _ ?_; clear hR R)
            | (refine RX.one_float (by first | rfl | (rw [HO.out]; rfl)) rfl rfl rfl ?_
               apply Exists.intro; apply Exists.intro
               refine ⟨fun w' hS K hK => ?_, ?_, ?_⟩
               · subst hS; go_wp2; exact hK _ _ (by simp only [RX.arr_getD, List.getD_cons_zero, List.getD_cons_succ]; first | exact RX.dec_t (by omega) | exact RX.dec_f (by omega) | exact RX.beq_t (by omega) | exact RX.beq_f (by omega) | exact RX.bne_t (by omega) | exact RX.bne_f (by omega) | exact RX.bneB _ | rfl) rfl
               · simp only [RX.put_some, RX.put_none, List.set_cons_zero, List.set_cons_succ]; rfl
               refine hR _ _ ?_; clear hR R)
          refine RX.wpL_nil (hQR _ _ rfl ?_); clear hQR QR HO OPS
          go_wp2
          go_meet
          case rel => exact ⟨rfl, rfl⟩
      case rest =>
        obtain ⟨rfl, rfl⟩ := hcut
        have hnl : nb < wr.heap.size := World.block_lt_of_cell? _ _ q0
        have hnn : ¬ (nb = wr.heap.size) := by omega
        have hx10 : (0 : Int) ≤ (x0 : Int) := by omega
        have hx1M : (x0 : Int) < (M : Int) := by omega
        have hb8 : Below g w6 (wr.alloc (.cells #[.int .i64 x0, .int .i64 x1] 73)).drew := (HB.out.alloc (by omega) _).drew
        have y1c : (wr.alloc (.cells #[.int .i64 x0, .int .i64 x1] 73)).drew.cell? ⟨wr.heap.size, 1, none⟩ = some (.int .i64 x1) := (by simp [RX.cell_drew, RX.cell_alloc, Nat.add_assoc])
        have hF8 : FRow (wr.alloc (.cells #[.int .i64 x0, .int .i64 x1] 73)).drew g 12 (wSo n S j 0) := HF.out.kept (heap_alloc_old _ _ (by omega))
        have hs8 : (wr.alloc (.cells #[.int .i64 x0, .int .i64 x1] 73)).drew.heap.size = wr.heap.size + 1 := by show (wr.alloc _).heap.size = _; simp
        go_wp2_with fail
        rw [← hpvP.out]
        refine (rweights_any P HPOK.out.f _).mono ?_
        rintro e w9 ⟨rfl, hb9⟩
        replace y1c := RX.keep hb9 y1c
        replace hF8 := hF8.kept (hb9.block g (by omega))
        replace hb8 := hb8.trans (hb9.mono (by omega))
        have hs9 := hb9.size
        clear hb9 q0 q1 q2 q3 x0c x1c
        unfold wts
        go_wp2
        refine absW (F := fun w' => (∀ v, v < 12 → w'.cell? ⟨w9.heap.size, v, none⟩ = some (.int .i64 (wt P v))) ∧ w'.cell? ⟨wr.heap.size, 1, none⟩ = some (.int .i64 x1) ∧ FRow w' g 12 (wSo n S j 0) ∧ Below g w6 w' ∧ w9.heap.size < w'.heap.size) ⟨?_, ?_, ?_, ?_, ?_⟩ ?_
        · intro v hv
          rw [RX.cell_alloc, if_pos rfl]
          exact wtsA_get P v hv
        · exact RX.keep ((Below.refl _ _).alloc (Nat.le_refl _) _) y1c
        · exact hF8.kept (heap_alloc_old _ _ (by omega))
        · exact hb8.alloc (by omega) _
        · simp
        rintro Wa ⟨hwt, hya, hFa, hba, hsa⟩
        obtain ⟨gw, hgw⟩ : ∃ gw, gw = w9.heap.size := ⟨_, rfl⟩
        obtain ⟨gy, hgy⟩ : ∃ gy, gy = wr.heap.size := ⟨_, rfl⟩
        rw [← hgw] at hwt hsa
        rw [← hgy] at hya
        rw [← hgw, ← hgy]
        have hne1 : gw ≠ g := by omega
        have hne2 : gy ≠ g := by omega
        have hgya : gy < Wa.heap.size := by omega
        have hgWa : g < Wa.heap.size := by omega
        clear hgw hgy hF8 hb8 y1c hs8 hs9
        have HWT := Lib.hid hwt
        have HYA := Lib.hid hya
        clear hwt hya HF HB hnl hnn
        go_loopw [15] (fun i wx => ∃ t : Nat, t ≤ 12 ∧ i = .int .i64 t ∧ FRow wx g 12 (wSo n S j t) ∧ Below g w6 wx ∧ Wa.grownBy wx (some g)) (fun i _ => 12 - (intOf i).toNat)
        case atStart => exact ⟨0, Nat.zero_le _, rfl, hFa, hba, World.grownBy.refl _ _⟩
        case round =>
          clear hFa hba
          obtain ⟨t, ht, rfl, hF, hb, hgr2⟩ := hrel
          by_cases hltt : t < 12
          · have hdt : decide ((t : Int) < 12) = true := decide_eq_true (by omega)
            obtain ⟨d0, df⟩ := hF t hltt
            have HSTEP : Hid (wSo n S j t t + (x1 : Int) * (wt P t : Int) = ((wdot n t (S.take (j + 1)) : Nat) : Int)) := Lib.hid (by
              rw [HWD.out t, HGD.out]; unfold wSo; rw [if_neg (by omega)]; push_cast; rfl)
            have HNEXT : Hid (∀ k, (if k = t then ((wdot n t (S.take (j + 1)) : Nat) : Int) else wSo n S j t k) = wSo n S j (t + 1) k) := Lib.hid (fun k => by
              unfold wSo
              by_cases hk : k = t
              · subst hk; rw [if_pos rfl, if_pos (by omega)]
              · rw [if_neg hk]
                by_cases hk2 : k < t
                · rw [if_pos hk2, if_pos (by omega)]
                · rw [if_neg hk2, if_neg (by omega)])
            have hdb : 0 ≤ wSo n S j t t ∧ wSo n S j t t ≤ 10000000 := by have := HWB.out t j hltt; unfold wSo; rw [if_neg (by omega)]; omega
            obtain ⟨d, hd⟩ : ∃ d, d = wSo n S j t t := ⟨_, rfl⟩
            rw [← hd] at d0 hdb HSTEP
            clear hd
            have wc := hgr2.cell (HWT.out t hltt) (by simp; omega)
            have yc := hgr2.cell HYA.out (by simp; omega)
            have hwl := wt_le (HPOK.out) t
            obtain ⟨u, hu⟩ : ∃ u, u = wt P t := ⟨_, rfl⟩
            rw [← hu] at wc hwl HSTEP
            clear hu
            have hmb : 0 ≤ (x1 : Int) * (u : Int) ∧ (x1 : Int) * (u : Int) ≤ 840 * 840 := by
              have := Nat.mul_le_mul hx3 hwl
              constructor
              · exact Int.mul_nonneg (by omega) (by omega)
              · have e : (x1 : Int) * (u : Int) = ((x1 * u : Nat) : Int) := by push_cast; rfl
                omega
            obtain ⟨z, hz⟩ : ∃ z, (x1 : Int) * (u : Int) = z := ⟨_, rfl⟩
            rw [hz] at hmb HSTEP
            have HF := Lib.hid hF
            have HB := Lib.hid hb
            have HG := Lib.hid hgr2
            have ht0 : (0 : Int) ≤ (t : Int) := by omega
            have ht12 : (t : Int) < 12 := by omega
            clear hF hb hgr2
            go_wp2
            refine RY.region RX.fL (fun w' => w'.cell? ⟨g, t, none⟩ = some (.int .i64 d) ∧ w'.cell? ⟨gy, 1, none⟩ = some (.int .i64 x1) ∧ w'.cell? ⟨gw, t, none⟩ = some (.int .i64 u)) (by kernel_rfl) (by kernel_rfl) (⟨d0, yc, wc⟩) (fun OPS HO QR hQR => ?_)
            repeat
              refine RY.step (fun R hR => ?_)
              first
              | (refine RY.one_skip (by first | rfl | (rw [HO.out]; rfl)) (by simp only [RX.put_some, RX.put_none, List.set_cons_zero, List.set_cons_succ]; rfl) ?_
                 refine hR _ _ ?_; clear hR R)
              | (refine RY.one_move (by first | rfl | (rw [HO.out]; rfl)) rfl (by first | exact Or.inl rfl | exact Or.inr rfl) (by simp only [RX.eval_tmp, RX.eval_const, List.getD_cons_zero, List.getD_cons_succ]; rfl) (by simp only [RX.put_some, RX.put_none, List.set_cons_zero, List.set_cons_succ]; rfl) ?_
                 refine hR _ _ ?_; clear hR R)
              | (refine RY.one_nil (by first | rfl | (rw [HO.out]; rfl)) rfl rfl (by simp only [RX.eval_tmp, RX.eval_const, List.getD_cons_zero, List.getD_cons_succ]; rfl) (by simp only [RX.put_some, RX.put_none, List.set_cons_zero, List.set_cons_succ]; rfl) ?_
                 refine hR _ _ ?_; clear hR R)
              | (refine RY.one_float (by first | rfl | (rw [HO.out]; rfl)) rfl rfl rfl ?_
                 apply Exists.intro; apply Exists.intro
                 refine ⟨fun w' hS K hK => ?_, ?_, ?_⟩
                 · obtain ⟨hS1, hS2, hS3⟩ := hS; go_wp2; exact hK _ _ (by simp only [RX.arr_getD, List.getD_cons_zero, List.getD_cons_succ]; first | exact RX.dec_t (by omega) | exact RX.dec_f (by omega) | exact RX.beq_t (by omega) | exact RX.beq_f (by omega) | exact RX.bne_t (by omega) | exact RX.bne_f (by omega) | exact RX.bneB _ | rfl) rfl
                 · simp only [RX.put_some, RX.put_none, List.set_cons_zero, List.set_cons_succ]; rfl
                 refine hR _ _ ?_; clear hR R)
            refine RY.step (fun R hR => ?_)
            refine RY.one_chain (by first | rfl | (rw [HO.out]; rfl)) rfl (fun K hK => ?_)
            go_wp2
            first | refine ⟨(by first | exact .inl rfl | exact .inl trivial | trivial), hR _ _ (RY.wpL_nil (hQR _ _ ?_))⟩ | refine hR _ _ (RY.wpL_nil (hQR _ _ ?_)) | refine hQR _ _ ?_
            (try clear hR); (try clear R); clear hQR QR HO OPS
            rw [HSTEP.out]
            go_wp2
            have HF2 := Lib.hid ((HF.out.set t ((wdot n t (S.take (j + 1)) : Nat) : Int)).ext (fun k _ => HNEXT.out k))
            go_roundw
            case rel => exact ⟨t + 1, by omega, by go_num, HF2.out, (HB.out.drew.setCell (by simp) _), grown_drew (HG.out.trans (grownBy_setCell _ _ _ _))⟩
            case measure => simp [intOf]; omega
          · have hdt : decide ((t : Int) < 12) = false := decide_eq_false (by omega)
            have HF : Hid (FRow wr g 12 (wSo n S (j + 1) 0)) := Lib.hid (hF.ext (fun k hk => by unfold wSo; rw [if_pos (by omega), if_neg (by omega)]))
            have HB := Lib.hid hb
            have hs9 := hgr2.size
            clear hF hb hgr2
            go_wp2
            go_roundw
            case rel => exact ⟨j + 1, by omega, by go_num, by rw [HSUM.out]; push_cast; rfl, HF.out, HB.out, by omega⟩
            case measure => simp [intOf]; omega
    · have hdk : decide ((j : Int) < (S.length : Int)) = false := decide_eq_false (by omega)
      have hjS : j = S.length := by omega
      have es : wsum (S.take j) = 840 := by rw [hjS, List.take_length]; exact HSUMS.out
      have HF : Hid (FRow wr g 12 (fun v => 840 * (wt p v : Int))) := Lib.hid (hF.ext (fun v hv => by
        unfold wSo; rw [if_neg (by omega), hjS, List.take_length, HLIN.out v hv]; push_cast; rfl))
      rw [es]
      have d0 := KEEP.out wr hb _ _ HC.out.1
      have d1 := KEEP.out wr hb _ _ HC.out.2.1
      have d2 := KEEP.out wr hb _ _ HC.out.2.2.1
      have d3 := KEEP.out wr hb _ _ HC.out.2.2.2
      have HB := Lib.hid hb
      clear hF hb es hjS
      go_wp2_with fail
      rw [← hpv.out]
      refine (rweights_any p HP.out.f _).mono ?_
      rintro e w9 ⟨rfl, hb9⟩
      have HB9 : Hid (Below g w6 w9) := Lib.hid (HB.out.trans (hb9.mono (by omega)))
      have HF9 := Lib.hid (HF.out.kept (hb9.block g (by omega)))
      have hs9 := hb9.size
      clear hb9 d0 d1 d2 d3 HB HF
      unfold wts
      go_wp2
      refine absW (F := fun w' => (∀ v, v < 12 → w'.cell? ⟨w9.heap.size, v, none⟩ = some (.int .i64 (wt p v))) ∧ FRow w' g 12 (fun v => 840 * (wt p v : Int)) ∧ Below g w6 w') ⟨?_, ?_, ?_⟩ ?_
      · intro v hv
        rw [RX.cell_alloc, if_pos rfl]
        exact wtsA_get p v hv
      · exact HF9.out.kept (heap_alloc_old _ _ (by omega))
      · exact HB9.out.alloc (by omega) _
      rintro Wb ⟨hwt, hFb, hbb⟩
      have HWT := Lib.hid hwt
      have hgWb : g < Wb.heap.size := World.block_lt_of_cell? _ _ (hFb 0 (by omega)).1
      have HFB := Lib.hid hFb
      have HBB := Lib.hid hbb
      obtain ⟨gw, hgw⟩ : ∃ gw, gw = w9.heap.size := ⟨_, rfl⟩
      rw [← hgw] at HWT
      rw [← hgw]
      clear hwt hFb hbb hs9 hgw HF9 HB9
      go_loopw [17] (fun i wx => ∃ t : Nat, t ≤ 12 ∧ i = .int .i64 t ∧ Below Wb.heap.size Wb wx) (fun i _ => 12 - (intOf i).toNat)
      case atStart => exact ⟨0, Nat.zero_le _, rfl, Below.refl _ _⟩
      case round =>
        obtain ⟨t, ht, rfl, hb⟩ := hrel
        by_cases hltt : t < 12
        · have hdt : decide ((t : Int) < 12) = true := decide_eq_true (by omega)
          have uc := RX.keep hb (HWT.out t hltt)
          have fc := RX.keep hb (HFB.out t hltt).1
          have hul := wt_le HP.out t
          dsimp only at fc
          obtain ⟨u, hu⟩ : ∃ u, u = wt p t := ⟨_, rfl⟩
          rw [← hu] at uc fc hul
          clear hu
          have ht0 : (0 : Int) ≤ (t : Int) := by omega
          have ht12 : (t : Int) < 12 := by omega
          have HB := Lib.hid hb
          clear hb
          go_wp2
          refine RX.region RX.fL (fun w' => w' = _) (by kernel_rfl) (by kernel_rfl) rfl (fun OPS HO QR hQR => ?_)
          repeat
            refine RX.step (fun R hR => ?_)
            first
            | (refine RX.one_skip (by first | rfl | (rw [HO.out]; rfl)) (by simp only [RX.put_some, RX.put_none, List.set_cons_zero, List.set_cons_succ]; rfl) ?_
               refine hR _ _ ?_; clear hR R)
            | (refine RX.one_move (by first | rfl | (rw [HO.out]; rfl)) rfl (by first | exact Or.inl rfl | exact Or.inr rfl) (by simp only [RX.eval_tmp, RX.eval_const, List.getD_cons_zero, List.getD_cons_succ]; rfl) (by simp only [RX.put_some, RX.put_none, List.set_cons_zero, List.set_cons_succ]; rfl) ?_
               refine hR _ _ ?_; clear hR R)
            | (refine RX.one_nil (by first | rfl | (rw [HO.out]; rfl)) rfl rfl (by simp only [RX.eval_tmp, RX.eval_const, List.getD_cons_zero, List.getD_cons_succ]; rfl) (by simp only [RX.put_some, RX.put_none, List.set_cons_zero, List.set_cons_succ]; rfl) ?_
               refine hR _ _ ?_; clear hR R)
            | (refine RX.one_float (by first | rfl | (rw [HO.out]; rfl)) rfl rfl rfl ?_
               apply Exists.intro; apply Exists.intro
               refine ⟨fun w' hS K hK => ?_, ?_, ?_⟩
               · subst hS; go_wp2; exact hK _ _ (by simp only [RX.arr_getD, List.getD_cons_zero, List.getD_cons_succ]; first | exact RX.dec_t (by omega) | exact RX.dec_f (by omega) | exact RX.beq_t (by omega) | exact RX.beq_f (by omega) | exact RX.bne_t (by omega) | exact RX.bne_f (by omega) | exact RX.bneB _ | rfl) rfl
               · simp only [RX.put_some, RX.put_none, List.set_cons_zero, List.set_cons_succ]; rfl
               refine hR _ _ ?_; clear hR R)
          refine RX.wpL_nil (hQR _ _ rfl ?_); clear hQR QR HO OPS
          go_wp2
          go_roundw
          case rel => exact ⟨t + 1, by omega, by go_num, HB.out.drew⟩
          case measure => simp [intOf]; omega
        · have hdt : decide ((t : Int) < 12) = false := decide_eq_false (by omega)
          have hgr4 : g < wr.heap.size := by
            have := hb.size
            omega
          have HBr : Hid (Below g w6 wr) := Lib.hid (HBB.out.trans (hb.mono (by omega)))
          have d0 := KEEP.out wr HBr.out _ _ HC.out.1
          have d1 := KEEP.out wr HBr.out _ _ HC.out.2.1
          have d2 := KEEP.out wr HBr.out _ _ HC.out.2.2.1
          have d3 := KEEP.out wr HBr.out _ _ HC.out.2.2.2
          clear hb
          go_wp2_with fail
          rw [← hpv.out]
          refine (raddresses_any p HP.out _).mono ?_
          rintro e wc ⟨va, rfl, hra, hbc⟩
          obtain ⟨pa, ca, ba, rfl, hca, hpa, hla⟩ := hra.form
          have hgwc : g < wc.heap.size := by have := hbc.size; omega
          have HBc : Hid (Below g w6 wc) := Lib.hid (HBr.out.trans (hbc.mono (by omega)))
          have HLA := Lib.hid hla
          have hal := addrs_len p 20
          have HADR : Hid (∀ q ∈ addrs p 20, q.Ok ∧ (locRaw n q).Perm (locRaw n p)) := Lib.hid (fun q hq => by
            obtain ⟨f, hf, hok, rfl⟩ := mem_addrs HP.out hq
            exact ⟨⟨hf, by simpa [okB] using hok⟩, addr_loc h1 HN.out HP.out hf hok⟩)
          obtain ⟨A, hA⟩ : ∃ A, A = addrs p 20 := ⟨_, rfl⟩
          rw [← hA] at hca hpa HLA hal HADR
          rw [← hA]
          clear hra hla hbc hA d0 d1 d2 d3
          go_wp2
          go_loopw [144] (fun i wx => ∃ t : Nat, t ≤ A.length ∧ i = .int .i64 t ∧ Below wc.heap.size wc wx) (fun i _ => A.length - (intOf i).toNat)
          case atStart => exact ⟨0, Nat.zero_le _, rfl, Below.refl _ _⟩
          case round =>
            obtain ⟨t, ht, rfl, hb⟩ := hrel
            by_cases hltA : t < A.length
            · have hdt : decide ((t : Int) < (A.length : Int)) = true := decide_eq_true (by omega)
              obtain ⟨e0, e1, e2, e3⟩ := HLA.out t hltA
              have hpa2 := (hpa (by omega)).1
              subst hpa2
              replace e0 := RX.keep hb e0
              replace e1 := RX.keep hb e1
              replace e2 := RX.keep hb e2
              replace e3 := RX.keep hb e3
              have HQ := Lib.hid (HADR.out A[t] (List.getElem_mem _))
              obtain ⟨Q, hQ⟩ : ∃ Q, Q = A[t] := ⟨_, rfl⟩
              rw [← hQ] at e0 e1 e2 e3 HQ
              clear hQ
              have hpvQ : Hid (pv Q = .agg #[.int .i64 Q.f, .int .i64 Q.a, .int .i64 Q.b, .int .i64 Q.c]) := Lib.hid rfl
              have ht0 : (0 : Int) ≤ (t : Int) := by omega
              have htA : (t : Int) < (A.length : Int) := by omega
              have HB := Lib.hid hb
              have hgr5 : g ≤ wr.heap.size := by have := hb.size; omega
              have HBx : Hid (Below g w6 wr) := Lib.hid (HBc.out.trans (hb.mono (by omega)))
              clear hb
              go_wp2_with fail
              rw [← hpvQ.out]
              have hba := (Below.refl wr.heap.size wr).alloc (Nat.le_refl _) (.cells #[.int .i64 Q.f, .int .i64 Q.a, .int .i64 Q.b, .int .i64 Q.c] 32)
              have hTa : HasTab (wr.alloc (.cells #[.int .i64 Q.f, .int .i64 Q.a, .int .i64 Q.b, .int .i64 Q.c] 32)) := hT.below (HBW.out _ (HBx.out.trans (hba.mono hgr5)))
              refine (glocate_any n h1 h8 Q HQ.out.1 _ hTa).mono ?_
              rintro e wd ⟨xb2, xc2, S2, hS2, rfl, hxc2, hat2, hbd⟩
              have hS2' : IsLoc n p S2 := ⟨hS2.1.trans HQ.out.2, hS2.2⟩
              obtain rfl := hS2'.unique HS.out
              replace hbd := hba.trans (hbd.mono hba.size)
              have HBD := Lib.hid (HBx.out.trans (hbd.mono hgr5))
              have hin1 : SharesIn wd (some ⟨xb, 0, none⟩) S2 := ⟨xb, fun _ => rfl, fun k hk => ⟨KEEP.out wd HBD.out _ _ (HAT.out k hk).1, KEEP.out wd HBD.out _ _ (HAT.out k hk).2⟩⟩
              have hin2 : SharesIn wd (some ⟨xb2, 0, none⟩) S2 := ⟨xb2, fun _ => rfl, hat2⟩
              have HBE := Lib.hid (HB.out.trans (hbd.mono HB.out.size))
              clear hba hTa hS2 hS2' hat2 hbd e0 e1 e2 e3
              go_wp2_with fail
              refine (shares_any wd _ _ xc xc2 S2 S2 hin1 hin2 hxc hxc2 (by omega) (by omega)).mono ?_
              rintro e we ⟨rfl, hbe⟩
              rw [show eqB S2 S2 = true from decide_eq_true rfl]
              have HBF := Lib.hid (HBE.out.trans (hbe.mono HBE.out.size))
              clear hbe hin1 hin2
              go_wp2
              go_roundw
              case rel => exact ⟨t + 1, by omega, by go_num, HBF.out⟩
              case measure => simp [intOf]; omega
            · have hdt : decide ((t : Int) < (A.length : Int)) = false := decide_eq_false (by omega)
              have HBx : Hid (Below g w6 wr) := Lib.hid (HBc.out.trans (hb.mono (by omega)))
              have hgr5 : g ≤ wr.heap.size := by have := hb.size; omega
              clear hb
              go_wp2
              go_loopw [24] (fun i wx => ∃ k : Nat, 1 ≤ k ∧ k ≤ S.length ∧ i = .int .i64 k ∧ Below g w6 wx ∧ g ≤ wx.heap.size) (fun i _ => S.length - (intOf i).toNat)
              case atStart => exact ⟨1, Nat.le_refl _, hS0, rfl, HBx.out, hgr5⟩
              case round =>
                clear hgr5
                obtain ⟨k, hk1, hk, rfl, hb, hgr6⟩ := hrel
                by_cases hltS : k < S.length
                · have hdt : decide ((k : Int) < (S.length : Int)) = true := decide_eq_true (by omega)
                  obtain ⟨a0, _⟩ := HAT.out 0 hS0
                  obtain ⟨b0c, _⟩ := HAT.out k hltS
                  replace a0 := KEEP.out wr hb _ _ a0
                  replace b0c := KEEP.out wr hb _ _ b0c
                  have hal1 := (HSW.out S[0] (List.getElem_mem _)).1
                  have hbl1 := (HSW.out S[k] (List.getElem_mem _)).1
                  have HADJ : Hid ((S[k].1 : Int) ∈ nextL n S[0].1) := Lib.hid (loc_adj h1 h8 HP.out (HS.out.1.mem_iff.1 (List.getElem_mem _)) (HS.out.1.mem_iff.1 (List.getElem_mem _)) (by
                    have := List.pairwise_iff_getElem.1 HASC.out 0 k hS0 hltS (by omega); omega))
                  obtain ⟨ia, hia⟩ : ∃ ia, ia = S[0].1 := ⟨_, rfl⟩
                  obtain ⟨ib, hib⟩ : ∃ ib, ib = S[k].1 := ⟨_, rfl⟩
                  rw [← hia] at a0 hal1 HADJ
                  rw [← hib] at b0c hbl1 HADJ
                  clear hia hib
                  have hk0 : (0 : Int) ≤ (k : Int) := by omega
                  have hkl : (k : Int) < (S.length : Int) := by omega
                  have hS0' : (0 : Int) < (S.length : Int) := by omega
                  have hTr : HasTab wr := hT.below (HBW.out _ hb)
                  have HB := Lib.hid hb
                  rw [Nat.zero_mul] at a0
                  rw [HM.out] at hal1 hbl1
                  clear hb
                  go_wp2
                  refine RX.region RX.fL (fun w' => w'.cell? ⟨xb, 0, none⟩ = some (.int .i64 ia) ∧ w'.cell? ⟨xb, k * 2, none⟩ = some (.int .i64 ib)) (by kernel_rfl) (by kernel_rfl) (⟨a0, b0c⟩) (fun OPS HO QR hQR => ?_)
                  repeat
                    refine RX.step (fun R hR => ?_)
                    first
                    | (refine RX.one_skip (by first | rfl | (rw [HO.out]; rfl)) (by simp only [RX.put_some, RX.put_none, List.set_cons_zero, List.set_cons_succ]; rfl) ?_
                       refine hR _ _ ?_; clear hR R)
                    | (refine RX.one_move (by first | rfl | (rw [HO.out]; rfl)) rfl (by first | exact Or.inl rfl | exact Or.inr rfl) (by simp only [RX.eval_tmp, RX.eval_const, List.getD_cons_zero, List.getD_cons_succ]; rfl) (by simp only [RX.put_some, RX.put_none, List.set_cons_zero, List.set_cons_succ]; rfl) ?_
                       refine hR _ _ ?_; clear hR R)
                    | (refine RX.one_nil (by first | rfl | (rw [HO.out]; rfl)) rfl rfl (by simp only [RX.eval_tmp, RX.eval_const, List.getD_cons_zero, List.getD_cons_succ]; rfl) (by simp only [RX.put_some, RX.put_none, List.set_cons_zero, List.set_cons_succ]; rfl) ?_
                       refine hR _ _ ?_; clear hR R)
                    | (refine RX.one_float (by first | rfl | (rw [HO.out]; rfl)) rfl rfl rfl ?_
                       apply Exists.intro; apply Exists.intro
                       refine ⟨fun w' hS K hK => ?_, ?_, ?_⟩
                       · obtain ⟨hS1, hS2⟩ := hS; go_wp2; exact hK _ _ (by simp only [RX.arr_getD, List.getD_cons_zero, List.getD_cons_succ]; first | exact RX.dec_t (by omega) | exact RX.dec_f (by omega) | exact RX.beq_t (by omega) | exact RX.beq_f (by omega) | exact RX.bne_t (by omega) | exact RX.bne_f (by omega) | exact RX.bneB _ | rfl) rfl
                       · simp only [RX.put_some, RX.put_none, List.set_cons_zero, List.set_cons_succ]; rfl
                       refine hR _ _ ?_; clear hR R)
                  refine RX.step (fun R hR => ?_)
                  refine RX.one_chain (by first | rfl | (rw [HO.out]; rfl)) rfl (fun K hK => ?_)
                  go_wp2_with fail
                  refine (ghops_at n ia ib h1 h8 hal1 hbl1 _ (hTr.below (Below.refl _ _).drew)).mono ?_
                  rintro e we ⟨rfl, hSd, hbe⟩
                  replace hbe : Below wr.heap.size wr we := ⟨hbe.os, hbe.tape, hbe.output, hbe.size, hbe.block⟩
                  rw [(hop_one h1 h8 hal1 hbl1 hSd).2 HADJ.out]
                  replace a0 := RX.keep hbe a0
                  replace b0c := RX.keep hbe b0c
                  have HBE := Lib.hid (HB.out.trans (hbe.mono hgr6))
                  have hgr7 : g ≤ we.heap.size := by have := hbe.size; omega
                  clear hbe hSd
                  refine hK _ _ ⟨⟨a0, b0c⟩, hR _ _ ?_⟩; clear hK K hR R
                  repeat
                    refine RX.step (fun R hR => ?_)
                    first
                    | (refine RX.one_skip (by first | rfl | (rw [HO.out]; rfl)) (by simp only [RX.put_some, RX.put_none, List.set_cons_zero, List.set_cons_succ]; rfl) ?_
                       refine hR _ _ ?_; clear hR R)
                    | (refine RX.one_move (by first | rfl | (rw [HO.out]; rfl)) rfl (by first | exact Or.inl rfl | exact Or.inr rfl) (by simp only [RX.eval_tmp, RX.eval_const, List.getD_cons_zero, List.getD_cons_succ]; rfl) (by simp only [RX.put_some, RX.put_none, List.set_cons_zero, List.set_cons_succ]; rfl) ?_
                       refine hR _ _ ?_; clear hR R)
                    | (refine RX.one_nil (by first | rfl | (rw [HO.out]; rfl)) rfl rfl (by simp only [RX.eval_tmp, RX.eval_const, List.getD_cons_zero, List.getD_cons_succ]; rfl) (by simp only [RX.put_some, RX.put_none, List.set_cons_zero, List.set_cons_succ]; rfl) ?_
                       refine hR _ _ ?_; clear hR R)
                    | (refine RX.one_float (by first | rfl | (rw [HO.out]; rfl)) rfl rfl rfl ?_
                       apply Exists.intro; apply Exists.intro
                       refine ⟨fun w' hS K hK => ?_, ?_, ?_⟩
                       · obtain ⟨hS1, hS2⟩ := hS; go_wp2; exact hK _ _ (by simp only [RX.arr_getD, List.getD_cons_zero, List.getD_cons_succ]; first | exact RX.dec_t (by omega) | exact RX.dec_f (by omega) | exact RX.beq_t (by omega) | exact RX.beq_f (by omega) | exact RX.bne_t (by omega) | exact RX.bne_f (by omega) | exact RX.bneB _ | rfl) rfl
                       · simp only [RX.put_some, RX.put_none, List.set_cons_zero, List.set_cons_succ]; rfl
                       refine hR _ _ ?_; clear hR R)
                  refine RX.wpL_nil (hQR _ _ (⟨a0, b0c⟩) ?_); clear hQR QR HO OPS
                  go_wp2
                  go_roundw
                  case rel => first | exact ⟨k + 1, by omega, by omega, by go_num, HBE.out, hgr7⟩ | ((repeat apply Exists.intro); refine ⟨⟨k + 1, by omega, by omega, ?_, HBE.out, hgr7⟩, rfl⟩; first | rfl | go_num)
                  case measure => simp [intOf]; omega
                · have hdt : decide ((k : Int) < (S.length : Int)) = false := decide_eq_false (by omega)
                  have HB := Lib.hid hb
                  clear hb
                  go_wp2_with fail
                  refine (awake03_any wr (hT.below (HBW.out _ HB.out))).mono ?_
                  rintro e we ⟨rfl, hbe⟩
                  have HBE := Lib.hid (HBW.out _ (HB.out.trans (hbe.mono hgr6)))
                  clear hbe
                  go_wp2
                  go_ret
                  exact ⟨rfl, HBE.out⟩
end Go.Proofs.YtlfhildbjipheaaGreatDoor
