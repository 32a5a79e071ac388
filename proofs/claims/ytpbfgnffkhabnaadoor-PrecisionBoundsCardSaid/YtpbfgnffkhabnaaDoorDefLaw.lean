import Derived.Test.YtpbfgnffkhabnaaDoorLinLaw
import Derived.Test.YtpbfgnffkhabnaaDoorEnergy
import Derived.Test.YtpbfgnffkhabnaaDoorMod
set_option linter.unusedSimpArgs false
set_option linter.unusedVariables false
namespace Go.Proofs.YtpbfgnffkhabnaaDoor
open Go.RowKit Go.Grid Go.Maps Go.Sort Go.Shelf

/-- A list filled with c up to k. -/
def fillC (c : Int) (m k : Nat) : List Int := List.replicate k c ++ List.replicate (m - k) 0
theorem fillC_len {c : Int} {m k : Nat} (h : k ≤ m) : (fillC c m k).length = m := by simp [fillC]; omega
theorem fillC_succ {c : Int} {m k : Nat} (h : k < m) : (fillC c m k).set k c = fillC c m (k + 1) := by
  unfold fillC
  rw [List.set_append_right _ _ (by simp), List.length_replicate, Nat.sub_self, show m - k = (m - (k + 1)) + 1 by omega, List.replicate_succ, List.set_cons_zero, List.replicate_succ', List.append_assoc]; rfl
theorem fillC_end (c : Int) (m : Nat) : fillC c m m = List.replicate m c := by simp [fillC]
theorem fillC_zero (c : Int) (m : Nat) : fillC c m 0 = List.replicate m 0 := by simp [fillC]

/-- All are 0. -/
def allZ : List Int → Bool
  | [] => true
  | z :: l => (z == 0) && allZ l
theorem allZ_snoc (z : Int) : ∀ l, allZ (l ++ [z]) = (allZ l && (z == 0))
  | [] => by simp [allZ]
  | y :: l => by simp only [List.cons_append, allZ, allZ_snoc z l, Bool.and_assoc]
theorem allZ_take {zs : List Int} {k : Nat} (hk : k < zs.length) : allZ (zs.take (k + 1)) = (allZ (zs.take k) && (zs[k] == 0)) := by
  rw [List.take_succ_eq_append_getElem hk, allZ_snoc]
theorem allZ_true : ∀ {zs : List Int}, (∀ z ∈ zs, z = 0) → allZ zs = true
  | [], _ => rfl
  | z :: l, h => by
    have h1 := allZ_true (zs := l) (fun x hx => h x (List.mem_cons_of_mem _ hx))
    simp [allZ, h1, h z (by simp)]
theorem allZ_zero : ∀ {zs : List Int}, allZ zs = true → ∀ z ∈ zs, z = 0
  | [], _, _, h => by simp at h
  | y :: l, h, z, hz => by
    simp only [allZ, Bool.and_eq_true, beq_iff_eq] at h
    rcases List.mem_cons.1 hz with rfl | hz
    · exact h.1
    · exact allZ_zero h.2 z hz

set_option maxRecDepth 100000 in
set_option maxHeartbeats 3000000 in
theorem definite_law (W : World) (q : Option Addr) (cap cb co : Nat) (L : List Int) (val : Int) (hp : 0 < L.length → q = some ⟨cb, co, none⟩) (hl : L.length ≤ cap) (hc : cap ≤ 9223372036854775807)
    (hcell : ∀ k (h : k < L.length), W.cell? ⟨cb, co + k, none⟩ = some (.int .u8 L[k]) ∧ 0 ≤ L[k] ∧ L[k] < 256) (hv1 : -9223372036854775808 ≤ val) (hv2 : val ≤ 9223372036854775807) (hT : HasTab W) :
    Calls Tryd.prog 9 #[.slice q L.length cap, .int .i64 val] W fun e w' => e = .returned (.bool true) ∧ Below W.heap.size W w' := by
  have HIN := Lib.hid (And.intro hp hcell)
  clear hp hcell
  go_enter Tryd.func9, Tryd.ntmps9
  go_wp2_with fail
  refine (awake22_any W hT).mono ?_
  rintro e w1 ⟨rfl, hB⟩
  go_wp2_with fail
  refine (start_any W q cap cb co 120 L w1 (by omega) HIN.out.1 hl hc HIN.out.2 hB).mono ?_
  rintro e w2 ⟨g, b, M, rfl, hg, hb2, hbM, hC⟩
  have hgW : W.heap.size ≤ g := by have := hB.size; omega
  replace hB := hB.trans (hb2.mono hB.size)
  have hgl := hC.lt
  have hbg : 0 < M.length → b < g := fun h0 => by have := hbM h0; omega
  clear hb2 hbM hg HIN hl hc
  clear w1
  go_wp2_with fail
  refine (cprec_any w2 g b M 0 hC).mono ?_
  rintro e w3 ⟨f, s, a, rfl, hPC, hg3, j3, hC3⟩
  obtain ⟨hOk, n, rfl, hn1, hn2⟩ := prc_ok hPC
  obtain ⟨_, _, hs0, hs1, ha0, ha1⟩ := hOk
  replace hB := hB.grown hg3 hB.size (fun k hk => by injection hk with hk; omega)
  have hs3 := hg3.size
  clear hC hg3
  have hpv : Hid (prv n s a = .agg #[.int .i64 n, .int .i64 s, .int .i64 a]) := Lib.hid rfl
  rw [hpv.out]
  go_wp2_with fail
  have hP : Three (w3.alloc (.cells #[.int .i64 n, .int .i64 s, .int .i64 a] 69)) w3.heap.size n s a := ⟨(by simp [RX.cell_drew, RX.cell_alloc, Nat.add_assoc]), (by simp [RX.cell_drew, RX.cell_alloc, Nat.add_assoc]), (by simp [RX.cell_drew, RX.cell_alloc, Nat.add_assoc])⟩
  have hb4 := (Below.refl w3.heap.size w3).alloc (Nat.le_refl _) (.cells #[.int .i64 n, .int .i64 s, .int .i64 a] 69)
  replace hB := hB.trans (hb4.mono hB.size)
  have hC4 := hC3.below hb4
  have hs4 : w3.heap.size < (w3.alloc (.cells #[.int .i64 n, .int .i64 s, .int .i64 a] 69)).heap.size := by simp
  have hP0 : w3.heap.size ≠ g := by omega
  obtain ⟨P, hPe⟩ : ∃ P, P = w3.heap.size := ⟨_, rfl⟩
  have hgP : g < P := by omega
  rw [← hPe] at hP hs4 hP0 ⊢
  clear hC3 hb4 hPe hs3
  generalize (w3.alloc (.cells #[.int .i64 n, .int .i64 s, .int .i64 a] 69)) = W4 at *
  clear w3 hgl
  clear w2
  have hgl4 : g < W4.heap.size := by omega
  obtain ⟨c, hcv⟩ : ∃ c, c = val % 2097153 - 1048576 := ⟨_, rfl⟩
  have hc1 : -1048576 ≤ c := by have := Int.emod_nonneg val (show (2097153 : Int) ≠ 0 by omega); omega
  have hc2 : c ≤ 1048576 := by have := Int.emod_lt_of_pos val (show (0 : Int) < 2097153 by omega); omega
  have k0 := hP.1
  have k1 := hP.2.1
  have k2 := hP.2.2
  go_wp2_with fail
  refine (fmod_any val 2097153 _ hv1 hv2 (by omega) (by omega)).mono ?_
  rintro e w5 ⟨rfl, rfl⟩
  have hcv' : val % 2097153 - 1048576 = c := hcv.symm
  have hcb : 0 ≤ val % 2097153 ∧ val % 2097153 < 2097153 := ⟨Int.emod_nonneg val (by omega), Int.emod_lt_of_pos val (by omega)⟩
  clear hcv
  go_wp2_with fail
  refine (rnodes_any n _ (by omega) (by omega)).mono ?_
  rintro e w5 ⟨rfl, rfl⟩
  obtain ⟨m, hm⟩ : ∃ m : Nat, 10 * (n : Int) * n + 2 = m := ⟨(10 * (n : Int) * n + 2).toNat, by have h1 : 0 ≤ 10 * (n : Int) * n := Int.mul_nonneg (by omega) (by omega); omega⟩
  have hk1 := len42 hn1 hn2 hm.symm
  rw [hm]
  have HM := Lib.hid hm
  clear hm
  have hmk := run_make_row' (P := Tryd.prog) 24 3 (.int .i64 0) 8 Tryd.underlying24 (by kernel_rfl) rfl .i64 .i64 m (by omega) (by omega)
  go_wp2
  obtain ⟨N, hN⟩ : ∃ N, N = W4.heap.size := ⟨_, rfl⟩
  rw [← hN]
  refine absW (F := fun w' => IntsAt w' N 0 (fillC c m 0) ∧ W4.grownBy w' (some N)) ⟨?_, ?_⟩ ?_
  · rw [fillC_zero, hN]; exact IntsAt.made W4 m
  · exact World.grownBy_alloc _ _ _
  rintro W5 ⟨hI5, hg5⟩
  have hPN : P ≠ N := by omega
  have hgN : g ≠ N := by omega
  have hNW : W4.heap.size ≤ N := by omega
  clear hN hmk k0 k1 k2 hcv' hcb hv1 hv2
  go_loopw [34] (fun i wr => ∃ k : Nat, k ≤ m ∧ i = .int .i64 k ∧ IntsAt wr N 0 (fillC c m k) ∧ W4.grownBy wr (some N)) (fun i _ => m - (intOf i).toNat)
  case atStart => exact ⟨0, by omega, rfl, hI5, hg5⟩
  case round =>
    clear hI5 hg5
    obtain ⟨k, hk, rfl, hI, hgr⟩ := hrel
    by_cases hlt : k < m
    · have hdk : decide ((k : Int) < (m : Int)) = true := decide_eq_true (by omega)
      obtain ⟨ok1, ok2⟩ := hI k (by rw [fillC_len hk]; exact hlt)
      rw [Nat.zero_add] at ok1 ok2
      have HI : Hid (IntsAt (wr.setCell ⟨N, k, none⟩ (.int .i64 c)) N 0 (fillC c m (k + 1))) := Lib.hid (by
        have := hI.set k c
        rw [Nat.zero_add, fillC_succ hlt] at this; exact this)
      obtain ⟨old, ho⟩ : ∃ old, old = (fillC c m k)[k]'(by rw [fillC_len hk]; exact hlt) := ⟨_, rfl⟩
      rw [← ho] at ok1
      clear ho
      clear hI
      go_wp2
      go_roundw
      case rel => exact ⟨k + 1, by omega, by go_num, HI.out, hgr.trans (grownBy_setCell _ _ _ _)⟩
      case measure => simp [intOf]; omega
    · have hdk : decide ((k : Int) < (m : Int)) = false := decide_eq_false (by omega)
      obtain rfl : k = m := by omega
      rw [fillC_end] at hI
      have hB5 : Below W.heap.size W wr := hB.grown hgr hB.size (fun k hk => by injection hk with hk; have := hB.size; omega)
      have hP5 := hP.turn hgr hPN
      have hC5 := hC4.grown' hgr hgN (fun h0 => by have := hbg h0; omega)
      have hgl5 : g < wr.heap.size := Nat.lt_of_lt_of_le hgl4 hgr.size
      have hVX := vec_of_ints hI
      have HXL : Hid ((List.replicate k c).length = k) := Lib.hid (by simp)
      have HIN : Hid (InR k (edgesL n)) := Lib.hid (by
        have := edges_InR (f := n) hn1 (by omega) (x := List.replicate k c) (by rw [HXL.out]; exact HM.out.symm)
        rwa [HXL.out] at this)
      have HVO : Hid (VecOk n s a (List.replicate k c)) := Lib.hid ⟨⟨by omega, by omega, hs0, hs1, ha0, ha1⟩, by rw [HXL.out]; exact HM.out.symm, fun x hx => by have := List.eq_of_mem_replicate hx; omega⟩
      have HAP : Hid (applyL s a (List.replicate k c) (edgesL n) = List.replicate k (a * c)) := Lib.hid (apply_equal s a c k (edgesL n) HIN.out)
      have hmb := mul_bd (s := a) (d := c) (by omega) (by omega) (by omega) (by omega)
      obtain ⟨u, hu⟩ : ∃ u, a * c = u := ⟨_, rfl⟩
      rw [hu] at HAP hmb
      clear hB hP hC4 hgl4 hgr hI HIN hs4 hNW
      have k0 := hP5.1
      have k1 := hP5.2.1
      have k2 := hP5.2.2
      go_wp2_with fail
      refine (apply_at n s a (some ⟨N, 0, none⟩) (List.replicate k c) k k _ HXL.out (hT.below hB5) hVX HVO.out).mono ?_
      rintro e wY ⟨Y, rfl, hVY, hbY⟩
      rw [HAP.out] at hVY
      replace hB5 := hB5.trans (hbY.mono hB5.size)
      replace hP5 := hP5.keep hbY
      replace hC5 := hC5.below hbY
      replace hgl5 : g < wY.heap.size := Nat.lt_of_lt_of_le hgl5 hbY.size
      clear hbY hVX HAP HVO HXL k0 k1 k2
      clear wr
      go_wp2
      go_loopw [50] (fun i wr => ∃ j : Nat, j ≤ k ∧ i = .int .i64 j ∧ Below wY.heap.size wY wr) (fun i _ => k - (intOf i).toNat)
      case atStart => exact ⟨0, by omega, rfl, Below.refl _ _⟩
      case round =>
        obtain ⟨j, hj, rfl, hBr⟩ := hrel
        by_cases hlt : j < k
        · have hdj : decide ((j : Int) < (k : Int)) = true := decide_eq_true (by omega)
          obtain ⟨bu, ou, hpu, hbu, hcu⟩ := hVY.cell (by simp; omega)
          injection hpu with hpu
          injection hpu with e1 e2 e3
          subst e1 e2
          have uk := RX.keep hBr (hcu j (by simp; exact hlt))
          rw [Nat.zero_add, List.getElem_replicate] at uk
          have q2 := RX.keep hBr hP5.2.2
          clear hcu
          go_wp2
          refine RX.region RX.fN (fun w' => w' = _) (by kernel_rfl) (by kernel_rfl) rfl (fun OPS HO QR hQR => ?_)
          repeat
            refine RX.step (fun R hR => ?_)
            first
            | (refine RX.one_skip (by first | rfl | (rw [HO.out]; rfl)) (by simp only [RX.put_some, RX.put_none, List.set_cons_zero, List.set_cons_succ]; rfl) ?_
               refine hR _ _ ?_; clear hR R)
            | (refine RX.one_move (by first | rfl | (rw [HO.out]; rfl)) rfl (by first | exact Or.inl rfl | exact Or.inr rfl) (by simp only [RX.eval_tmp, RX.eval_const, List.getD_cons_zero, List.getD_cons_succ]; rfl) (by simp only [RX.put_some, RX.put_none, List.set_cons_zero, List.set_cons_succ]; rfl) ?_
               refine hR _ _ ?_; clear hR R)
            | (refine RX.one_nil (by first | rfl | (rw [HO.out]; rfl)) rfl rfl (by simp only [RX.eval_tmp, RX.eval_const, List.getD_cons_zero, List.getD_cons_succ]; rfl) (by simp only [RX.put_some, RX.put_none, List.set_cons_zero, List.set_cons_succ]; rfl) ?_
               refine hR _ _ ?_; clear hR R)
            | (refine RX.one_float (by first | rfl | (rw [HO.out]; rfl)) rfl rfl rfl ?_
               apply Exists.intro; apply Exists.intro
               refine ⟨fun w' hS K hK => ?_, ?_, ?_⟩
               · subst hS; go_wp2; exact hK _ _ (by simp only [RX.arr_getD, List.getD_cons_zero, List.getD_cons_succ]; first | exact RX.dec_t (by omega) | exact RX.dec_f (by omega) | exact RX.beq_t (by omega) | exact RX.beq_f (by omega) | exact RX.bne_t (by omega) | exact RX.bne_f (by omega) | exact RX.bneB _ | rfl) rfl
               · simp only [RX.put_some, RX.put_none, List.set_cons_zero, List.set_cons_succ]; rfl
               refine hR _ _ ?_; clear hR R)
          refine RX.wpL_nil (hQR _ _ rfl ?_); clear hQR QR HO OPS
          go_wp2
          go_roundw
          case rel => exact ⟨j + 1, by omega, by go_num, hBr.drew⟩
          case measure => simp [intOf]; omega
        · have hdj : decide ((j : Int) < (k : Int)) = false := decide_eq_false (by omega)
          obtain rfl : j = k := by omega
          replace hB5 := hB5.trans (hBr.mono hB5.size)
          replace hP5 := hP5.keep hBr
          replace hC5 := hC5.below hBr
          replace hgl5 : g < wr.heap.size := Nat.lt_of_lt_of_le hgl5 hBr.size
          clear hBr hVY hu hmb
          have k0 := hP5.1
          have k1 := hP5.2.1
          have k2 := hP5.2.2
          go_wp2_with fail
          refine (cfor_any _ g b M j3 n s a hC5 (fun h0 => by have := hbg h0; omega) hPC).mono ?_
          rintro e wF ⟨v5, zs, rfl, hl1, hW1, hr1, hg5, j5, hC6⟩
          replace hB5 := hB5.grown hg5 hB5.size (fun k hk => by injection hk with hk; omega)
          replace hP5 := hP5.turn hg5 (by omega)
          obtain ⟨p5, c5, rfl, hVZ⟩ := hr1.vec
          have hzl : zs.length = j := by have := HM.out; omega
          have HZL := Lib.hid hzl
          rw [hzl]
          have HEN : Hid (VecOk n s a zs) := Lib.hid ⟨⟨by omega, by omega, hs0, hs1, ha0, ha1⟩, hl1, small_within hW1⟩
          clear hzl hl1 hr1 hg5 hC6 hC5 hgl5 k0 k1 k2
          go_wp2
          go_loopw [14, 68] (fun v i wr => ∃ t : Nat, t ≤ j ∧ i = .int .i64 t ∧ v = .bool (allZ (zs.take t)) ∧ Below wF.heap.size wF wr) (fun v i _ => j - (intOf i).toNat)
          case atStart => exact ⟨0, by omega, rfl, rfl, Below.refl _ _⟩
          case round =>
            obtain ⟨t, ht, rfl, rfl, hBr⟩ := hrel
            by_cases hlt2 : t < j
            · have hdj : decide ((t : Int) < (j : Int)) = true := decide_eq_true (by omega)
              have htz : t < zs.length := by rw [HZL.out]; exact hlt2
              obtain ⟨bz, oz, rfl, hbz, hcz⟩ := hVZ.cell (by omega)
              have zk := RX.keep hBr (hcz t htz)
              have hst := allZ_take htz
              generalize zs[t] = z at *
              generalize allZ (zs.take t) = B0 at *
              have HST := Lib.hid hst
              clear hst hcz
              cases B0 with
              | true =>
                by_cases hz0 : z = 0
                · subst hz0
                  have HR : Hid (allZ (zs.take (t + 1)) = true) := Lib.hid (by rw [HST.out]; rfl)
                  go_wp2
                  go_roundw
                  case rel => exact ⟨t + 1, by omega, by go_num, by rw [HR.out], hBr⟩
                  case measure => simp [intOf]; omega
                · have hzb : (z == 0) = false := by rw [beq_eq_false_iff_ne]; exact hz0
                  have HR : Hid (allZ (zs.take (t + 1)) = false) := Lib.hid (by rw [HST.out, hzb]; rfl)
                  go_wp2
                  go_roundw
                  case rel => exact ⟨t + 1, by omega, by go_num, by rw [HR.out], hBr⟩
                  case measure => simp [intOf]; omega
              | false =>
                have HR : Hid (allZ (zs.take (t + 1)) = false) := Lib.hid (by rw [HST.out]; rfl)
                go_wp2
                go_roundw
                case rel => exact ⟨t + 1, by omega, by go_num, by rw [HR.out], hBr⟩
                case measure => simp [intOf]; omega
            · have hdj : decide ((t : Int) < (j : Int)) = false := decide_eq_false (by omega)
              obtain rfl : t = j := by omega
              rw [show allZ (zs.take t) = allZ zs by rw [← HZL.out, List.take_length]]
              have hVZ6 := hVZ.below hBr
              have hB6 := hB5.trans (hBr.mono hB5.size)
              have hP6 := hP5.keep hBr
              have k0 := hP6.1
              have k1 := hP6.2.1
              have k2 := hP6.2.2
              clear hBr hB5 hP5 hVZ
              have hez := energy_zero (s := s) (a := a) (x := zs) (D := edgesL n) hs0 ha0
              have hbd := energy_bd (D := edgesL n) ⟨hs0, hs1⟩ ⟨ha0, ha1⟩ (small_within hW1) (by rw [HZL.out]; omega) (edges_len (n := n) (by omega))
              have hE0 : 0 ≤ energyL s a zs (edgesL n) := by unfold energyL; omega
              have hE1 : energyL s a zs (edgesL n) ≤ 85070591730234615865843651857942052864 := by unfold energyL; omega
              go_wp2_with fail
              refine (energy_at n s a p5 zs c5 t _ HZL.out (hT.below hB6) hVZ6 HEN.out).mono ?_
              rintro e wG ⟨rfl, hbG⟩
              replace hB6 := hB6.trans (hbG.mono hB6.size)
              have HB6 := Lib.hid hB6
              clear hbG hVZ6 k0 k1 k2 hP6 hbd hB6
              generalize energyL s a zs (edgesL n) = E at *
              obtain ⟨S1, S2, q1, q2, hS⟩ := wv_parts E
              rw [hS]
              have h00 : wrap64 (0 / 18446744073709551616) = 0 := by unfold wrap64; omega
              by_cases hE : E = 0
              · have hS10 : S1 = 0 := by rw [q1, hE]; exact h00
                have hS20 : S2 = 0 := by rw [q2, hE]; omega
                have hall : allZ zs = true := allZ_true (hez.1 hE)
                rw [hS10, hS20, hall]
                clear q1 q2 hS hez hE hE0 hE1 h00 hall hS10 hS20
                go_wp2
                go_ret
                exact ⟨rfl, HB6.out.alloc HB6.out.size _⟩
              · have hall : allZ zs = false := by
                  cases e : allZ zs with
                  | false => rfl
                  | true => exact absurd (hez.2 (allZ_zero e)) hE
                have hne := wide_ne (p := E) (q := 0) (by omega) (by omega) (by omega) (by omega) hE
                rw [← q1, ← q2, h00, show (0 : Int) % 18446744073709551616 = 0 by omega] at hne
                rw [hall]
                clear q1 q2 hS hez hE hE0 hE1 h00 hall
                rcases hne with h1 | ⟨h1, h2⟩
                · have hb1 : (S1 == 0) = false := by rw [beq_eq_false_iff_ne]; exact h1
                  clear h1
                  go_wp2
                  go_ret
                  exact ⟨rfl, HB6.out.alloc HB6.out.size _⟩
                · subst h1
                  have hb1 : (S2 == 0) = false := by rw [beq_eq_false_iff_ne]; exact h2
                  clear h2
                  go_wp2
                  go_ret
                  exact ⟨rfl, HB6.out.alloc HB6.out.size _⟩
end Go.Proofs.YtpbfgnffkhabnaaDoor
