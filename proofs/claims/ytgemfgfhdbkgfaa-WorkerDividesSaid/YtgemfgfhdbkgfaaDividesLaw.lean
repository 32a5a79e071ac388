import Derived.Test.YtgemfgfhdbkgfaaBoth
set_option linter.unusedSimpArgs false
set_option linter.unusedVariables false
namespace Go.Proofs.Ytgemfgfhdbkgfaa
open Go.RowKit

set_option maxRecDepth 100000 in
set_option maxHeartbeats 100000000 in
theorem dividesLaw (a0 a1 a2 : Int) (w : World) (r0 : -9223372036854775808 ≤ a0 ∧ a0 ≤ 9223372036854775807) (r1 : -9223372036854775808 ≤ a1 ∧ a1 ≤ 9223372036854775807) (r2 : -9223372036854775808 ≤ a2 ∧ a2 ≤ 9223372036854775807)
    (pr : Option Addr) (capr rb ro : Nat) (rl : List Pt) (hpr : 0 < rl.length → pr = some ⟨rb, ro, none⟩) (hraw : PartsAt w rb ro rl) (hcapr : rl.length ≤ capr) (hcapr' : capr ≤ 9223372036854775807)
    (pc : Option Addr) (capc cb co : Nat) (L : List Int) (hpc : 0 < L.length → pc = some ⟨cb, co, none⟩) (hcapc : L.length ≤ capc) (hcapc' : capc ≤ 9223372036854775807)
    (hcell : ∀ k (h : k < L.length), w.cell? ⟨cb, co + k, none⟩ = some (.int .u8 L[k]) ∧ 0 ≤ L[k] ∧ L[k] < 256) :
    Calls Try.prog 5 #[.int .i64 a0, .int .i64 a1, .int .i64 a2, .slice pr rl.length capr, .slice pc L.length capc] w fun e w' => e = .returned (.bool true) ∧ Below w.heap.size w w' := by
  go_enter Try.func5, Try.ntmps5
  go_wp2_with fail
  refine (awake24 w).mono ?_
  rintro e w1 ⟨rfl, hb1⟩
  by_cases h30 : rl.length > 30
  · clear hcell hpc hpr hraw
    go_wp2
    go_ret
    exact ⟨rfl, hb1⟩
  · have h30' : decide (30 < (rl.length : Int)) = false := decide_eq_false (by omega)
    have hcell1 : ∀ k (h : k < L.length), w1.cell? ⟨cb, co + k, none⟩ = some (.int .u8 L[k]) ∧ 0 ≤ L[k] ∧ L[k] < 256 := fun k h => ⟨RX.keep hb1 (hcell k h).1, (hcell k h).2⟩
    have hcb : 0 < L.length → cb < w.heap.size := fun h0 => World.block_lt_of_cell? w _ (hcell 0 h0).1
    have hnew := new_any w1 pc capc cb co 60 L (by omega) hpc hcapc hcapc' hcell1
    clear hcell hcell1 hpc
    go_wp2_with fail
    refine hnew.mono ?_
    rintro e w2 ⟨rfl, hb2, b', hb', hC⟩
    obtain ⟨g, hg⟩ : ∃ g, g = w1.heap.size := ⟨_, rfl⟩
    have hb12 : Below w.heap.size w w2 := hb1.trans (hb2.mono hb1.size)
    rw [← hg] at hC hb' ⊢
    have hgw : w.heap.size ≤ g := by have := hb1.size; omega
    clear hb1 hb2 hnew hg
    obtain ⟨L', hL'⟩ : ∃ L', L' = L.take 60 := ⟨_, rfl⟩
    rw [← hL'] at hC
    have hb2' : 0 < L'.length → b' < g := fun h => hb' (by rw [hL'] at h; simp at h; omega)
    clear hL' hb' hcb
    go_wp2_with fail
    refine (next_any w2 g b' L' 0 60 hC (by omega)).mono ?_
    rintro e w3 ⟨c1, rfl, hc1, hg3, j3, hC3⟩
    have hb3 := hb12.grown hg3 hb12.size (fun k hk => by injection hk with hk; omega)
    clear hC hg3 hb12
    go_wp2_with fail
    refine (next_any w3 g b' L' j3 20 hC3 (by omega)).mono ?_
    rintro e w4 ⟨c2, rfl, hc2, hg4, j4, hC4⟩
    have hb4 := hb3.grown hg4 hb3.size (fun k hk => by injection hk with hk; omega)
    clear hC3 hg4 hb3
    go_wp2_with fail
    refine (next_any w4 g b' L' j4 16 hC4 (by omega)).mono ?_
    rintro e w5 ⟨c3, rfl, hc3, hg5, j5, hC5⟩
    have hb5 := hb4.grown hg5 hb4.size (fun k hk => by injection hk with hk; omega)
    clear hC4 hg5 hb4
    go_wp2_with fail
    refine (fmod_any a1 9 w5 (by omega) (by omega) (by omega) (by omega)).mono ?_
    rintro e w6 ⟨rfl, rfl⟩
    go_wp2_with fail
    refine (fmod_any a2 18 w5 (by omega) (by omega) (by omega) (by omega)).mono ?_
    rintro e w6 ⟨rfl, rfl⟩
    obtain ⟨m9, hm9⟩ : ∃ m, m = a1 % 9 := ⟨_, rfl⟩
    obtain ⟨m18, hm18⟩ : ∃ m, m = a2 % 18 := ⟨_, rfl⟩
    rw [← hm9, ← hm18]
    clear hm9 hm18
    obtain ⟨c3', hc3'⟩ : ∃ m : Int, m = 1 + (c3 : Int) := ⟨_, rfl⟩
    go_wp2
    have hgl : g < w5.heap.size := hC5.lt
    have hbl : 0 < L'.length → b' < w5.heap.size := fun h0 => by have := hb2' h0; omega
    have hscene : ∃ T : Nat → Nat → Int, Scene w g b' w5.heap.size L' T (w5.alloc (.cells #[.int .i64 a0, .int .i64 a1, .int .i64 a2, .int .i64 c1, .int .i64 c2, .int .i64 (1 + c3), .int .i64 12, .int .i64 m9, .int .i64 m18] 42)) := by
      refine ⟨fun k f => ([a0, a1, a2, (c1 : Int), (c2 : Int), 1 + (c3 : Int), 12, m9, m18]).getD (k * 3 + f) 0, hb5.alloc hb5.size _, ⟨j5, hC5.below ((Below.refl _ _).alloc (Nat.le_refl _) _)⟩, fun k hk => ?_⟩
      match k, hk with
      | 0, _ | 1, _ | 2, _ => refine ⟨?_, ?_, ?_⟩ <;> rw [RX.cell_alloc] <;> simp
      | k + 3, hk => omega
    obtain ⟨T, hS⟩ := hscene
    have hZw : w.heap.size ≤ w5.heap.size := hb5.size
    generalize (w5.alloc (.cells #[.int .i64 a0, .int .i64 a1, .int .i64 a2, .int .i64 c1, .int .i64 c2, .int .i64 (1 + c3), .int .i64 12, .int .i64 m9, .int .i64 m18] 42)) = w6 at hS ⊢
    generalize w5.heap.size = Z at hS hgl hbl hZw ⊢
    clear hC5 hb5
    go_loopw [46] (fun i wr => ∃ k : Nat, k ≤ 3 ∧ i = .int .i64 (k : Int) ∧ Scene w g b' Z L' T wr) (fun i _ => 3 - (intOf i).toNat)
    case atStart => exact ⟨0, by omega, rfl, hS⟩
    case round =>
      clear hS
      obtain ⟨k, hk, rfl, hS⟩ := hrel
      by_cases hlt : k < 3
      · obtain ⟨t0, t1, t2⟩ := hS.tri k hlt
        generalize T k 0 = x0 at t0
        generalize T k 1 = x1 at t1
        generalize T k 2 = x2 at t2
        go_wp2_with fail
        have hwV : w.heap.size ≤ wr.heap.size := hS.below.size
        have hgV : g < wr.heap.size := by obtain ⟨j, hj⟩ := hS.reader; exact hj.lt
        have hbV : 0 < L'.length → b' < wr.heap.size := fun h0 => by obtain ⟨j, hj⟩ := hS.reader; exact hj.ltb h0
        have hZV : Z < wr.heap.size := World.block_lt_of_cell? wr _ t0
        have hSA : Scene w g b' Z L' T (wr.alloc (.cells #[.int .i64 x0, .int .i64 x1, .int .i64 x2] 42)) := hS.step ((Below.refl _ _).alloc (Nat.le_refl _) _)
        have v0 : (wr.alloc (.cells #[.int .i64 x0, .int .i64 x1, .int .i64 x2] 42)).cell? ⟨wr.heap.size, 0, none⟩ = some (.int .i64 x0) := by rw [RX.cell_alloc]; simp
        have v1 : (wr.alloc (.cells #[.int .i64 x0, .int .i64 x1, .int .i64 x2] 42)).cell? ⟨wr.heap.size, 1, none⟩ = some (.int .i64 x1) := by rw [RX.cell_alloc]; simp
        have v2 : (wr.alloc (.cells #[.int .i64 x0, .int .i64 x1, .int .i64 x2] 42)).cell? ⟨wr.heap.size, 2, none⟩ = some (.int .i64 x2) := by rw [RX.cell_alloc]; simp
        have hVA : wr.heap.size < (wr.alloc (.cells #[.int .i64 x0, .int .i64 x1, .int .i64 x2] 42)).heap.size := by simp
        clear t0 t1 t2 hS
        generalize (wr.alloc (.cells #[.int .i64 x0, .int .i64 x1, .int .i64 x2] 42)) = wA at *
        generalize wr.heap.size = V at *
        refine (divide_any x0 x1 x2 wA).mono ?_
        rintro e w7 ⟨pl, gl, cl, rfl, hrowl, hb7, hpl, hPl, hcl, hgl'⟩
        have hS7 := hSA.step hb7
        replace v0 := RX.keep hb7 v0
        replace v1 := RX.keep hb7 v1
        replace v2 := RX.keep hb7 v2
        have hV7 : V < w7.heap.size := Nat.lt_of_lt_of_le hVA hb7.size
        clear hSA hb7 hrowl hgl'
        go_wp2_with fail
        refine (refDivide_any x0 x1 x2 w7).mono ?_
        rintro e w8 ⟨pm, gm, cm, rfl, hrowm, hb8, hpm, hPm, hcm, hgm'⟩
        have hS8 := hS7.step hb8
        replace v0 := RX.keep hb8 v0
        replace v1 := RX.keep hb8 v1
        replace v2 := RX.keep hb8 v2
        replace hPl := hPl.below hb8
        replace hgm' : 0 < divN x0 x1 x2 → V < gm := fun h0 => by have := hgm' h0; omega
        have hEok : divE x0 x1 x2 = 0 → checkB (ptsOf x0 x1 x2 (divN x0 x1 x2)) x0 x1 = true := divE_ok
        have hEN : (divE x0 x1 x2 = 0 ∧ 0 < divN x0 x1 x2) ∨ (divE x0 x1 x2 = 1 ∧ divN x0 x1 x2 = 0) := divEN x0 x1 x2
        have hN16 := divN_le x0 x1 x2
        have hlen : (ptsOf x0 x1 x2 (divN x0 x1 x2)).length = divN x0 x1 x2 := by simp [ptsOf]
        have hV8 : V < w8.heap.size := Nat.lt_of_lt_of_le hV7 hb8.size
        clear hS7 hb8 hV7 hVA
        generalize ptsOf x0 x1 x2 (divN x0 x1 x2) = l at *
        generalize partsTo x0 x1 x2 (divN x0 x1 x2) = xs at *
        generalize divN x0 x1 x2 = N at *
        subst hlen
        generalize divE x0 x1 x2 = E at *
        go_wp2
        go_loopw [18, 82] (fun _ i wr => ∃ j : Nat, j ≤ l.length ∧ i = .int .i64 (j : Int) ∧ Below w8.heap.size w8 wr) (fun _ i _ => l.length - (intOf i).toNat)
        case atStart => exact ⟨0, Nat.zero_le _, rfl, Below.refl _ _⟩
        case round =>
          obtain ⟨j, hj, rfl, hb9⟩ := hrel
          by_cases hjl : j < l.length
          · obtain rfl := hpl (by omega)
            obtain rfl := hpm (by omega)
            have hw := hPl.below hb9
            have hw' := hPm.below hb9
            have d0 := hw.c0 j hjl
            have d1 := hw.c1 j hjl
            have d2 := hw.c2 j hjl
            have d3 := hw.c3 j hjl
            have e0 := hw'.c0 j hjl
            have e1 := hw'.c1 j hjl
            have e2 := hw'.c2 j hjl
            have e3 := hw'.c3 j hjl
            simp only [Nat.zero_add] at d0 d1 d2 d3 e0 e1 e2 e3
            generalize l[j] = y at d0 d1 d2 d3 e0 e1 e2 e3
            obtain ⟨y0, y1, y2, y3⟩ := y
            simp only at d0 d1 d2 d3 e0 e1 e2 e3
            clear hw hw'
            go_wp2
            refine RX.region RX.fL (fun w' => w' = _) (by kernel_rfl) (by kernel_rfl) rfl (fun OPS HO QR hQR => ?_)
            repeat
              refine RX.step (fun R hR => ?_)
              first
              | (refine RX.one_skip (by first | rfl | (rw [HO.out]; rfl)) (by simp only [RX.put_some, List.set_cons_zero, List.set_cons_succ]; rfl) ?_
                 refine hR _ _ ?_; clear hR R)
              | (refine RX.one_move (by first | rfl | (rw [HO.out]; rfl)) rfl (by first | exact Or.inl rfl | exact Or.inr rfl) (by simp only [RX.eval_tmp, RX.eval_const, List.getD_cons_zero, List.getD_cons_succ]; rfl) (by simp only [RX.put_some, List.set_cons_zero, List.set_cons_succ]; rfl) ?_
                 refine hR _ _ ?_; clear hR R)
              | (refine RX.one_nil (by first | rfl | (rw [HO.out]; rfl)) rfl rfl (by simp only [RX.eval_tmp, RX.eval_const, List.getD_cons_zero, List.getD_cons_succ]; rfl) (by simp only [RX.put_some, List.set_cons_zero, List.set_cons_succ]; rfl) ?_
                 refine hR _ _ ?_; clear hR R)
              | (refine RX.one_float (by first | rfl | (rw [HO.out]; rfl)) rfl rfl rfl ?_
                 apply Exists.intro; apply Exists.intro
                 refine ⟨fun w' hS K hK => ?_, ?_, ?_⟩
                 · subst hS; go_wp2; exact hK _ _ (by simp only [RX.arr_getD, List.getD_cons_zero, List.getD_cons_succ]; first | exact RX.dec_t (by omega) | exact RX.dec_f (by omega) | exact RX.beq_t (by omega) | exact RX.beq_f (by omega) | exact RX.bne_t (by omega) | exact RX.bne_f (by omega) | exact RX.bneB _ | rfl) rfl
                 · simp only [RX.put_some, List.set_cons_zero, List.set_cons_succ]; rfl
                 refine hR _ _ ?_; clear hR R)
            refine RX.wpL_nil (hQR _ _ rfl ?_); clear hQR QR HO OPS
            go_wp2
            go_roundw
            case rel => exact ⟨j + 1, by omega, by go_num, hb9.drew⟩
            case measure => simp [intOf]; omega
          · obtain rfl : j = l.length := by omega
            have hS9 := hS8.step hb9
            replace v0 := RX.keep hb9 v0
            replace v1 := RX.keep hb9 v1
            replace v2 := RX.keep hb9 v2
            have hrow9 := hrowm.below hb9
            replace hPl := hPl.below hb9
            replace hPm := hPm.below hb9
            have hV9 : V < _ := Nat.lt_of_lt_of_le hV8 hb9.size
            clear hS8 hrowm hb9 hV8
            by_cases h1 : x0 > 300
            ·
              go_wp2
              go_roundw
              case rel => exact ⟨k + 1, by omega, by go_num, hS9⟩
              case measure => simp [intOf]; omega
            by_cases h2 : x1 > 300
            ·
              go_wp2
              go_roundw
              case rel => exact ⟨k + 1, by omega, by go_num, hS9⟩
              case measure => simp [intOf]; omega
            by_cases h3 : x0 < 0
            ·
              go_wp2
              go_roundw
              case rel => exact ⟨k + 1, by omega, by go_num, hS9⟩
              case measure => simp [intOf]; omega
            by_cases h4 : x1 < 0
            ·
              go_wp2
              go_roundw
              case rel => exact ⟨k + 1, by omega, by go_num, hS9⟩
              case measure => simp [intOf]; omega
            have hrawB := hraw.below hS9.below
            by_cases hE0 : E = 0
            · rcases hEN with ⟨_, hN⟩ | ⟨h5, _⟩
              · obtain rfl := hpl hN
                obtain rfl := hpm hN
                have hl1 : l.length ≤ 1000 := by omega
                have hck := hEok hE0
                subst hE0
                clear hpl hpm hEok hPm
                go_wp2_with fail
                refine (checkP_any wr gl 0 l (some ⟨gl, 0, none⟩) cl x0 x1 (fun _ => rfl) hPl hcl hl1).mono ?_
                rintro e w9 ⟨hb9, rfl⟩
                rw [hck]
                have hS10 := hS9.step hb9
                replace v0 := RX.keep hb9 v0
                replace v1 := RX.keep hb9 v1
                replace hrow9 := hrow9.below hb9
                replace hV9 : V < w9.heap.size := Nat.lt_of_lt_of_le hV9 hb9.size
                have hVm := hgm' hN
                clear hS9 hb9 hPl hck
                obtain ⟨j9, hC9⟩ := hS10.reader
                go_wp2_with fail
                refine (next_any w9 g b' L' j9 l.length hC9 (by omega)).mono ?_
                rintro e w10 ⟨r, rfl, hr, hg10, j10, hC10⟩
                replace hr : r < l.length := by omega
                have hS11 := hS10.read hg10 hgw (by omega) ⟨j10, hC10⟩
                replace v0 := hg10.cell v0 (by simp; omega)
                replace v1 := hg10.cell v1 (by simp; omega)
                have hrow10 := hrow9.kept hg10 (.inr (by simp [Value.ownBlock]; omega))
                replace hV9 : V < w10.heap.size := Nat.lt_of_lt_of_le hV9 hg10.size
                clear hS10 hC9 hg10 hrow9
                go_wp2_with fail
                refine (next_any w10 g b' L' j10 4 hC10 (by omega)).mono ?_
                rintro e w11 ⟨q, rfl, hq, hg11, j11, hC11⟩
                replace hq : q < 4 := by omega
                have hS12 := hS11.read hg11 hgw (by omega) ⟨j11, hC11⟩
                replace v0 := hg11.cell v0 (by simp; omega)
                replace v1 := hg11.cell v1 (by simp; omega)
                have hrow11 := hrow10.kept hg11 (.inr (by simp [Value.ownBlock]; omega))
                replace hV9 : V < w11.heap.size := Nat.lt_of_lt_of_le hV9 hg11.size
                clear hS11 hC10 hg11 hrow10
                obtain ⟨z0, hz0⟩ := hrow11.cell (r * 4) (by omega)
                obtain ⟨z1, hz1⟩ := hrow11.cell (r * 4 + 1) (by omega)
                obtain ⟨z2, hz2⟩ := hrow11.cell (r * 4 + 2) (by omega)
                obtain ⟨z3, hz3⟩ := hrow11.cell (r * 4 + 3) (by omega)
                have f0 := hrow11.frozen (r * 4)
                have f1 := hrow11.frozen (r * 4 + 1)
                have f2 := hrow11.frozen (r * 4 + 2)
                have f3 := hrow11.frozen (r * 4 + 3)
                by_cases hq0 : q = 0
                ·
                  subst hq0
                  go_wp2_with fail
                  refine (int_any w11 g b' L' j11 hC11).mono ?_
                  rintro e w12 ⟨x, rfl, hxa, hxb, hg12, hC12⟩
                  have hS13 := hS12.read hg12 hgw (by omega) hC12
                  replace v0 := hg12.cell v0 (by simp; omega)
                  replace v1 := hg12.cell v1 (by simp; omega)
                  have hrow12 := hrow11.kept hg12 (.inr (by simp [Value.ownBlock]; omega))
                  replace hz0 := hg12.cell hz0 (by simp; omega)
                  replace f0 := hrow12.frozen (r * 4)
                  clear hS12 hrow11 hg12 hC12 hC11 hz1 hz2 hz3 f1 f2 f3
                  go_wp2_with fail
                  have hR := hrow12.set (r * 4) (by omega) x
                  have hS14 := hS13.other (grownBy_setCell w12 gm (r * 4) (.int .i64 x)) (by omega) (by omega) (fun h0 => by have := hbV h0; omega) (by omega)
                  replace v0 := (grownBy_setCell w12 gm (r * 4) (.int .i64 x)).cell v0 (by simp; omega)
                  replace v1 := (grownBy_setCell w12 gm (r * 4) (.int .i64 x)).cell v1 (by simp; omega)
                  clear hS13 hrow12 hz0 f0
                  generalize (w12.setCell ⟨gm, r * 4, none⟩ (.int .i64 x)) = w13 at *
                  obtain ⟨p', g', c', l', hv', hl', hp', hP', hc', _⟩ := hR.form
                  injection hv' with e1 e2 e3
                  subst e1
                  subst e3
                  rw [← hl']
                  have hl3 : l'.length ≤ 1000 := by omega
                  clear hR e2 hl'
                  have hPd : PartsAt w13.drew g' 0 l' := hP'.kept (fun _ => rfl)
                  have hrd : PartsAt w13.drew rb ro rl := (hraw.below hS14.below).kept (fun _ => rfl)
                  have hSd : Scene w g b' Z L' T w13.drew := hS14.step ((Below.refl _ _).drew)
                  have hx0 : x0 ≤ 100000 := by omega
                  have hx1 : x1 ≤ 100000 := by omega
                  have hr1000 : rl.length ≤ 1000 := by omega
                  have hl1000 : (l').length ≤ 1000 := hl3
                  refine RX.region RX.fL (fun w' => w'.cell? ⟨V, 0, none⟩ = some (.int .i64 x0) ∧ w'.cell? ⟨V, 1, none⟩ = some (.int .i64 x1)) (by kernel_rfl) (by kernel_rfl) (⟨v0, v1⟩) (fun OPS HO QR hQR => ?_)
                  repeat
                    refine RX.step (fun R hR => ?_)
                    first
                    | (refine RX.one_skip (by first | rfl | (rw [HO.out]; rfl)) (by simp only [RX.put_some, List.set_cons_zero, List.set_cons_succ]; rfl) ?_
                       refine hR _ _ ?_; clear hR R)
                    | (refine RX.one_move (by first | rfl | (rw [HO.out]; rfl)) rfl (by first | exact Or.inl rfl | exact Or.inr rfl) (by simp only [RX.eval_tmp, RX.eval_const, List.getD_cons_zero, List.getD_cons_succ]; rfl) (by simp only [RX.put_some, List.set_cons_zero, List.set_cons_succ]; rfl) ?_
                       refine hR _ _ ?_; clear hR R)
                    | (refine RX.one_nil (by first | rfl | (rw [HO.out]; rfl)) rfl rfl (by simp only [RX.eval_tmp, RX.eval_const, List.getD_cons_zero, List.getD_cons_succ]; rfl) (by simp only [RX.put_some, List.set_cons_zero, List.set_cons_succ]; rfl) ?_
                       refine hR _ _ ?_; clear hR R)
                    | (refine RX.one_float (by first | rfl | (rw [HO.out]; rfl)) rfl rfl rfl ?_
                       apply Exists.intro; apply Exists.intro
                       refine ⟨fun w' hS K hK => ?_, ?_, ?_⟩
                       · obtain ⟨q0, q1⟩ := hS; go_wp2; exact hK _ _ (by simp only [RX.arr_getD, List.getD_cons_zero, List.getD_cons_succ]; first | exact RX.dec_t (by omega) | exact RX.dec_f (by omega) | exact RX.beq_t (by omega) | exact RX.beq_f (by omega) | exact RX.bne_t (by omega) | exact RX.bne_f (by omega) | exact RX.bneB _ | rfl) rfl
                       · simp only [RX.put_some, List.set_cons_zero, List.set_cons_succ]; rfl
                       refine hR _ _ ?_; clear hR R)
                  refine RX.step (fun R hR => ?_)
                  refine RX.one_chain (by first | rfl | (rw [HO.out]; rfl)) rfl (fun K hK => ?_)
                  go_wp2_with fail
                  refine (checkP_any w13.drew g' 0 l' (some ⟨gm, 0, none⟩) cm x0 x1 hp' hPd hc' hl1000).mono ?_
                  rintro e y1 ⟨hy1, rfl⟩
                  have hSy1 := hSd.step hy1
                  have hPy1 := hPd.below hy1
                  have hry1 := hrd.below hy1
                  have u0 : y1.cell? ⟨V, 0, none⟩ = some (.int .i64 x0) := RX.keep (w := w13.drew) hy1 v0
                  have u1 : y1.cell? ⟨V, 1, none⟩ = some (.int .i64 x1) := RX.keep (w := w13.drew) hy1 v1
                  clear hPd hrd hSd hy1
                  refine hK _ _ ⟨⟨u0, u1⟩, hR _ _ ?_⟩; clear hK K hR R
                  repeat
                    refine RX.step (fun R hR => ?_)
                    first
                    | (refine RX.one_skip (by first | rfl | (rw [HO.out]; rfl)) (by simp only [RX.put_some, List.set_cons_zero, List.set_cons_succ]; rfl) ?_
                       refine hR _ _ ?_; clear hR R)
                    | (refine RX.one_move (by first | rfl | (rw [HO.out]; rfl)) rfl (by first | exact Or.inl rfl | exact Or.inr rfl) (by simp only [RX.eval_tmp, RX.eval_const, List.getD_cons_zero, List.getD_cons_succ]; rfl) (by simp only [RX.put_some, List.set_cons_zero, List.set_cons_succ]; rfl) ?_
                       refine hR _ _ ?_; clear hR R)
                    | (refine RX.one_nil (by first | rfl | (rw [HO.out]; rfl)) rfl rfl (by simp only [RX.eval_tmp, RX.eval_const, List.getD_cons_zero, List.getD_cons_succ]; rfl) (by simp only [RX.put_some, List.set_cons_zero, List.set_cons_succ]; rfl) ?_
                       refine hR _ _ ?_; clear hR R)
                    | (refine RX.one_float (by first | rfl | (rw [HO.out]; rfl)) rfl rfl rfl ?_
                       apply Exists.intro; apply Exists.intro
                       refine ⟨fun w' hS K hK => ?_, ?_, ?_⟩
                       · obtain ⟨q0, q1⟩ := hS; go_wp2; exact hK _ _ (by simp only [RX.arr_getD, List.getD_cons_zero, List.getD_cons_succ]; first | exact RX.dec_t (by omega) | exact RX.dec_f (by omega) | exact RX.beq_t (by omega) | exact RX.beq_f (by omega) | exact RX.bne_t (by omega) | exact RX.bne_f (by omega) | exact RX.bneB _ | rfl) rfl
                       · simp only [RX.put_some, List.set_cons_zero, List.set_cons_succ]; rfl
                       refine hR _ _ ?_; clear hR R)
                  refine RX.step (fun R hR => ?_)
                  refine RX.one_chain (by first | rfl | (rw [HO.out]; rfl)) rfl (fun K hK => ?_)
                  go_wp2_with fail
                  refine (refCheck_any y1 g' 0 l' (some ⟨gm, 0, none⟩) cm x0 x1 hp' hPy1 hc' hl1000 hx0 hx1).mono ?_
                  rintro e y2 ⟨hy2, rfl⟩
                  have hSy2 := hSy1.step hy2
                  have hry2 := hry1.below hy2
                  replace u0 := RX.keep hy2 u0
                  replace u1 := RX.keep hy2 u1
                  clear hPy1 hry1 hSy1 hy2
                  refine hK _ _ ⟨⟨u0, u1⟩, hR _ _ ?_⟩; clear hK K hR R
                  repeat
                    refine RX.step (fun R hR => ?_)
                    first
                    | (refine RX.one_skip (by first | rfl | (rw [HO.out]; rfl)) (by simp only [RX.put_some, List.set_cons_zero, List.set_cons_succ]; rfl) ?_
                       refine hR _ _ ?_; clear hR R)
                    | (refine RX.one_move (by first | rfl | (rw [HO.out]; rfl)) rfl (by first | exact Or.inl rfl | exact Or.inr rfl) (by simp only [RX.eval_tmp, RX.eval_const, List.getD_cons_zero, List.getD_cons_succ]; rfl) (by simp only [RX.put_some, List.set_cons_zero, List.set_cons_succ]; rfl) ?_
                       refine hR _ _ ?_; clear hR R)
                    | (refine RX.one_nil (by first | rfl | (rw [HO.out]; rfl)) rfl rfl (by simp only [RX.eval_tmp, RX.eval_const, List.getD_cons_zero, List.getD_cons_succ]; rfl) (by simp only [RX.put_some, List.set_cons_zero, List.set_cons_succ]; rfl) ?_
                       refine hR _ _ ?_; clear hR R)
                    | (refine RX.one_float (by first | rfl | (rw [HO.out]; rfl)) rfl rfl rfl ?_
                       apply Exists.intro; apply Exists.intro
                       refine ⟨fun w' hS K hK => ?_, ?_, ?_⟩
                       · obtain ⟨q0, q1⟩ := hS; go_wp2; exact hK _ _ (by simp only [RX.arr_getD, List.getD_cons_zero, List.getD_cons_succ]; first | exact RX.dec_t (by omega) | exact RX.dec_f (by omega) | exact RX.beq_t (by omega) | exact RX.beq_f (by omega) | exact RX.bne_t (by omega) | exact RX.bne_f (by omega) | exact RX.bneB _ | rfl) rfl
                       · simp only [RX.put_some, List.set_cons_zero, List.set_cons_succ]; rfl
                       refine hR _ _ ?_; clear hR R)
                  refine RX.step (fun R hR => ?_)
                  refine RX.one_chain (by first | rfl | (rw [HO.out]; rfl)) rfl (fun K hK => ?_)
                  go_wp2_with fail
                  refine (checkP_any y2 rb ro rl pr capr x0 x1 hpr hry2 hcapr hr1000).mono ?_
                  rintro e y3 ⟨hy3, rfl⟩
                  have hSy3 := hSy2.step hy3
                  have hry3 := hry2.below hy3
                  replace u0 := RX.keep hy3 u0
                  replace u1 := RX.keep hy3 u1
                  clear hry2 hSy2 hy3
                  refine hK _ _ ⟨⟨u0, u1⟩, hR _ _ ?_⟩; clear hK K hR R
                  repeat
                    refine RX.step (fun R hR => ?_)
                    first
                    | (refine RX.one_skip (by first | rfl | (rw [HO.out]; rfl)) (by simp only [RX.put_some, List.set_cons_zero, List.set_cons_succ]; rfl) ?_
                       refine hR _ _ ?_; clear hR R)
                    | (refine RX.one_move (by first | rfl | (rw [HO.out]; rfl)) rfl (by first | exact Or.inl rfl | exact Or.inr rfl) (by simp only [RX.eval_tmp, RX.eval_const, List.getD_cons_zero, List.getD_cons_succ]; rfl) (by simp only [RX.put_some, List.set_cons_zero, List.set_cons_succ]; rfl) ?_
                       refine hR _ _ ?_; clear hR R)
                    | (refine RX.one_nil (by first | rfl | (rw [HO.out]; rfl)) rfl rfl (by simp only [RX.eval_tmp, RX.eval_const, List.getD_cons_zero, List.getD_cons_succ]; rfl) (by simp only [RX.put_some, List.set_cons_zero, List.set_cons_succ]; rfl) ?_
                       refine hR _ _ ?_; clear hR R)
                    | (refine RX.one_float (by first | rfl | (rw [HO.out]; rfl)) rfl rfl rfl ?_
                       apply Exists.intro; apply Exists.intro
                       refine ⟨fun w' hS K hK => ?_, ?_, ?_⟩
                       · obtain ⟨q0, q1⟩ := hS; go_wp2; exact hK _ _ (by simp only [RX.arr_getD, List.getD_cons_zero, List.getD_cons_succ]; first | exact RX.dec_t (by omega) | exact RX.dec_f (by omega) | exact RX.beq_t (by omega) | exact RX.beq_f (by omega) | exact RX.bne_t (by omega) | exact RX.bne_f (by omega) | exact RX.bneB _ | rfl) rfl
                       · simp only [RX.put_some, List.set_cons_zero, List.set_cons_succ]; rfl
                       refine hR _ _ ?_; clear hR R)
                  refine RX.step (fun R hR => ?_)
                  refine RX.one_chain (by first | rfl | (rw [HO.out]; rfl)) rfl (fun K hK => ?_)
                  go_wp2_with fail
                  refine (refCheck_any y3 rb ro rl pr capr x0 x1 hpr hry3 hcapr hr1000 hx0 hx1).mono ?_
                  rintro e y4 ⟨hy4, rfl⟩
                  have hSy4 := hSy3.step hy4
                  replace u0 := RX.keep hy4 u0
                  replace u1 := RX.keep hy4 u1
                  clear hry3 hSy3 hy4
                  refine hK _ _ ⟨⟨u0, u1⟩, hR _ _ ?_⟩; clear hK K hR R
                  repeat
                    refine RX.step (fun R hR => ?_)
                    first
                    | (refine RX.one_skip (by first | rfl | (rw [HO.out]; rfl)) (by simp only [RX.put_some, List.set_cons_zero, List.set_cons_succ]; rfl) ?_
                       refine hR _ _ ?_; clear hR R)
                    | (refine RX.one_move (by first | rfl | (rw [HO.out]; rfl)) rfl (by first | exact Or.inl rfl | exact Or.inr rfl) (by simp only [RX.eval_tmp, RX.eval_const, List.getD_cons_zero, List.getD_cons_succ]; rfl) (by simp only [RX.put_some, List.set_cons_zero, List.set_cons_succ]; rfl) ?_
                       refine hR _ _ ?_; clear hR R)
                    | (refine RX.one_nil (by first | rfl | (rw [HO.out]; rfl)) rfl rfl (by simp only [RX.eval_tmp, RX.eval_const, List.getD_cons_zero, List.getD_cons_succ]; rfl) (by simp only [RX.put_some, List.set_cons_zero, List.set_cons_succ]; rfl) ?_
                       refine hR _ _ ?_; clear hR R)
                    | (refine RX.one_float (by first | rfl | (rw [HO.out]; rfl)) rfl rfl rfl ?_
                       apply Exists.intro; apply Exists.intro
                       refine ⟨fun w' hS K hK => ?_, ?_, ?_⟩
                       · obtain ⟨q0, q1⟩ := hS; go_wp2; exact hK _ _ (by simp only [RX.arr_getD, List.getD_cons_zero, List.getD_cons_succ]; first | exact RX.dec_t (by omega) | exact RX.dec_f (by omega) | exact RX.beq_t (by omega) | exact RX.beq_f (by omega) | exact RX.bne_t (by omega) | exact RX.bne_f (by omega) | exact RX.bneB _ | rfl) rfl
                       · simp only [RX.put_some, List.set_cons_zero, List.set_cons_succ]; rfl
                       refine hR _ _ ?_; clear hR R)
                  refine RX.wpL_nil (hQR _ _ (⟨u0, u1⟩) ?_); clear hQR QR HO OPS
                  go_wp2
                  go_roundw
                  case rel => exact ⟨k + 1, by omega, by go_num, hSy4⟩
                  case measure => simp [intOf]; omega
                · by_cases hq1 : q = 1
                  ·
                    subst hq1
                    go_wp2_with fail
                    have hR := hrow11.set (r * 4 + 1) (by omega) (wrap64 (z1 + 1))
                    have hS14 := hS12.other (grownBy_setCell w11 gm (r * 4 + 1) (.int .i64 (wrap64 (z1 + 1)))) (by omega) (by omega) (fun h0 => by have := hbV h0; omega) (by omega)
                    replace v0 := (grownBy_setCell w11 gm (r * 4 + 1) (.int .i64 (wrap64 (z1 + 1)))).cell v0 (by simp; omega)
                    replace v1 := (grownBy_setCell w11 gm (r * 4 + 1) (.int .i64 (wrap64 (z1 + 1)))).cell v1 (by simp; omega)
                    clear hS12 hrow11 hC11 hz0 hz1 hz2 hz3 f0 f1 f2 f3
                    generalize (w11.setCell ⟨gm, r * 4 + 1, none⟩ (.int .i64 (wrap64 (z1 + 1)))) = w13 at *
                    obtain ⟨p', g', c', l', hv', hl', hp', hP', hc', _⟩ := hR.form
                    injection hv' with e1 e2 e3
                    subst e1
                    subst e3
                    rw [← hl']
                    have hl3 : l'.length ≤ 1000 := by omega
                    clear hR e2 hl'
                    have hPd : PartsAt w13.drew g' 0 l' := hP'.kept (fun _ => rfl)
                    have hrd : PartsAt w13.drew rb ro rl := (hraw.below hS14.below).kept (fun _ => rfl)
                    have hSd : Scene w g b' Z L' T w13.drew := hS14.step ((Below.refl _ _).drew)
                    have hx0 : x0 ≤ 100000 := by omega
                    have hx1 : x1 ≤ 100000 := by omega
                    have hr1000 : rl.length ≤ 1000 := by omega
                    have hl1000 : (l').length ≤ 1000 := hl3
                    refine RX.region RX.fL (fun w' => w'.cell? ⟨V, 0, none⟩ = some (.int .i64 x0) ∧ w'.cell? ⟨V, 1, none⟩ = some (.int .i64 x1)) (by kernel_rfl) (by kernel_rfl) (⟨v0, v1⟩) (fun OPS HO QR hQR => ?_)
                    repeat
                      refine RX.step (fun R hR => ?_)
                      first
                      | (refine RX.one_skip (by first | rfl | (rw [HO.out]; rfl)) (by simp only [RX.put_some, List.set_cons_zero, List.set_cons_succ]; rfl) ?_
                         refine hR _ _ ?_; clear hR R)
                      | (refine RX.one_move (by first | rfl | (rw [HO.out]; rfl)) rfl (by first | exact Or.inl rfl | exact Or.inr rfl) (by simp only [RX.eval_tmp, RX.eval_const, List.getD_cons_zero, List.getD_cons_succ]; rfl) (by simp only [RX.put_some, List.set_cons_zero, List.set_cons_succ]; rfl) ?_
                         refine hR _ _ ?_; clear hR R)
                      | (refine RX.one_nil (by first | rfl | (rw [HO.out]; rfl)) rfl rfl (by simp only [RX.eval_tmp, RX.eval_const, List.getD_cons_zero, List.getD_cons_succ]; rfl) (by simp only [RX.put_some, List.set_cons_zero, List.set_cons_succ]; rfl) ?_
                         refine hR _ _ ?_; clear hR R)
                      | (refine RX.one_float (by first | rfl | (rw [HO.out]; rfl)) rfl rfl rfl ?_
                         apply Exists.intro; apply Exists.intro
                         refine ⟨fun w' hS K hK => ?_, ?_, ?_⟩
                         · obtain ⟨q0, q1⟩ := hS; go_wp2; exact hK _ _ (by simp only [RX.arr_getD, List.getD_cons_zero, List.getD_cons_succ]; first | exact RX.dec_t (by omega) | exact RX.dec_f (by omega) | exact RX.beq_t (by omega) | exact RX.beq_f (by omega) | exact RX.bne_t (by omega) | exact RX.bne_f (by omega) | exact RX.bneB _ | rfl) rfl
                         · simp only [RX.put_some, List.set_cons_zero, List.set_cons_succ]; rfl
                         refine hR _ _ ?_; clear hR R)
                    refine RX.step (fun R hR => ?_)
                    refine RX.one_chain (by first | rfl | (rw [HO.out]; rfl)) rfl (fun K hK => ?_)
                    go_wp2_with fail
                    refine (checkP_any w13.drew g' 0 l' (some ⟨gm, 0, none⟩) cm x0 x1 hp' hPd hc' hl1000).mono ?_
                    rintro e y1 ⟨hy1, rfl⟩
                    have hSy1 := hSd.step hy1
                    have hPy1 := hPd.below hy1
                    have hry1 := hrd.below hy1
                    have u0 : y1.cell? ⟨V, 0, none⟩ = some (.int .i64 x0) := RX.keep (w := w13.drew) hy1 v0
                    have u1 : y1.cell? ⟨V, 1, none⟩ = some (.int .i64 x1) := RX.keep (w := w13.drew) hy1 v1
                    clear hPd hrd hSd hy1
                    refine hK _ _ ⟨⟨u0, u1⟩, hR _ _ ?_⟩; clear hK K hR R
                    repeat
                      refine RX.step (fun R hR => ?_)
                      first
                      | (refine RX.one_skip (by first | rfl | (rw [HO.out]; rfl)) (by simp only [RX.put_some, List.set_cons_zero, List.set_cons_succ]; rfl) ?_
                         refine hR _ _ ?_; clear hR R)
                      | (refine RX.one_move (by first | rfl | (rw [HO.out]; rfl)) rfl (by first | exact Or.inl rfl | exact Or.inr rfl) (by simp only [RX.eval_tmp, RX.eval_const, List.getD_cons_zero, List.getD_cons_succ]; rfl) (by simp only [RX.put_some, List.set_cons_zero, List.set_cons_succ]; rfl) ?_
                         refine hR _ _ ?_; clear hR R)
                      | (refine RX.one_nil (by first | rfl | (rw [HO.out]; rfl)) rfl rfl (by simp only [RX.eval_tmp, RX.eval_const, List.getD_cons_zero, List.getD_cons_succ]; rfl) (by simp only [RX.put_some, List.set_cons_zero, List.set_cons_succ]; rfl) ?_
                         refine hR _ _ ?_; clear hR R)
                      | (refine RX.one_float (by first | rfl | (rw [HO.out]; rfl)) rfl rfl rfl ?_
                         apply Exists.intro; apply Exists.intro
                         refine ⟨fun w' hS K hK => ?_, ?_, ?_⟩
                         · obtain ⟨q0, q1⟩ := hS; go_wp2; exact hK _ _ (by simp only [RX.arr_getD, List.getD_cons_zero, List.getD_cons_succ]; first | exact RX.dec_t (by omega) | exact RX.dec_f (by omega) | exact RX.beq_t (by omega) | exact RX.beq_f (by omega) | exact RX.bne_t (by omega) | exact RX.bne_f (by omega) | exact RX.bneB _ | rfl) rfl
                         · simp only [RX.put_some, List.set_cons_zero, List.set_cons_succ]; rfl
                         refine hR _ _ ?_; clear hR R)
                    refine RX.step (fun R hR => ?_)
                    refine RX.one_chain (by first | rfl | (rw [HO.out]; rfl)) rfl (fun K hK => ?_)
                    go_wp2_with fail
                    refine (refCheck_any y1 g' 0 l' (some ⟨gm, 0, none⟩) cm x0 x1 hp' hPy1 hc' hl1000 hx0 hx1).mono ?_
                    rintro e y2 ⟨hy2, rfl⟩
                    have hSy2 := hSy1.step hy2
                    have hry2 := hry1.below hy2
                    replace u0 := RX.keep hy2 u0
                    replace u1 := RX.keep hy2 u1
                    clear hPy1 hry1 hSy1 hy2
                    refine hK _ _ ⟨⟨u0, u1⟩, hR _ _ ?_⟩; clear hK K hR R
                    repeat
                      refine RX.step (fun R hR => ?_)
                      first
                      | (refine RX.one_skip (by first | rfl | (rw [HO.out]; rfl)) (by simp only [RX.put_some, List.set_cons_zero, List.set_cons_succ]; rfl) ?_
                         refine hR _ _ ?_; clear hR R)
                      | (refine RX.one_move (by first | rfl | (rw [HO.out]; rfl)) rfl (by first | exact Or.inl rfl | exact Or.inr rfl) (by simp only [RX.eval_tmp, RX.eval_const, List.getD_cons_zero, List.getD_cons_succ]; rfl) (by simp only [RX.put_some, List.set_cons_zero, List.set_cons_succ]; rfl) ?_
                         refine hR _ _ ?_; clear hR R)
                      | (refine RX.one_nil (by first | rfl | (rw [HO.out]; rfl)) rfl rfl (by simp only [RX.eval_tmp, RX.eval_const, List.getD_cons_zero, List.getD_cons_succ]; rfl) (by simp only [RX.put_some, List.set_cons_zero, List.set_cons_succ]; rfl) ?_
                         refine hR _ _ ?_; clear hR R)
                      | (refine RX.one_float (by first | rfl | (rw [HO.out]; rfl)) rfl rfl rfl ?_
                         apply Exists.intro; apply Exists.intro
                         refine ⟨fun w' hS K hK => ?_, ?_, ?_⟩
                         · obtain ⟨q0, q1⟩ := hS; go_wp2; exact hK _ _ (by simp only [RX.arr_getD, List.getD_cons_zero, List.getD_cons_succ]; first | exact RX.dec_t (by omega) | exact RX.dec_f (by omega) | exact RX.beq_t (by omega) | exact RX.beq_f (by omega) | exact RX.bne_t (by omega) | exact RX.bne_f (by omega) | exact RX.bneB _ | rfl) rfl
                         · simp only [RX.put_some, List.set_cons_zero, List.set_cons_succ]; rfl
                         refine hR _ _ ?_; clear hR R)
                    refine RX.step (fun R hR => ?_)
                    refine RX.one_chain (by first | rfl | (rw [HO.out]; rfl)) rfl (fun K hK => ?_)
                    go_wp2_with fail
                    refine (checkP_any y2 rb ro rl pr capr x0 x1 hpr hry2 hcapr hr1000).mono ?_
                    rintro e y3 ⟨hy3, rfl⟩
                    have hSy3 := hSy2.step hy3
                    have hry3 := hry2.below hy3
                    replace u0 := RX.keep hy3 u0
                    replace u1 := RX.keep hy3 u1
                    clear hry2 hSy2 hy3
                    refine hK _ _ ⟨⟨u0, u1⟩, hR _ _ ?_⟩; clear hK K hR R
                    repeat
                      refine RX.step (fun R hR => ?_)
                      first
                      | (refine RX.one_skip (by first | rfl | (rw [HO.out]; rfl)) (by simp only [RX.put_some, List.set_cons_zero, List.set_cons_succ]; rfl) ?_
                         refine hR _ _ ?_; clear hR R)
                      | (refine RX.one_move (by first | rfl | (rw [HO.out]; rfl)) rfl (by first | exact Or.inl rfl | exact Or.inr rfl) (by simp only [RX.eval_tmp, RX.eval_const, List.getD_cons_zero, List.getD_cons_succ]; rfl) (by simp only [RX.put_some, List.set_cons_zero, List.set_cons_succ]; rfl) ?_
                         refine hR _ _ ?_; clear hR R)
                      | (refine RX.one_nil (by first | rfl | (rw [HO.out]; rfl)) rfl rfl (by simp only [RX.eval_tmp, RX.eval_const, List.getD_cons_zero, List.getD_cons_succ]; rfl) (by simp only [RX.put_some, List.set_cons_zero, List.set_cons_succ]; rfl) ?_
                         refine hR _ _ ?_; clear hR R)
                      | (refine RX.one_float (by first | rfl | (rw [HO.out]; rfl)) rfl rfl rfl ?_
                         apply Exists.intro; apply Exists.intro
                         refine ⟨fun w' hS K hK => ?_, ?_, ?_⟩
                         · obtain ⟨q0, q1⟩ := hS; go_wp2; exact hK _ _ (by simp only [RX.arr_getD, List.getD_cons_zero, List.getD_cons_succ]; first | exact RX.dec_t (by omega) | exact RX.dec_f (by omega) | exact RX.beq_t (by omega) | exact RX.beq_f (by omega) | exact RX.bne_t (by omega) | exact RX.bne_f (by omega) | exact RX.bneB _ | rfl) rfl
                         · simp only [RX.put_some, List.set_cons_zero, List.set_cons_succ]; rfl
                         refine hR _ _ ?_; clear hR R)
                    refine RX.step (fun R hR => ?_)
                    refine RX.one_chain (by first | rfl | (rw [HO.out]; rfl)) rfl (fun K hK => ?_)
                    go_wp2_with fail
                    refine (refCheck_any y3 rb ro rl pr capr x0 x1 hpr hry3 hcapr hr1000 hx0 hx1).mono ?_
                    rintro e y4 ⟨hy4, rfl⟩
                    have hSy4 := hSy3.step hy4
                    replace u0 := RX.keep hy4 u0
                    replace u1 := RX.keep hy4 u1
                    clear hry3 hSy3 hy4
                    refine hK _ _ ⟨⟨u0, u1⟩, hR _ _ ?_⟩; clear hK K hR R
                    repeat
                      refine RX.step (fun R hR => ?_)
                      first
                      | (refine RX.one_skip (by first | rfl | (rw [HO.out]; rfl)) (by simp only [RX.put_some, List.set_cons_zero, List.set_cons_succ]; rfl) ?_
                         refine hR _ _ ?_; clear hR R)
                      | (refine RX.one_move (by first | rfl | (rw [HO.out]; rfl)) rfl (by first | exact Or.inl rfl | exact Or.inr rfl) (by simp only [RX.eval_tmp, RX.eval_const, List.getD_cons_zero, List.getD_cons_succ]; rfl) (by simp only [RX.put_some, List.set_cons_zero, List.set_cons_succ]; rfl) ?_
                         refine hR _ _ ?_; clear hR R)
                      | (refine RX.one_nil (by first | rfl | (rw [HO.out]; rfl)) rfl rfl (by simp only [RX.eval_tmp, RX.eval_const, List.getD_cons_zero, List.getD_cons_succ]; rfl) (by simp only [RX.put_some, List.set_cons_zero, List.set_cons_succ]; rfl) ?_
                         refine hR _ _ ?_; clear hR R)
                      | (refine RX.one_float (by first | rfl | (rw [HO.out]; rfl)) rfl rfl rfl ?_
                         apply Exists.intro; apply Exists.intro
                         refine ⟨fun w' hS K hK => ?_, ?_, ?_⟩
                         · obtain ⟨q0, q1⟩ := hS; go_wp2; exact hK _ _ (by simp only [RX.arr_getD, List.getD_cons_zero, List.getD_cons_succ]; first | exact RX.dec_t (by omega) | exact RX.dec_f (by omega) | exact RX.beq_t (by omega) | exact RX.beq_f (by omega) | exact RX.bne_t (by omega) | exact RX.bne_f (by omega) | exact RX.bneB _ | rfl) rfl
                         · simp only [RX.put_some, List.set_cons_zero, List.set_cons_succ]; rfl
                         refine hR _ _ ?_; clear hR R)
                    refine RX.wpL_nil (hQR _ _ (⟨u0, u1⟩) ?_); clear hQR QR HO OPS
                    go_wp2
                    go_roundw
                    case rel => exact ⟨k + 1, by omega, by go_num, hSy4⟩
                    case measure => simp [intOf]; omega
                  · by_cases hq2 : q = 2
                    ·
                      subst hq2
                      go_wp2_with fail
                      go_region
                      go_wp2_with fail
                      have hRa := (hrow11.set (r * 4 + 2) (by omega) z3).set (r * 4 + 3) (by omega) z2
                      have hga : w11.grownBy ((w11.setCell ⟨gm, r * 4 + 2, none⟩ (.int .i64 z3)).setCell ⟨gm, r * 4 + 3, none⟩ (.int .i64 z2)).drew (some gm) := grownBy_drew ((grownBy_setCell w11 gm (r * 4 + 2) (.int .i64 z3)).trans (grownBy_setCell _ gm (r * 4 + 3) (.int .i64 z2)))
                      have hR : Row ((w11.setCell ⟨gm, r * 4 + 2, none⟩ (.int .i64 z3)).setCell ⟨gm, r * 4 + 3, none⟩ (.int .i64 z2)).drew w7.heap.size _ _ _ := ⟨World.ownsRow.drew hRa.own, hRa.ints⟩
                      have hS14 := hS12.other hga (by omega) (by omega) (fun h0 => by have := hbV h0; omega) (by omega)
                      replace v0 := hga.cell v0 (by simp; omega)
                      replace v1 := hga.cell v1 (by simp; omega)
                      clear hS12 hrow11 hC11 hz0 hz1 hz2 hz3 f0 f1 f2 f3 hRa hga
                      generalize ((w11.setCell ⟨gm, r * 4 + 2, none⟩ (.int .i64 z3)).setCell ⟨gm, r * 4 + 3, none⟩ (.int .i64 z2)).drew = w13 at *
                      obtain ⟨p', g', c', l', hv', hl', hp', hP', hc', _⟩ := hR.form
                      injection hv' with e1 e2 e3
                      subst e1
                      subst e3
                      rw [← hl']
                      have hl3 : l'.length ≤ 1000 := by omega
                      clear hR e2 hl'
                      have hPd : PartsAt w13.drew g' 0 l' := hP'.kept (fun _ => rfl)
                      have hrd : PartsAt w13.drew rb ro rl := (hraw.below hS14.below).kept (fun _ => rfl)
                      have hSd : Scene w g b' Z L' T w13.drew := hS14.step ((Below.refl _ _).drew)
                      have hx0 : x0 ≤ 100000 := by omega
                      have hx1 : x1 ≤ 100000 := by omega
                      have hr1000 : rl.length ≤ 1000 := by omega
                      have hl1000 : (l').length ≤ 1000 := hl3
                      refine RX.region RX.fL (fun w' => w'.cell? ⟨V, 0, none⟩ = some (.int .i64 x0) ∧ w'.cell? ⟨V, 1, none⟩ = some (.int .i64 x1)) (by kernel_rfl) (by kernel_rfl) (⟨v0, v1⟩) (fun OPS HO QR hQR => ?_)
                      repeat
                        refine RX.step (fun R hR => ?_)
                        first
                        | (refine RX.one_skip (by first | rfl | (rw [HO.out]; rfl)) (by simp only [RX.put_some, List.set_cons_zero, List.set_cons_succ]; rfl) ?_
                           refine hR _ _ ?_; clear hR R)
                        | (refine RX.one_move (by first | rfl | (rw [HO.out]; rfl)) rfl (by first | exact Or.inl rfl | exact Or.inr rfl) (by simp only [RX.eval_tmp, RX.eval_const, List.getD_cons_zero, List.getD_cons_succ]; rfl) (by simp only [RX.put_some, List.set_cons_zero, List.set_cons_succ]; rfl) ?_
                           refine hR _ _ ?_; clear hR R)
                        | (refine RX.one_nil (by first | rfl | (rw [HO.out]; rfl)) rfl rfl (by simp only [RX.eval_tmp, RX.eval_const, List.getD_cons_zero, List.getD_cons_succ]; rfl) (by simp only [RX.put_some, List.set_cons_zero, List.set_cons_succ]; rfl) ?_
                           refine hR _ _ ?_; clear hR R)
                        | (refine RX.one_float (by first | rfl | (rw [HO.out]; rfl)) rfl rfl rfl ?_
                           apply Exists.intro; apply Exists.intro
                           refine ⟨fun w' hS K hK => ?_, ?_, ?_⟩
                           · obtain ⟨q0, q1⟩ := hS; go_wp2; exact hK _ _ (by simp only [RX.arr_getD, List.getD_cons_zero, List.getD_cons_succ]; first | exact RX.dec_t (by omega) | exact RX.dec_f (by omega) | exact RX.beq_t (by omega) | exact RX.beq_f (by omega) | exact RX.bne_t (by omega) | exact RX.bne_f (by omega) | exact RX.bneB _ | rfl) rfl
                           · simp only [RX.put_some, List.set_cons_zero, List.set_cons_succ]; rfl
                           refine hR _ _ ?_; clear hR R)
                      refine RX.step (fun R hR => ?_)
                      refine RX.one_chain (by first | rfl | (rw [HO.out]; rfl)) rfl (fun K hK => ?_)
                      go_wp2_with fail
                      refine (checkP_any w13.drew g' 0 l' (some ⟨gm, 0, none⟩) cm x0 x1 hp' hPd hc' hl1000).mono ?_
                      rintro e y1 ⟨hy1, rfl⟩
                      have hSy1 := hSd.step hy1
                      have hPy1 := hPd.below hy1
                      have hry1 := hrd.below hy1
                      have u0 : y1.cell? ⟨V, 0, none⟩ = some (.int .i64 x0) := RX.keep (w := w13.drew) hy1 v0
                      have u1 : y1.cell? ⟨V, 1, none⟩ = some (.int .i64 x1) := RX.keep (w := w13.drew) hy1 v1
                      clear hPd hrd hSd hy1
                      refine hK _ _ ⟨⟨u0, u1⟩, hR _ _ ?_⟩; clear hK K hR R
                      repeat
                        refine RX.step (fun R hR => ?_)
                        first
                        | (refine RX.one_skip (by first | rfl | (rw [HO.out]; rfl)) (by simp only [RX.put_some, List.set_cons_zero, List.set_cons_succ]; rfl) ?_
                           refine hR _ _ ?_; clear hR R)
                        | (refine RX.one_move (by first | rfl | (rw [HO.out]; rfl)) rfl (by first | exact Or.inl rfl | exact Or.inr rfl) (by simp only [RX.eval_tmp, RX.eval_const, List.getD_cons_zero, List.getD_cons_succ]; rfl) (by simp only [RX.put_some, List.set_cons_zero, List.set_cons_succ]; rfl) ?_
                           refine hR _ _ ?_; clear hR R)
                        | (refine RX.one_nil (by first | rfl | (rw [HO.out]; rfl)) rfl rfl (by simp only [RX.eval_tmp, RX.eval_const, List.getD_cons_zero, List.getD_cons_succ]; rfl) (by simp only [RX.put_some, List.set_cons_zero, List.set_cons_succ]; rfl) ?_
                           refine hR _ _ ?_; clear hR R)
                        | (refine RX.one_float (by first | rfl | (rw [HO.out]; rfl)) rfl rfl rfl ?_
                           apply Exists.intro; apply Exists.intro
                           refine ⟨fun w' hS K hK => ?_, ?_, ?_⟩
                           · obtain ⟨q0, q1⟩ := hS; go_wp2; exact hK _ _ (by simp only [RX.arr_getD, List.getD_cons_zero, List.getD_cons_succ]; first | exact RX.dec_t (by omega) | exact RX.dec_f (by omega) | exact RX.beq_t (by omega) | exact RX.beq_f (by omega) | exact RX.bne_t (by omega) | exact RX.bne_f (by omega) | exact RX.bneB _ | rfl) rfl
                           · simp only [RX.put_some, List.set_cons_zero, List.set_cons_succ]; rfl
                           refine hR _ _ ?_; clear hR R)
                      refine RX.step (fun R hR => ?_)
                      refine RX.one_chain (by first | rfl | (rw [HO.out]; rfl)) rfl (fun K hK => ?_)
                      go_wp2_with fail
                      refine (refCheck_any y1 g' 0 l' (some ⟨gm, 0, none⟩) cm x0 x1 hp' hPy1 hc' hl1000 hx0 hx1).mono ?_
                      rintro e y2 ⟨hy2, rfl⟩
                      have hSy2 := hSy1.step hy2
                      have hry2 := hry1.below hy2
                      replace u0 := RX.keep hy2 u0
                      replace u1 := RX.keep hy2 u1
                      clear hPy1 hry1 hSy1 hy2
                      refine hK _ _ ⟨⟨u0, u1⟩, hR _ _ ?_⟩; clear hK K hR R
                      repeat
                        refine RX.step (fun R hR => ?_)
                        first
                        | (refine RX.one_skip (by first | rfl | (rw [HO.out]; rfl)) (by simp only [RX.put_some, List.set_cons_zero, List.set_cons_succ]; rfl) ?_
                           refine hR _ _ ?_; clear hR R)
                        | (refine RX.one_move (by first | rfl | (rw [HO.out]; rfl)) rfl (by first | exact Or.inl rfl | exact Or.inr rfl) (by simp only [RX.eval_tmp, RX.eval_const, List.getD_cons_zero, List.getD_cons_succ]; rfl) (by simp only [RX.put_some, List.set_cons_zero, List.set_cons_succ]; rfl) ?_
                           refine hR _ _ ?_; clear hR R)
                        | (refine RX.one_nil (by first | rfl | (rw [HO.out]; rfl)) rfl rfl (by simp only [RX.eval_tmp, RX.eval_const, List.getD_cons_zero, List.getD_cons_succ]; rfl) (by simp only [RX.put_some, List.set_cons_zero, List.set_cons_succ]; rfl) ?_
                           refine hR _ _ ?_; clear hR R)
                        | (refine RX.one_float (by first | rfl | (rw [HO.out]; rfl)) rfl rfl rfl ?_
                           apply Exists.intro; apply Exists.intro
                           refine ⟨fun w' hS K hK => ?_, ?_, ?_⟩
                           · obtain ⟨q0, q1⟩ := hS; go_wp2; exact hK _ _ (by simp only [RX.arr_getD, List.getD_cons_zero, List.getD_cons_succ]; first | exact RX.dec_t (by omega) | exact RX.dec_f (by omega) | exact RX.beq_t (by omega) | exact RX.beq_f (by omega) | exact RX.bne_t (by omega) | exact RX.bne_f (by omega) | exact RX.bneB _ | rfl) rfl
                           · simp only [RX.put_some, List.set_cons_zero, List.set_cons_succ]; rfl
                           refine hR _ _ ?_; clear hR R)
                      refine RX.step (fun R hR => ?_)
                      refine RX.one_chain (by first | rfl | (rw [HO.out]; rfl)) rfl (fun K hK => ?_)
                      go_wp2_with fail
                      refine (checkP_any y2 rb ro rl pr capr x0 x1 hpr hry2 hcapr hr1000).mono ?_
                      rintro e y3 ⟨hy3, rfl⟩
                      have hSy3 := hSy2.step hy3
                      have hry3 := hry2.below hy3
                      replace u0 := RX.keep hy3 u0
                      replace u1 := RX.keep hy3 u1
                      clear hry2 hSy2 hy3
                      refine hK _ _ ⟨⟨u0, u1⟩, hR _ _ ?_⟩; clear hK K hR R
                      repeat
                        refine RX.step (fun R hR => ?_)
                        first
                        | (refine RX.one_skip (by first | rfl | (rw [HO.out]; rfl)) (by simp only [RX.put_some, List.set_cons_zero, List.set_cons_succ]; rfl) ?_
                           refine hR _ _ ?_; clear hR R)
                        | (refine RX.one_move (by first | rfl | (rw [HO.out]; rfl)) rfl (by first | exact Or.inl rfl | exact Or.inr rfl) (by simp only [RX.eval_tmp, RX.eval_const, List.getD_cons_zero, List.getD_cons_succ]; rfl) (by simp only [RX.put_some, List.set_cons_zero, List.set_cons_succ]; rfl) ?_
                           refine hR _ _ ?_; clear hR R)
                        | (refine RX.one_nil (by first | rfl | (rw [HO.out]; rfl)) rfl rfl (by simp only [RX.eval_tmp, RX.eval_const, List.getD_cons_zero, List.getD_cons_succ]; rfl) (by simp only [RX.put_some, List.set_cons_zero, List.set_cons_succ]; rfl) ?_
                           refine hR _ _ ?_; clear hR R)
                        | (refine RX.one_float (by first | rfl | (rw [HO.out]; rfl)) rfl rfl rfl ?_
                           apply Exists.intro; apply Exists.intro
                           refine ⟨fun w' hS K hK => ?_, ?_, ?_⟩
                           · obtain ⟨q0, q1⟩ := hS; go_wp2; exact hK _ _ (by simp only [RX.arr_getD, List.getD_cons_zero, List.getD_cons_succ]; first | exact RX.dec_t (by omega) | exact RX.dec_f (by omega) | exact RX.beq_t (by omega) | exact RX.beq_f (by omega) | exact RX.bne_t (by omega) | exact RX.bne_f (by omega) | exact RX.bneB _ | rfl) rfl
                           · simp only [RX.put_some, List.set_cons_zero, List.set_cons_succ]; rfl
                           refine hR _ _ ?_; clear hR R)
                      refine RX.step (fun R hR => ?_)
                      refine RX.one_chain (by first | rfl | (rw [HO.out]; rfl)) rfl (fun K hK => ?_)
                      go_wp2_with fail
                      refine (refCheck_any y3 rb ro rl pr capr x0 x1 hpr hry3 hcapr hr1000 hx0 hx1).mono ?_
                      rintro e y4 ⟨hy4, rfl⟩
                      have hSy4 := hSy3.step hy4
                      replace u0 := RX.keep hy4 u0
                      replace u1 := RX.keep hy4 u1
                      clear hry3 hSy3 hy4
                      refine hK _ _ ⟨⟨u0, u1⟩, hR _ _ ?_⟩; clear hK K hR R
                      repeat
                        refine RX.step (fun R hR => ?_)
                        first
                        | (refine RX.one_skip (by first | rfl | (rw [HO.out]; rfl)) (by simp only [RX.put_some, List.set_cons_zero, List.set_cons_succ]; rfl) ?_
                           refine hR _ _ ?_; clear hR R)
                        | (refine RX.one_move (by first | rfl | (rw [HO.out]; rfl)) rfl (by first | exact Or.inl rfl | exact Or.inr rfl) (by simp only [RX.eval_tmp, RX.eval_const, List.getD_cons_zero, List.getD_cons_succ]; rfl) (by simp only [RX.put_some, List.set_cons_zero, List.set_cons_succ]; rfl) ?_
                           refine hR _ _ ?_; clear hR R)
                        | (refine RX.one_nil (by first | rfl | (rw [HO.out]; rfl)) rfl rfl (by simp only [RX.eval_tmp, RX.eval_const, List.getD_cons_zero, List.getD_cons_succ]; rfl) (by simp only [RX.put_some, List.set_cons_zero, List.set_cons_succ]; rfl) ?_
                           refine hR _ _ ?_; clear hR R)
                        | (refine RX.one_float (by first | rfl | (rw [HO.out]; rfl)) rfl rfl rfl ?_
                           apply Exists.intro; apply Exists.intro
                           refine ⟨fun w' hS K hK => ?_, ?_, ?_⟩
                           · obtain ⟨q0, q1⟩ := hS; go_wp2; exact hK _ _ (by simp only [RX.arr_getD, List.getD_cons_zero, List.getD_cons_succ]; first | exact RX.dec_t (by omega) | exact RX.dec_f (by omega) | exact RX.beq_t (by omega) | exact RX.beq_f (by omega) | exact RX.bne_t (by omega) | exact RX.bne_f (by omega) | exact RX.bneB _ | rfl) rfl
                           · simp only [RX.put_some, List.set_cons_zero, List.set_cons_succ]; rfl
                           refine hR _ _ ?_; clear hR R)
                      refine RX.wpL_nil (hQR _ _ (⟨u0, u1⟩) ?_); clear hQR QR HO OPS
                      go_wp2
                      go_roundw
                      case rel => exact ⟨k + 1, by omega, by go_num, hSy4⟩
                      case measure => simp [intOf]; omega
                    ·
                      obtain rfl : q = 3 := by omega
                      obtain ⟨m0, hm0⟩ := hrow11.cell 0 (by omega)
                      obtain ⟨m1, hm1⟩ := hrow11.cell 1 (by omega)
                      obtain ⟨m2, hm2⟩ := hrow11.cell 2 (by omega)
                      obtain ⟨m3, hm3⟩ := hrow11.cell 3 (by omega)
                      have hown11 := hrow11.own.alloc (.cells #[.int .i64 m0, .int .i64 m1, .int .i64 m2, .int .i64 m3] 28)
                      have hbs : w7.heap.size ≤ (w11.alloc (.cells #[.int .i64 m0, .int .i64 m1, .int .i64 m2, .int .i64 m3] 28)).heap.size := by have := hown11.lt gm rfl; omega
                      clear hz0 hz1 hz2 hz3 f0 f1 f2 f3
                      go_wp2_with (refine RX.wpl_app (by rfl) elPart _ _ (by rfl) w7.heap.size _ _ _ hown11 (by rfl) w11.heap.size _ 1 (by rfl) (heap_alloc_new _ _) (by rfl) (by simp [Value.oneCell']) (by omega) (by omega) hbs ?_; intro vq w12 hownq hbq hgq hatq)
                      have hR : Row w12 w7.heap.size vq (l.length + 1) (xs ++ [.int .i64 m0, .int .i64 m1, .int .i64 m2, .int .i64 m3]) := ⟨hownq, fun u hu => by
                        rcases List.mem_append.1 hu with h | h
                        · exact hrow11.ints u h
                        · simp at h; rcases h with rfl | rfl | rfl | rfl <;> exact ⟨_, rfl⟩⟩
                      have hSa := hS12.step ((Below.refl w11.heap.size w11).alloc (Nat.le_refl _) (.cells #[.int .i64 m0, .int .i64 m1, .int .i64 m2, .int .i64 m3] 28))
                      have hS14 := hSa.other (k := gm) hgq (by omega) (by omega) (fun h0 => by have := hbV h0; omega) (by omega)
                      have v0' := hgq.cell (a := ⟨V, 0, none⟩) (RX.keep ((Below.refl w11.heap.size w11).alloc (Nat.le_refl _) (.cells #[.int .i64 m0, .int .i64 m1, .int .i64 m2, .int .i64 m3] 28)) v0) (by simp [Value.ownBlock]; omega)
                      have v1' := hgq.cell (a := ⟨V, 1, none⟩) (RX.keep ((Below.refl w11.heap.size w11).alloc (Nat.le_refl _) (.cells #[.int .i64 m0, .int .i64 m1, .int .i64 m2, .int .i64 m3] 28)) v1) (by simp [Value.ownBlock]; omega)
                      replace v0 := v0'
                      replace v1 := v1'
                      clear v0' v1' hSa hS12 hrow11 hC11 hm0 hm1 hm2 hm3 hownq hown11 hbs hbq hgq hatq
                      obtain ⟨p', g', c', l', hv', hl', hp', hP', hc', _⟩ := hR.form
                      subst hv'
                      have hl3 : l'.length ≤ 1000 := by omega
                      clear hR hl'
                      have hPd : PartsAt w12.drew g' 0 l' := hP'.kept (fun _ => rfl)
                      have hrd : PartsAt w12.drew rb ro rl := (hraw.below hS14.below).kept (fun _ => rfl)
                      have hSd : Scene w g b' Z L' T w12.drew := hS14.step ((Below.refl _ _).drew)
                      have hx0 : x0 ≤ 100000 := by omega
                      have hx1 : x1 ≤ 100000 := by omega
                      have hr1000 : rl.length ≤ 1000 := by omega
                      have hl1000 : (l').length ≤ 1000 := hl3
                      refine RX.region RX.fL (fun w' => w'.cell? ⟨V, 0, none⟩ = some (.int .i64 x0) ∧ w'.cell? ⟨V, 1, none⟩ = some (.int .i64 x1)) (by kernel_rfl) (by kernel_rfl) (⟨v0, v1⟩) (fun OPS HO QR hQR => ?_)
                      repeat
                        refine RX.step (fun R hR => ?_)
                        first
                        | (refine RX.one_skip (by first | rfl | (rw [HO.out]; rfl)) (by simp only [RX.put_some, List.set_cons_zero, List.set_cons_succ]; rfl) ?_
                           refine hR _ _ ?_; clear hR R)
                        | (refine RX.one_move (by first | rfl | (rw [HO.out]; rfl)) rfl (by first | exact Or.inl rfl | exact Or.inr rfl) (by simp only [RX.eval_tmp, RX.eval_const, List.getD_cons_zero, List.getD_cons_succ]; rfl) (by simp only [RX.put_some, List.set_cons_zero, List.set_cons_succ]; rfl) ?_
                           refine hR _ _ ?_; clear hR R)
                        | (refine RX.one_nil (by first | rfl | (rw [HO.out]; rfl)) rfl rfl (by simp only [RX.eval_tmp, RX.eval_const, List.getD_cons_zero, List.getD_cons_succ]; rfl) (by simp only [RX.put_some, List.set_cons_zero, List.set_cons_succ]; rfl) ?_
                           refine hR _ _ ?_; clear hR R)
                        | (refine RX.one_float (by first | rfl | (rw [HO.out]; rfl)) rfl rfl rfl ?_
                           apply Exists.intro; apply Exists.intro
                           refine ⟨fun w' hS K hK => ?_, ?_, ?_⟩
                           · obtain ⟨q0, q1⟩ := hS; go_wp2; exact hK _ _ (by simp only [RX.arr_getD, List.getD_cons_zero, List.getD_cons_succ]; first | exact RX.dec_t (by omega) | exact RX.dec_f (by omega) | exact RX.beq_t (by omega) | exact RX.beq_f (by omega) | exact RX.bne_t (by omega) | exact RX.bne_f (by omega) | exact RX.bneB _ | rfl) rfl
                           · simp only [RX.put_some, List.set_cons_zero, List.set_cons_succ]; rfl
                           refine hR _ _ ?_; clear hR R)
                      refine RX.step (fun R hR => ?_)
                      refine RX.one_chain (by first | rfl | (rw [HO.out]; rfl)) rfl (fun K hK => ?_)
                      go_wp2_with fail
                      refine (checkP_any w12.drew g' 0 l' p' c' x0 x1 hp' hPd hc' hl1000).mono ?_
                      rintro e y1 ⟨hy1, rfl⟩
                      have hSy1 := hSd.step hy1
                      have hPy1 := hPd.below hy1
                      have hry1 := hrd.below hy1
                      have u0 : y1.cell? ⟨V, 0, none⟩ = some (.int .i64 x0) := RX.keep (w := w12.drew) hy1 v0
                      have u1 : y1.cell? ⟨V, 1, none⟩ = some (.int .i64 x1) := RX.keep (w := w12.drew) hy1 v1
                      clear hPd hrd hSd hy1
                      refine hK _ _ ⟨⟨u0, u1⟩, hR _ _ ?_⟩; clear hK K hR R
                      repeat
                        refine RX.step (fun R hR => ?_)
                        first
                        | (refine RX.one_skip (by first | rfl | (rw [HO.out]; rfl)) (by simp only [RX.put_some, List.set_cons_zero, List.set_cons_succ]; rfl) ?_
                           refine hR _ _ ?_; clear hR R)
                        | (refine RX.one_move (by first | rfl | (rw [HO.out]; rfl)) rfl (by first | exact Or.inl rfl | exact Or.inr rfl) (by simp only [RX.eval_tmp, RX.eval_const, List.getD_cons_zero, List.getD_cons_succ]; rfl) (by simp only [RX.put_some, List.set_cons_zero, List.set_cons_succ]; rfl) ?_
                           refine hR _ _ ?_; clear hR R)
                        | (refine RX.one_nil (by first | rfl | (rw [HO.out]; rfl)) rfl rfl (by simp only [RX.eval_tmp, RX.eval_const, List.getD_cons_zero, List.getD_cons_succ]; rfl) (by simp only [RX.put_some, List.set_cons_zero, List.set_cons_succ]; rfl) ?_
                           refine hR _ _ ?_; clear hR R)
                        | (refine RX.one_float (by first | rfl | (rw [HO.out]; rfl)) rfl rfl rfl ?_
                           apply Exists.intro; apply Exists.intro
                           refine ⟨fun w' hS K hK => ?_, ?_, ?_⟩
                           · obtain ⟨q0, q1⟩ := hS; go_wp2; exact hK _ _ (by simp only [RX.arr_getD, List.getD_cons_zero, List.getD_cons_succ]; first | exact RX.dec_t (by omega) | exact RX.dec_f (by omega) | exact RX.beq_t (by omega) | exact RX.beq_f (by omega) | exact RX.bne_t (by omega) | exact RX.bne_f (by omega) | exact RX.bneB _ | rfl) rfl
                           · simp only [RX.put_some, List.set_cons_zero, List.set_cons_succ]; rfl
                           refine hR _ _ ?_; clear hR R)
                      refine RX.step (fun R hR => ?_)
                      refine RX.one_chain (by first | rfl | (rw [HO.out]; rfl)) rfl (fun K hK => ?_)
                      go_wp2_with fail
                      refine (refCheck_any y1 g' 0 l' p' c' x0 x1 hp' hPy1 hc' hl1000 hx0 hx1).mono ?_
                      rintro e y2 ⟨hy2, rfl⟩
                      have hSy2 := hSy1.step hy2
                      have hry2 := hry1.below hy2
                      replace u0 := RX.keep hy2 u0
                      replace u1 := RX.keep hy2 u1
                      clear hPy1 hry1 hSy1 hy2
                      refine hK _ _ ⟨⟨u0, u1⟩, hR _ _ ?_⟩; clear hK K hR R
                      repeat
                        refine RX.step (fun R hR => ?_)
                        first
                        | (refine RX.one_skip (by first | rfl | (rw [HO.out]; rfl)) (by simp only [RX.put_some, List.set_cons_zero, List.set_cons_succ]; rfl) ?_
                           refine hR _ _ ?_; clear hR R)
                        | (refine RX.one_move (by first | rfl | (rw [HO.out]; rfl)) rfl (by first | exact Or.inl rfl | exact Or.inr rfl) (by simp only [RX.eval_tmp, RX.eval_const, List.getD_cons_zero, List.getD_cons_succ]; rfl) (by simp only [RX.put_some, List.set_cons_zero, List.set_cons_succ]; rfl) ?_
                           refine hR _ _ ?_; clear hR R)
                        | (refine RX.one_nil (by first | rfl | (rw [HO.out]; rfl)) rfl rfl (by simp only [RX.eval_tmp, RX.eval_const, List.getD_cons_zero, List.getD_cons_succ]; rfl) (by simp only [RX.put_some, List.set_cons_zero, List.set_cons_succ]; rfl) ?_
                           refine hR _ _ ?_; clear hR R)
                        | (refine RX.one_float (by first | rfl | (rw [HO.out]; rfl)) rfl rfl rfl ?_
                           apply Exists.intro; apply Exists.intro
                           refine ⟨fun w' hS K hK => ?_, ?_, ?_⟩
                           · obtain ⟨q0, q1⟩ := hS; go_wp2; exact hK _ _ (by simp only [RX.arr_getD, List.getD_cons_zero, List.getD_cons_succ]; first | exact RX.dec_t (by omega) | exact RX.dec_f (by omega) | exact RX.beq_t (by omega) | exact RX.beq_f (by omega) | exact RX.bne_t (by omega) | exact RX.bne_f (by omega) | exact RX.bneB _ | rfl) rfl
                           · simp only [RX.put_some, List.set_cons_zero, List.set_cons_succ]; rfl
                           refine hR _ _ ?_; clear hR R)
                      refine RX.step (fun R hR => ?_)
                      refine RX.one_chain (by first | rfl | (rw [HO.out]; rfl)) rfl (fun K hK => ?_)
                      go_wp2_with fail
                      refine (checkP_any y2 rb ro rl pr capr x0 x1 hpr hry2 hcapr hr1000).mono ?_
                      rintro e y3 ⟨hy3, rfl⟩
                      have hSy3 := hSy2.step hy3
                      have hry3 := hry2.below hy3
                      replace u0 := RX.keep hy3 u0
                      replace u1 := RX.keep hy3 u1
                      clear hry2 hSy2 hy3
                      refine hK _ _ ⟨⟨u0, u1⟩, hR _ _ ?_⟩; clear hK K hR R
                      repeat
                        refine RX.step (fun R hR => ?_)
                        first
                        | (refine RX.one_skip (by first | rfl | (rw [HO.out]; rfl)) (by simp only [RX.put_some, List.set_cons_zero, List.set_cons_succ]; rfl) ?_
                           refine hR _ _ ?_; clear hR R)
                        | (refine RX.one_move (by first | rfl | (rw [HO.out]; rfl)) rfl (by first | exact Or.inl rfl | exact Or.inr rfl) (by simp only [RX.eval_tmp, RX.eval_const, List.getD_cons_zero, List.getD_cons_succ]; rfl) (by simp only [RX.put_some, List.set_cons_zero, List.set_cons_succ]; rfl) ?_
                           refine hR _ _ ?_; clear hR R)
                        | (refine RX.one_nil (by first | rfl | (rw [HO.out]; rfl)) rfl rfl (by simp only [RX.eval_tmp, RX.eval_const, List.getD_cons_zero, List.getD_cons_succ]; rfl) (by simp only [RX.put_some, List.set_cons_zero, List.set_cons_succ]; rfl) ?_
                           refine hR _ _ ?_; clear hR R)
                        | (refine RX.one_float (by first | rfl | (rw [HO.out]; rfl)) rfl rfl rfl ?_
                           apply Exists.intro; apply Exists.intro
                           refine ⟨fun w' hS K hK => ?_, ?_, ?_⟩
                           · obtain ⟨q0, q1⟩ := hS; go_wp2; exact hK _ _ (by simp only [RX.arr_getD, List.getD_cons_zero, List.getD_cons_succ]; first | exact RX.dec_t (by omega) | exact RX.dec_f (by omega) | exact RX.beq_t (by omega) | exact RX.beq_f (by omega) | exact RX.bne_t (by omega) | exact RX.bne_f (by omega) | exact RX.bneB _ | rfl) rfl
                           · simp only [RX.put_some, List.set_cons_zero, List.set_cons_succ]; rfl
                           refine hR _ _ ?_; clear hR R)
                      refine RX.step (fun R hR => ?_)
                      refine RX.one_chain (by first | rfl | (rw [HO.out]; rfl)) rfl (fun K hK => ?_)
                      go_wp2_with fail
                      refine (refCheck_any y3 rb ro rl pr capr x0 x1 hpr hry3 hcapr hr1000 hx0 hx1).mono ?_
                      rintro e y4 ⟨hy4, rfl⟩
                      have hSy4 := hSy3.step hy4
                      replace u0 := RX.keep hy4 u0
                      replace u1 := RX.keep hy4 u1
                      clear hry3 hSy3 hy4
                      refine hK _ _ ⟨⟨u0, u1⟩, hR _ _ ?_⟩; clear hK K hR R
                      repeat
                        refine RX.step (fun R hR => ?_)
                        first
                        | (refine RX.one_skip (by first | rfl | (rw [HO.out]; rfl)) (by simp only [RX.put_some, List.set_cons_zero, List.set_cons_succ]; rfl) ?_
                           refine hR _ _ ?_; clear hR R)
                        | (refine RX.one_move (by first | rfl | (rw [HO.out]; rfl)) rfl (by first | exact Or.inl rfl | exact Or.inr rfl) (by simp only [RX.eval_tmp, RX.eval_const, List.getD_cons_zero, List.getD_cons_succ]; rfl) (by simp only [RX.put_some, List.set_cons_zero, List.set_cons_succ]; rfl) ?_
                           refine hR _ _ ?_; clear hR R)
                        | (refine RX.one_nil (by first | rfl | (rw [HO.out]; rfl)) rfl rfl (by simp only [RX.eval_tmp, RX.eval_const, List.getD_cons_zero, List.getD_cons_succ]; rfl) (by simp only [RX.put_some, List.set_cons_zero, List.set_cons_succ]; rfl) ?_
                           refine hR _ _ ?_; clear hR R)
                        | (refine RX.one_float (by first | rfl | (rw [HO.out]; rfl)) rfl rfl rfl ?_
                           apply Exists.intro; apply Exists.intro
                           refine ⟨fun w' hS K hK => ?_, ?_, ?_⟩
                           · obtain ⟨q0, q1⟩ := hS; go_wp2; exact hK _ _ (by simp only [RX.arr_getD, List.getD_cons_zero, List.getD_cons_succ]; first | exact RX.dec_t (by omega) | exact RX.dec_f (by omega) | exact RX.beq_t (by omega) | exact RX.beq_f (by omega) | exact RX.bne_t (by omega) | exact RX.bne_f (by omega) | exact RX.bneB _ | rfl) rfl
                           · simp only [RX.put_some, List.set_cons_zero, List.set_cons_succ]; rfl
                           refine hR _ _ ?_; clear hR R)
                      refine RX.wpL_nil (hQR _ _ (⟨u0, u1⟩) ?_); clear hQR QR HO OPS
                      go_wp2
                      go_roundw
                      case rel => exact ⟨k + 1, by omega, by go_num, hSy4⟩
                      case measure => simp [intOf]; omega
              · omega
            · have hN0 : l = [] := by
                rcases hEN with h5 | h5
                · omega
                · exact List.eq_nil_of_length_eq_zero h5.2
              subst hN0
              go_wp2_with fail
              have hPd : PartsAt wr.drew gm 0 ([] : List Pt) := hPm.kept (fun _ => rfl)
              have hrd : PartsAt wr.drew rb ro rl := (hraw.below hS9.below).kept (fun _ => rfl)
              have hSd : Scene w g b' Z L' T wr.drew := hS9.step ((Below.refl _ _).drew)
              have hx0 : x0 ≤ 100000 := by omega
              have hx1 : x1 ≤ 100000 := by omega
              have hr1000 : rl.length ≤ 1000 := by omega
              have hl1000 : (([] : List Pt)).length ≤ 1000 := (by simp)
              refine RX.region RX.fL (fun w' => w'.cell? ⟨V, 0, none⟩ = some (.int .i64 x0) ∧ w'.cell? ⟨V, 1, none⟩ = some (.int .i64 x1)) (by kernel_rfl) (by kernel_rfl) (⟨v0, v1⟩) (fun OPS HO QR hQR => ?_)
              repeat
                refine RX.step (fun R hR => ?_)
                first
                | (refine RX.one_skip (by first | rfl | (rw [HO.out]; rfl)) (by simp only [RX.put_some, List.set_cons_zero, List.set_cons_succ]; rfl) ?_
                   refine hR _ _ ?_; clear hR R)
                | (refine RX.one_move (by first | rfl | (rw [HO.out]; rfl)) rfl (by first | exact Or.inl rfl | exact Or.inr rfl) (by simp only [RX.eval_tmp, RX.eval_const, List.getD_cons_zero, List.getD_cons_succ]; rfl) (by simp only [RX.put_some, List.set_cons_zero, List.set_cons_succ]; rfl) ?_
                   refine hR _ _ ?_; clear hR R)
                | (refine RX.one_nil (by first | rfl | (rw [HO.out]; rfl)) rfl rfl (by simp only [RX.eval_tmp, RX.eval_const, List.getD_cons_zero, List.getD_cons_succ]; rfl) (by simp only [RX.put_some, List.set_cons_zero, List.set_cons_succ]; rfl) ?_
                   refine hR _ _ ?_; clear hR R)
                | (refine RX.one_float (by first | rfl | (rw [HO.out]; rfl)) rfl rfl rfl ?_
                   apply Exists.intro; apply Exists.intro
                   refine ⟨fun w' hS K hK => ?_, ?_, ?_⟩
                   · obtain ⟨q0, q1⟩ := hS; go_wp2; exact hK _ _ (by simp only [RX.arr_getD, List.getD_cons_zero, List.getD_cons_succ]; first | exact RX.dec_t (by omega) | exact RX.dec_f (by omega) | exact RX.beq_t (by omega) | exact RX.beq_f (by omega) | exact RX.bne_t (by omega) | exact RX.bne_f (by omega) | exact RX.bneB _ | rfl) rfl
                   · simp only [RX.put_some, List.set_cons_zero, List.set_cons_succ]; rfl
                   refine hR _ _ ?_; clear hR R)
              refine RX.step (fun R hR => ?_)
              refine RX.one_chain (by first | rfl | (rw [HO.out]; rfl)) rfl (fun K hK => ?_)
              go_wp2_with fail
              refine (checkP_any wr.drew gm 0 ([] : List Pt) pm cm x0 x1 hpm hPd hcm hl1000).mono ?_
              rintro e y1 ⟨hy1, rfl⟩
              have hSy1 := hSd.step hy1
              have hPy1 := hPd.below hy1
              have hry1 := hrd.below hy1
              have u0 : y1.cell? ⟨V, 0, none⟩ = some (.int .i64 x0) := RX.keep (w := wr.drew) hy1 v0
              have u1 : y1.cell? ⟨V, 1, none⟩ = some (.int .i64 x1) := RX.keep (w := wr.drew) hy1 v1
              clear hPd hrd hSd hy1
              refine hK _ _ ⟨⟨u0, u1⟩, hR _ _ ?_⟩; clear hK K hR R
              repeat
                refine RX.step (fun R hR => ?_)
                first
                | (refine RX.one_skip (by first | rfl | (rw [HO.out]; rfl)) (by simp only [RX.put_some, List.set_cons_zero, List.set_cons_succ]; rfl) ?_
                   refine hR _ _ ?_; clear hR R)
                | (refine RX.one_move (by first | rfl | (rw [HO.out]; rfl)) rfl (by first | exact Or.inl rfl | exact Or.inr rfl) (by simp only [RX.eval_tmp, RX.eval_const, List.getD_cons_zero, List.getD_cons_succ]; rfl) (by simp only [RX.put_some, List.set_cons_zero, List.set_cons_succ]; rfl) ?_
                   refine hR _ _ ?_; clear hR R)
                | (refine RX.one_nil (by first | rfl | (rw [HO.out]; rfl)) rfl rfl (by simp only [RX.eval_tmp, RX.eval_const, List.getD_cons_zero, List.getD_cons_succ]; rfl) (by simp only [RX.put_some, List.set_cons_zero, List.set_cons_succ]; rfl) ?_
                   refine hR _ _ ?_; clear hR R)
                | (refine RX.one_float (by first | rfl | (rw [HO.out]; rfl)) rfl rfl rfl ?_
                   apply Exists.intro; apply Exists.intro
                   refine ⟨fun w' hS K hK => ?_, ?_, ?_⟩
                   · obtain ⟨q0, q1⟩ := hS; go_wp2; exact hK _ _ (by simp only [RX.arr_getD, List.getD_cons_zero, List.getD_cons_succ]; first | exact RX.dec_t (by omega) | exact RX.dec_f (by omega) | exact RX.beq_t (by omega) | exact RX.beq_f (by omega) | exact RX.bne_t (by omega) | exact RX.bne_f (by omega) | exact RX.bneB _ | rfl) rfl
                   · simp only [RX.put_some, List.set_cons_zero, List.set_cons_succ]; rfl
                   refine hR _ _ ?_; clear hR R)
              refine RX.step (fun R hR => ?_)
              refine RX.one_chain (by first | rfl | (rw [HO.out]; rfl)) rfl (fun K hK => ?_)
              go_wp2_with fail
              refine (refCheck_any y1 gm 0 ([] : List Pt) pm cm x0 x1 hpm hPy1 hcm hl1000 hx0 hx1).mono ?_
              rintro e y2 ⟨hy2, rfl⟩
              have hSy2 := hSy1.step hy2
              have hry2 := hry1.below hy2
              replace u0 := RX.keep hy2 u0
              replace u1 := RX.keep hy2 u1
              clear hPy1 hry1 hSy1 hy2
              refine hK _ _ ⟨⟨u0, u1⟩, hR _ _ ?_⟩; clear hK K hR R
              repeat
                refine RX.step (fun R hR => ?_)
                first
                | (refine RX.one_skip (by first | rfl | (rw [HO.out]; rfl)) (by simp only [RX.put_some, List.set_cons_zero, List.set_cons_succ]; rfl) ?_
                   refine hR _ _ ?_; clear hR R)
                | (refine RX.one_move (by first | rfl | (rw [HO.out]; rfl)) rfl (by first | exact Or.inl rfl | exact Or.inr rfl) (by simp only [RX.eval_tmp, RX.eval_const, List.getD_cons_zero, List.getD_cons_succ]; rfl) (by simp only [RX.put_some, List.set_cons_zero, List.set_cons_succ]; rfl) ?_
                   refine hR _ _ ?_; clear hR R)
                | (refine RX.one_nil (by first | rfl | (rw [HO.out]; rfl)) rfl rfl (by simp only [RX.eval_tmp, RX.eval_const, List.getD_cons_zero, List.getD_cons_succ]; rfl) (by simp only [RX.put_some, List.set_cons_zero, List.set_cons_succ]; rfl) ?_
                   refine hR _ _ ?_; clear hR R)
                | (refine RX.one_float (by first | rfl | (rw [HO.out]; rfl)) rfl rfl rfl ?_
                   apply Exists.intro; apply Exists.intro
                   refine ⟨fun w' hS K hK => ?_, ?_, ?_⟩
                   · obtain ⟨q0, q1⟩ := hS; go_wp2; exact hK _ _ (by simp only [RX.arr_getD, List.getD_cons_zero, List.getD_cons_succ]; first | exact RX.dec_t (by omega) | exact RX.dec_f (by omega) | exact RX.beq_t (by omega) | exact RX.beq_f (by omega) | exact RX.bne_t (by omega) | exact RX.bne_f (by omega) | exact RX.bneB _ | rfl) rfl
                   · simp only [RX.put_some, List.set_cons_zero, List.set_cons_succ]; rfl
                   refine hR _ _ ?_; clear hR R)
              refine RX.step (fun R hR => ?_)
              refine RX.one_chain (by first | rfl | (rw [HO.out]; rfl)) rfl (fun K hK => ?_)
              go_wp2_with fail
              refine (checkP_any y2 rb ro rl pr capr x0 x1 hpr hry2 hcapr hr1000).mono ?_
              rintro e y3 ⟨hy3, rfl⟩
              have hSy3 := hSy2.step hy3
              have hry3 := hry2.below hy3
              replace u0 := RX.keep hy3 u0
              replace u1 := RX.keep hy3 u1
              clear hry2 hSy2 hy3
              refine hK _ _ ⟨⟨u0, u1⟩, hR _ _ ?_⟩; clear hK K hR R
              repeat
                refine RX.step (fun R hR => ?_)
                first
                | (refine RX.one_skip (by first | rfl | (rw [HO.out]; rfl)) (by simp only [RX.put_some, List.set_cons_zero, List.set_cons_succ]; rfl) ?_
                   refine hR _ _ ?_; clear hR R)
                | (refine RX.one_move (by first | rfl | (rw [HO.out]; rfl)) rfl (by first | exact Or.inl rfl | exact Or.inr rfl) (by simp only [RX.eval_tmp, RX.eval_const, List.getD_cons_zero, List.getD_cons_succ]; rfl) (by simp only [RX.put_some, List.set_cons_zero, List.set_cons_succ]; rfl) ?_
                   refine hR _ _ ?_; clear hR R)
                | (refine RX.one_nil (by first | rfl | (rw [HO.out]; rfl)) rfl rfl (by simp only [RX.eval_tmp, RX.eval_const, List.getD_cons_zero, List.getD_cons_succ]; rfl) (by simp only [RX.put_some, List.set_cons_zero, List.set_cons_succ]; rfl) ?_
                   refine hR _ _ ?_; clear hR R)
                | (refine RX.one_float (by first | rfl | (rw [HO.out]; rfl)) rfl rfl rfl ?_
                   apply Exists.intro; apply Exists.intro
                   refine ⟨fun w' hS K hK => ?_, ?_, ?_⟩
                   · obtain ⟨q0, q1⟩ := hS; go_wp2; exact hK _ _ (by simp only [RX.arr_getD, List.getD_cons_zero, List.getD_cons_succ]; first | exact RX.dec_t (by omega) | exact RX.dec_f (by omega) | exact RX.beq_t (by omega) | exact RX.beq_f (by omega) | exact RX.bne_t (by omega) | exact RX.bne_f (by omega) | exact RX.bneB _ | rfl) rfl
                   · simp only [RX.put_some, List.set_cons_zero, List.set_cons_succ]; rfl
                   refine hR _ _ ?_; clear hR R)
              refine RX.step (fun R hR => ?_)
              refine RX.one_chain (by first | rfl | (rw [HO.out]; rfl)) rfl (fun K hK => ?_)
              go_wp2_with fail
              refine (refCheck_any y3 rb ro rl pr capr x0 x1 hpr hry3 hcapr hr1000 hx0 hx1).mono ?_
              rintro e y4 ⟨hy4, rfl⟩
              have hSy4 := hSy3.step hy4
              replace u0 := RX.keep hy4 u0
              replace u1 := RX.keep hy4 u1
              clear hry3 hSy3 hy4
              refine hK _ _ ⟨⟨u0, u1⟩, hR _ _ ?_⟩; clear hK K hR R
              repeat
                refine RX.step (fun R hR => ?_)
                first
                | (refine RX.one_skip (by first | rfl | (rw [HO.out]; rfl)) (by simp only [RX.put_some, List.set_cons_zero, List.set_cons_succ]; rfl) ?_
                   refine hR _ _ ?_; clear hR R)
                | (refine RX.one_move (by first | rfl | (rw [HO.out]; rfl)) rfl (by first | exact Or.inl rfl | exact Or.inr rfl) (by simp only [RX.eval_tmp, RX.eval_const, List.getD_cons_zero, List.getD_cons_succ]; rfl) (by simp only [RX.put_some, List.set_cons_zero, List.set_cons_succ]; rfl) ?_
                   refine hR _ _ ?_; clear hR R)
                | (refine RX.one_nil (by first | rfl | (rw [HO.out]; rfl)) rfl rfl (by simp only [RX.eval_tmp, RX.eval_const, List.getD_cons_zero, List.getD_cons_succ]; rfl) (by simp only [RX.put_some, List.set_cons_zero, List.set_cons_succ]; rfl) ?_
                   refine hR _ _ ?_; clear hR R)
                | (refine RX.one_float (by first | rfl | (rw [HO.out]; rfl)) rfl rfl rfl ?_
                   apply Exists.intro; apply Exists.intro
                   refine ⟨fun w' hS K hK => ?_, ?_, ?_⟩
                   · obtain ⟨q0, q1⟩ := hS; go_wp2; exact hK _ _ (by simp only [RX.arr_getD, List.getD_cons_zero, List.getD_cons_succ]; first | exact RX.dec_t (by omega) | exact RX.dec_f (by omega) | exact RX.beq_t (by omega) | exact RX.beq_f (by omega) | exact RX.bne_t (by omega) | exact RX.bne_f (by omega) | exact RX.bneB _ | rfl) rfl
                   · simp only [RX.put_some, List.set_cons_zero, List.set_cons_succ]; rfl
                   refine hR _ _ ?_; clear hR R)
              refine RX.wpL_nil (hQR _ _ (⟨u0, u1⟩) ?_); clear hQR QR HO OPS
              go_wp2
              go_roundw
              case rel => exact ⟨k + 1, by omega, by go_num, hSy4⟩
              case measure => simp [intOf]; omega
      · obtain rfl : k = 3 := by omega
        go_wp2
        go_ret
        exact ⟨rfl, hS.below⟩
end Go.Proofs.Ytgemfgfhdbkgfaa
