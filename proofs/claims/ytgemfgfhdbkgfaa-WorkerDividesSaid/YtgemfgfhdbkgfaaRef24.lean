import Derived.Test.YtgemfgfhdbkgfaaCheck
set_option linter.unusedSimpArgs false
set_option linter.unusedVariables false
namespace Go.Proofs.Ytgemfgfhdbkgfaa
open Go.RowKit

theorem grownBy_drew {a w : World} {row : Option Nat} (h : a.grownBy w row) : a.grownBy w.drew row := ⟨h.os, h.tape, h.output, h.size, h.block⟩

/-- A part fits. -/
def FitsP (x : Pt) (nodes rows : Int) : Prop := 0 ≤ x.a ∧ x.a ≤ x.b ∧ x.b ≤ nodes ∧ 0 ≤ x.c ∧ x.c ≤ x.d ∧ x.d ≤ rows
instance (x : Pt) (nodes rows : Int) : Decidable (FitsP x nodes rows) := by unfold FitsP; infer_instance

set_option maxHeartbeats 1000000 in
theorem fits_any (x : Pt) (nodes rows : Int) (w : World) : Calls Try.prog 29 #[.agg #[.int .i64 x.a, .int .i64 x.b, .int .i64 x.c, .int .i64 x.d], .int .i64 nodes, .int .i64 rows] w fun e w' => e = .returned (.bool (decide (FitsP x nodes rows))) ∧ Below w.heap.size w w' := by
  obtain ⟨a, b, c, d⟩ := x
  have hb : Below w.heap.size w (w.alloc (.cells #[.int .i64 a, .int .i64 b, .int .i64 c, .int .i64 d] 28)) := (Below.refl _ _).alloc (Nat.le_refl _) _
  simp only
  go_enter Try.func29, Try.ntmps29
  by_cases h1 : 0 ≤ a
  · by_cases h2 : a ≤ b
    · by_cases h3 : b ≤ nodes
      · by_cases h4 : 0 ≤ c
        · by_cases h5 : c ≤ d
          · go_wp2
            go_ret
            refine ⟨?_, hb⟩
            simp [FitsP, h1, h2, h3, h4, h5]
          · go_wp2
            go_ret
            refine ⟨?_, hb⟩
            rw [decide_eq_false (show ¬ FitsP ⟨a, b, c, d⟩ nodes rows from fun h => by simp only [FitsP] at h; omega)]; rfl
        · go_wp2
          go_ret
          refine ⟨?_, hb⟩
          rw [decide_eq_false (show ¬ FitsP ⟨a, b, c, d⟩ nodes rows from fun h => by simp only [FitsP] at h; omega)]; rfl
      · go_wp2
        go_ret
        refine ⟨?_, hb⟩
        rw [decide_eq_false (show ¬ FitsP ⟨a, b, c, d⟩ nodes rows from fun h => by simp only [FitsP] at h; omega)]; rfl
    · go_wp2
      go_ret
      refine ⟨?_, hb⟩
      rw [decide_eq_false (show ¬ FitsP ⟨a, b, c, d⟩ nodes rows from fun h => by simp only [FitsP] at h; omega)]; rfl
  · go_wp2
    go_ret
    refine ⟨?_, hb⟩
    rw [decide_eq_false (show ¬ FitsP ⟨a, b, c, d⟩ nodes rows from fun h => by simp only [FitsP] at h; omega)]; rfl

/-- What covers counts in. -/
def sideOf (b : Bool) (x : Pt) : Int × Int := if b then rowOf x else nodeOf x

set_option maxHeartbeats 1000000 in
theorem counts_any (w : World) (g o : Nat) (l : List Pt) (p : Option Addr) (cap : Nat) (n : Int) (b : Bool) (hp : 0 < l.length → p = some ⟨g, o, none⟩) (h : PartsAt w g o l) (hcap : l.length ≤ cap) (h31 : l.length ≤ 1000) :
    Calls Try.prog 30 #[.slice p l.length cap, .int .i64 n, .bool b] w fun e w' => e = .returned (.int .i64 ((l.map (sideOf b)).countP (inR n) : Nat)) ∧ Below w.heap.size w w' := by
  go_enter Try.func30, Try.ntmps30
  go_wp2
  go_loopw [7, 8, 9, 10] (fun a i _ _ wr => ∃ k : Nat, k ≤ l.length ∧ i = .int .i64 (k : Int) ∧ a = .int .i64 (((l.take k).map (sideOf b)).countP (inR n) : Nat) ∧ Below w.heap.size w wr) (fun _ i _ _ _ => l.length - (intOf i).toNat)
  case atStart => exact ⟨0, Nat.zero_le _, rfl, rfl, Below.refl _ _⟩
  case round =>
    obtain ⟨k, hk, rfl, rfl, hb⟩ := hrel
    by_cases hlt : k < l.length
    · obtain rfl := hp (by omega)
      have hw := h.below hb
      have c0 := hw.c0 k hlt
      have c1 := hw.c1 k hlt
      have c2 := hw.c2 k hlt
      have c3 := hw.c3 k hlt
      have hn : ((l.take (k + 1)).map (sideOf b)).countP (inR n) = ((l.take k).map (sideOf b)).countP (inR n) + if inR n (sideOf b l[k]) = true then 1 else 0 := by
        rw [List.take_succ_eq_append_getElem hlt, List.map_append, List.countP_append, List.map_cons, List.map_nil, List.countP_singleton]
      have hc : ((l.take k).map (sideOf b)).countP (inR n) ≤ k := by
        have := List.countP_le_length (p := inR n) (l := (l.take k).map (sideOf b))
        rw [List.length_map, List.length_take] at this; omega
      generalize ((l.take k).map (sideOf b)).countP (inR n) = m at hn hc ⊢
      obtain ⟨x, hx⟩ : ∃ x, x = l[k] := ⟨_, rfl⟩
      rw [← hx] at c0 c1 c2 c3 hn
      clear hx hw h
      obtain ⟨x0, x1, x2, x3⟩ := x
      simp only at c0 c1 c2 c3
      have hbd := hb.drew
      cases b
      · by_cases h1 : x0 ≤ n
        · by_cases h2 : n < x1
          · have hn2 : ((l.take (k + 1)).map (sideOf false)).countP (inR n) = m + 1 := by rw [hn, if_pos (by simp [inR, sideOf, nodeOf, h1, h2])]
            have HN := Lib.hid hn2
            clear hn hn2
            go_wp2
            refine RX.region RX.fL (fun w' => w' = _) (by kernel_rfl) (by kernel_rfl) rfl (fun OPS HO QR hQR => ?_)
            repeat
              refine RX.step (fun R hR => ?_)
              first
              | (refine RX.one_skip (by first | rfl | (rw [HO.out]; rfl)) (by simp only [RX.put_some, List.set_cons_zero, List.set_cons_succ]; rfl) ?_
                 refine hR _ _ ?_; clear hR R)
              | (refine RX.one_move (by first | rfl | (rw [HO.out]; rfl)) rfl (by first | exact Or.inl rfl | exact Or.inr rfl) (by simp only [RX.eval_tmp, RX.eval_const, List.getD_cons_zero, List.getD_cons_succ]; rfl) (by simp only [RX.put_some, List.set_cons_zero, List.set_cons_succ]; rfl) ?_
                 refine hR _ _ ?_; clear hR R)
              | (refine RX.one_nil (by first | rfl | (rw [HO.out]; rfl)) rfl rfl (by simp only [RX.eval_tmp, RX.eval_const, List.getD_cons_zero, List.getD_cons_succ]; rfl) (by simp only [RX.put_some, List.set_cons_zero, List.set_cons_succ]; rfl) ?_
                 refine hR _ _ ?_; clear hR R)
              | (refine RX.one_float (by first | rfl | (rw [HO.out]; rfl)) rfl rfl rfl ?_
                 apply Exists.intro; apply Exists.intro
                 refine ⟨fun w' hS K hK => ?_, ?_, ?_⟩
                 · subst hS; go_wp2; exact hK _ _ (by simp only [RX.arr_getD, List.getD_cons_zero, List.getD_cons_succ]; first | exact RX.dec_t (by omega) | exact RX.dec_f (by omega) | exact RX.beq_t (by omega) | exact RX.beq_f (by omega) | exact RX.bne_t (by omega) | exact RX.bne_f (by omega) | exact RX.bneB _ | rfl) rfl
                 · simp only [RX.put_some, List.set_cons_zero, List.set_cons_succ]; rfl
                 refine hR _ _ ?_; clear hR R)
            refine RX.wpL_nil (hQR _ _ rfl ?_); clear hQR QR HO OPS
            go_wp2
            go_roundw
            case rel => exact ⟨k + 1, by omega, by go_num, by rw [HN.out]; go_num, hbd⟩
            case measure => simp [intOf]; omega
          · have hn2 : ((l.take (k + 1)).map (sideOf false)).countP (inR n) = m := by rw [hn, if_neg (by simp [inR, sideOf, nodeOf, h1, h2]), Nat.add_zero]
            have HN := Lib.hid hn2
            clear hn hn2
            go_wp2
            refine RX.region RX.fL (fun w' => w' = _) (by kernel_rfl) (by kernel_rfl) rfl (fun OPS HO QR hQR => ?_)
            repeat
              refine RX.step (fun R hR => ?_)
              first
              | (refine RX.one_skip (by first | rfl | (rw [HO.out]; rfl)) (by simp only [RX.put_some, List.set_cons_zero, List.set_cons_succ]; rfl) ?_
                 refine hR _ _ ?_; clear hR R)
              | (refine RX.one_move (by first | rfl | (rw [HO.out]; rfl)) rfl (by first | exact Or.inl rfl | exact Or.inr rfl) (by simp only [RX.eval_tmp, RX.eval_const, List.getD_cons_zero, List.getD_cons_succ]; rfl) (by simp only [RX.put_some, List.set_cons_zero, List.set_cons_succ]; rfl) ?_
                 refine hR _ _ ?_; clear hR R)
              | (refine RX.one_nil (by first | rfl | (rw [HO.out]; rfl)) rfl rfl (by simp only [RX.eval_tmp, RX.eval_const, List.getD_cons_zero, List.getD_cons_succ]; rfl) (by simp only [RX.put_some, List.set_cons_zero, List.set_cons_succ]; rfl) ?_
                 refine hR _ _ ?_; clear hR R)
              | (refine RX.one_float (by first | rfl | (rw [HO.out]; rfl)) rfl rfl rfl ?_
                 apply Exists.intro; apply Exists.intro
                 refine ⟨fun w' hS K hK => ?_, ?_, ?_⟩
                 · subst hS; go_wp2; exact hK _ _ (by simp only [RX.arr_getD, List.getD_cons_zero, List.getD_cons_succ]; first | exact RX.dec_t (by omega) | exact RX.dec_f (by omega) | exact RX.beq_t (by omega) | exact RX.beq_f (by omega) | exact RX.bne_t (by omega) | exact RX.bne_f (by omega) | exact RX.bneB _ | rfl) rfl
                 · simp only [RX.put_some, List.set_cons_zero, List.set_cons_succ]; rfl
                 refine hR _ _ ?_; clear hR R)
            refine RX.wpL_nil (hQR _ _ rfl ?_); clear hQR QR HO OPS
            go_wp2
            go_roundw
            case rel => exact ⟨k + 1, by omega, by go_num, by rw [HN.out], hbd⟩
            case measure => simp [intOf]; omega
        · have hn2 : ((l.take (k + 1)).map (sideOf false)).countP (inR n) = m := by rw [hn, if_neg (by simp [inR, sideOf, nodeOf, h1]), Nat.add_zero]
          have HN := Lib.hid hn2
          clear hn hn2
          go_wp2
          refine RX.region RX.fL (fun w' => w' = _) (by kernel_rfl) (by kernel_rfl) rfl (fun OPS HO QR hQR => ?_)
          repeat
            refine RX.step (fun R hR => ?_)
            first
            | (refine RX.one_skip (by first | rfl | (rw [HO.out]; rfl)) (by simp only [RX.put_some, List.set_cons_zero, List.set_cons_succ]; rfl) ?_
               refine hR _ _ ?_; clear hR R)
            | (refine RX.one_move (by first | rfl | (rw [HO.out]; rfl)) rfl (by first | exact Or.inl rfl | exact Or.inr rfl) (by simp only [RX.eval_tmp, RX.eval_const, List.getD_cons_zero, List.getD_cons_succ]; rfl) (by simp only [RX.put_some, List.set_cons_zero, List.set_cons_succ]; rfl) ?_
               refine hR _ _ ?_; clear hR R)
            | (refine RX.one_nil (by first | rfl | (rw [HO.out]; rfl)) rfl rfl (by simp only [RX.eval_tmp, RX.eval_const, List.getD_cons_zero, List.getD_cons_succ]; rfl) (by simp only [RX.put_some, List.set_cons_zero, List.set_cons_succ]; rfl) ?_
               refine hR _ _ ?_; clear hR R)
            | (refine RX.one_float (by first | rfl | (rw [HO.out]; rfl)) rfl rfl rfl ?_
               apply Exists.intro; apply Exists.intro
               refine ⟨fun w' hS K hK => ?_, ?_, ?_⟩
               · subst hS; go_wp2; exact hK _ _ (by simp only [RX.arr_getD, List.getD_cons_zero, List.getD_cons_succ]; first | exact RX.dec_t (by omega) | exact RX.dec_f (by omega) | exact RX.beq_t (by omega) | exact RX.beq_f (by omega) | exact RX.bne_t (by omega) | exact RX.bne_f (by omega) | exact RX.bneB _ | rfl) rfl
               · simp only [RX.put_some, List.set_cons_zero, List.set_cons_succ]; rfl
               refine hR _ _ ?_; clear hR R)
          refine RX.wpL_nil (hQR _ _ rfl ?_); clear hQR QR HO OPS
          go_wp2
          go_roundw
          case rel => exact ⟨k + 1, by omega, by go_num, by rw [HN.out], hbd⟩
          case measure => simp [intOf]; omega
      · by_cases h1 : x2 ≤ n
        · by_cases h2 : n < x3
          · have hn2 : ((l.take (k + 1)).map (sideOf true)).countP (inR n) = m + 1 := by rw [hn, if_pos (by simp [inR, sideOf, rowOf, h1, h2])]
            have HN := Lib.hid hn2
            clear hn hn2
            go_wp2
            refine RX.region RX.fL (fun w' => w' = _) (by kernel_rfl) (by kernel_rfl) rfl (fun OPS HO QR hQR => ?_)
            repeat
              refine RX.step (fun R hR => ?_)
              first
              | (refine RX.one_skip (by first | rfl | (rw [HO.out]; rfl)) (by simp only [RX.put_some, List.set_cons_zero, List.set_cons_succ]; rfl) ?_
                 refine hR _ _ ?_; clear hR R)
              | (refine RX.one_move (by first | rfl | (rw [HO.out]; rfl)) rfl (by first | exact Or.inl rfl | exact Or.inr rfl) (by simp only [RX.eval_tmp, RX.eval_const, List.getD_cons_zero, List.getD_cons_succ]; rfl) (by simp only [RX.put_some, List.set_cons_zero, List.set_cons_succ]; rfl) ?_
                 refine hR _ _ ?_; clear hR R)
              | (refine RX.one_nil (by first | rfl | (rw [HO.out]; rfl)) rfl rfl (by simp only [RX.eval_tmp, RX.eval_const, List.getD_cons_zero, List.getD_cons_succ]; rfl) (by simp only [RX.put_some, List.set_cons_zero, List.set_cons_succ]; rfl) ?_
                 refine hR _ _ ?_; clear hR R)
              | (refine RX.one_float (by first | rfl | (rw [HO.out]; rfl)) rfl rfl rfl ?_
                 apply Exists.intro; apply Exists.intro
                 refine ⟨fun w' hS K hK => ?_, ?_, ?_⟩
                 · subst hS; go_wp2; exact hK _ _ (by simp only [RX.arr_getD, List.getD_cons_zero, List.getD_cons_succ]; first | exact RX.dec_t (by omega) | exact RX.dec_f (by omega) | exact RX.beq_t (by omega) | exact RX.beq_f (by omega) | exact RX.bne_t (by omega) | exact RX.bne_f (by omega) | exact RX.bneB _ | rfl) rfl
                 · simp only [RX.put_some, List.set_cons_zero, List.set_cons_succ]; rfl
                 refine hR _ _ ?_; clear hR R)
            refine RX.wpL_nil (hQR _ _ rfl ?_); clear hQR QR HO OPS
            go_wp2
            refine RX.region RX.fL (fun w' => w' = _) (by kernel_rfl) (by kernel_rfl) rfl (fun OPS HO QR hQR => ?_)
            repeat
              refine RX.step (fun R hR => ?_)
              first
              | (refine RX.one_skip (by first | rfl | (rw [HO.out]; rfl)) (by simp only [RX.put_some, List.set_cons_zero, List.set_cons_succ]; rfl) ?_
                 refine hR _ _ ?_; clear hR R)
              | (refine RX.one_move (by first | rfl | (rw [HO.out]; rfl)) rfl (by first | exact Or.inl rfl | exact Or.inr rfl) (by simp only [RX.eval_tmp, RX.eval_const, List.getD_cons_zero, List.getD_cons_succ]; rfl) (by simp only [RX.put_some, List.set_cons_zero, List.set_cons_succ]; rfl) ?_
                 refine hR _ _ ?_; clear hR R)
              | (refine RX.one_nil (by first | rfl | (rw [HO.out]; rfl)) rfl rfl (by simp only [RX.eval_tmp, RX.eval_const, List.getD_cons_zero, List.getD_cons_succ]; rfl) (by simp only [RX.put_some, List.set_cons_zero, List.set_cons_succ]; rfl) ?_
                 refine hR _ _ ?_; clear hR R)
              | (refine RX.one_float (by first | rfl | (rw [HO.out]; rfl)) rfl rfl rfl ?_
                 apply Exists.intro; apply Exists.intro
                 refine ⟨fun w' hS K hK => ?_, ?_, ?_⟩
                 · subst hS; go_wp2; exact hK _ _ (by simp only [RX.arr_getD, List.getD_cons_zero, List.getD_cons_succ]; first | exact RX.dec_t (by omega) | exact RX.dec_f (by omega) | exact RX.beq_t (by omega) | exact RX.beq_f (by omega) | exact RX.bne_t (by omega) | exact RX.bne_f (by omega) | exact RX.bneB _ | rfl) rfl
                 · simp only [RX.put_some, List.set_cons_zero, List.set_cons_succ]; rfl
                 refine hR _ _ ?_; clear hR R)
            refine RX.wpL_nil (hQR _ _ rfl ?_); clear hQR QR HO OPS
            go_wp2
            go_roundw
            case rel => exact ⟨k + 1, by omega, by go_num, by rw [HN.out]; go_num, hbd.drew⟩
            case measure => simp [intOf]; omega
          · have hn2 : ((l.take (k + 1)).map (sideOf true)).countP (inR n) = m := by rw [hn, if_neg (by simp [inR, sideOf, rowOf, h1, h2]), Nat.add_zero]
            have HN := Lib.hid hn2
            clear hn hn2
            go_wp2
            refine RX.region RX.fL (fun w' => w' = _) (by kernel_rfl) (by kernel_rfl) rfl (fun OPS HO QR hQR => ?_)
            repeat
              refine RX.step (fun R hR => ?_)
              first
              | (refine RX.one_skip (by first | rfl | (rw [HO.out]; rfl)) (by simp only [RX.put_some, List.set_cons_zero, List.set_cons_succ]; rfl) ?_
                 refine hR _ _ ?_; clear hR R)
              | (refine RX.one_move (by first | rfl | (rw [HO.out]; rfl)) rfl (by first | exact Or.inl rfl | exact Or.inr rfl) (by simp only [RX.eval_tmp, RX.eval_const, List.getD_cons_zero, List.getD_cons_succ]; rfl) (by simp only [RX.put_some, List.set_cons_zero, List.set_cons_succ]; rfl) ?_
                 refine hR _ _ ?_; clear hR R)
              | (refine RX.one_nil (by first | rfl | (rw [HO.out]; rfl)) rfl rfl (by simp only [RX.eval_tmp, RX.eval_const, List.getD_cons_zero, List.getD_cons_succ]; rfl) (by simp only [RX.put_some, List.set_cons_zero, List.set_cons_succ]; rfl) ?_
                 refine hR _ _ ?_; clear hR R)
              | (refine RX.one_float (by first | rfl | (rw [HO.out]; rfl)) rfl rfl rfl ?_
                 apply Exists.intro; apply Exists.intro
                 refine ⟨fun w' hS K hK => ?_, ?_, ?_⟩
                 · subst hS; go_wp2; exact hK _ _ (by simp only [RX.arr_getD, List.getD_cons_zero, List.getD_cons_succ]; first | exact RX.dec_t (by omega) | exact RX.dec_f (by omega) | exact RX.beq_t (by omega) | exact RX.beq_f (by omega) | exact RX.bne_t (by omega) | exact RX.bne_f (by omega) | exact RX.bneB _ | rfl) rfl
                 · simp only [RX.put_some, List.set_cons_zero, List.set_cons_succ]; rfl
                 refine hR _ _ ?_; clear hR R)
            refine RX.wpL_nil (hQR _ _ rfl ?_); clear hQR QR HO OPS
            go_wp2
            refine RX.region RX.fL (fun w' => w' = _) (by kernel_rfl) (by kernel_rfl) rfl (fun OPS HO QR hQR => ?_)
            repeat
              refine RX.step (fun R hR => ?_)
              first
              | (refine RX.one_skip (by first | rfl | (rw [HO.out]; rfl)) (by simp only [RX.put_some, List.set_cons_zero, List.set_cons_succ]; rfl) ?_
                 refine hR _ _ ?_; clear hR R)
              | (refine RX.one_move (by first | rfl | (rw [HO.out]; rfl)) rfl (by first | exact Or.inl rfl | exact Or.inr rfl) (by simp only [RX.eval_tmp, RX.eval_const, List.getD_cons_zero, List.getD_cons_succ]; rfl) (by simp only [RX.put_some, List.set_cons_zero, List.set_cons_succ]; rfl) ?_
                 refine hR _ _ ?_; clear hR R)
              | (refine RX.one_nil (by first | rfl | (rw [HO.out]; rfl)) rfl rfl (by simp only [RX.eval_tmp, RX.eval_const, List.getD_cons_zero, List.getD_cons_succ]; rfl) (by simp only [RX.put_some, List.set_cons_zero, List.set_cons_succ]; rfl) ?_
                 refine hR _ _ ?_; clear hR R)
              | (refine RX.one_float (by first | rfl | (rw [HO.out]; rfl)) rfl rfl rfl ?_
                 apply Exists.intro; apply Exists.intro
                 refine ⟨fun w' hS K hK => ?_, ?_, ?_⟩
                 · subst hS; go_wp2; exact hK _ _ (by simp only [RX.arr_getD, List.getD_cons_zero, List.getD_cons_succ]; first | exact RX.dec_t (by omega) | exact RX.dec_f (by omega) | exact RX.beq_t (by omega) | exact RX.beq_f (by omega) | exact RX.bne_t (by omega) | exact RX.bne_f (by omega) | exact RX.bneB _ | rfl) rfl
                 · simp only [RX.put_some, List.set_cons_zero, List.set_cons_succ]; rfl
                 refine hR _ _ ?_; clear hR R)
            refine RX.wpL_nil (hQR _ _ rfl ?_); clear hQR QR HO OPS
            go_wp2
            go_roundw
            case rel => exact ⟨k + 1, by omega, by go_num, by rw [HN.out], hbd.drew⟩
            case measure => simp [intOf]; omega
        · have hn2 : ((l.take (k + 1)).map (sideOf true)).countP (inR n) = m := by rw [hn, if_neg (by simp [inR, sideOf, rowOf, h1]), Nat.add_zero]
          have HN := Lib.hid hn2
          clear hn hn2
          go_wp2
          refine RX.region RX.fL (fun w' => w' = _) (by kernel_rfl) (by kernel_rfl) rfl (fun OPS HO QR hQR => ?_)
          repeat
            refine RX.step (fun R hR => ?_)
            first
            | (refine RX.one_skip (by first | rfl | (rw [HO.out]; rfl)) (by simp only [RX.put_some, List.set_cons_zero, List.set_cons_succ]; rfl) ?_
               refine hR _ _ ?_; clear hR R)
            | (refine RX.one_move (by first | rfl | (rw [HO.out]; rfl)) rfl (by first | exact Or.inl rfl | exact Or.inr rfl) (by simp only [RX.eval_tmp, RX.eval_const, List.getD_cons_zero, List.getD_cons_succ]; rfl) (by simp only [RX.put_some, List.set_cons_zero, List.set_cons_succ]; rfl) ?_
               refine hR _ _ ?_; clear hR R)
            | (refine RX.one_nil (by first | rfl | (rw [HO.out]; rfl)) rfl rfl (by simp only [RX.eval_tmp, RX.eval_const, List.getD_cons_zero, List.getD_cons_succ]; rfl) (by simp only [RX.put_some, List.set_cons_zero, List.set_cons_succ]; rfl) ?_
               refine hR _ _ ?_; clear hR R)
            | (refine RX.one_float (by first | rfl | (rw [HO.out]; rfl)) rfl rfl rfl ?_
               apply Exists.intro; apply Exists.intro
               refine ⟨fun w' hS K hK => ?_, ?_, ?_⟩
               · subst hS; go_wp2; exact hK _ _ (by simp only [RX.arr_getD, List.getD_cons_zero, List.getD_cons_succ]; first | exact RX.dec_t (by omega) | exact RX.dec_f (by omega) | exact RX.beq_t (by omega) | exact RX.beq_f (by omega) | exact RX.bne_t (by omega) | exact RX.bne_f (by omega) | exact RX.bneB _ | rfl) rfl
               · simp only [RX.put_some, List.set_cons_zero, List.set_cons_succ]; rfl
               refine hR _ _ ?_; clear hR R)
          refine RX.wpL_nil (hQR _ _ rfl ?_); clear hQR QR HO OPS
          go_wp2
          refine RX.region RX.fL (fun w' => w' = _) (by kernel_rfl) (by kernel_rfl) rfl (fun OPS HO QR hQR => ?_)
          repeat
            refine RX.step (fun R hR => ?_)
            first
            | (refine RX.one_skip (by first | rfl | (rw [HO.out]; rfl)) (by simp only [RX.put_some, List.set_cons_zero, List.set_cons_succ]; rfl) ?_
               refine hR _ _ ?_; clear hR R)
            | (refine RX.one_move (by first | rfl | (rw [HO.out]; rfl)) rfl (by first | exact Or.inl rfl | exact Or.inr rfl) (by simp only [RX.eval_tmp, RX.eval_const, List.getD_cons_zero, List.getD_cons_succ]; rfl) (by simp only [RX.put_some, List.set_cons_zero, List.set_cons_succ]; rfl) ?_
               refine hR _ _ ?_; clear hR R)
            | (refine RX.one_nil (by first | rfl | (rw [HO.out]; rfl)) rfl rfl (by simp only [RX.eval_tmp, RX.eval_const, List.getD_cons_zero, List.getD_cons_succ]; rfl) (by simp only [RX.put_some, List.set_cons_zero, List.set_cons_succ]; rfl) ?_
               refine hR _ _ ?_; clear hR R)
            | (refine RX.one_float (by first | rfl | (rw [HO.out]; rfl)) rfl rfl rfl ?_
               apply Exists.intro; apply Exists.intro
               refine ⟨fun w' hS K hK => ?_, ?_, ?_⟩
               · subst hS; go_wp2; exact hK _ _ (by simp only [RX.arr_getD, List.getD_cons_zero, List.getD_cons_succ]; first | exact RX.dec_t (by omega) | exact RX.dec_f (by omega) | exact RX.beq_t (by omega) | exact RX.beq_f (by omega) | exact RX.bne_t (by omega) | exact RX.bne_f (by omega) | exact RX.bneB _ | rfl) rfl
               · simp only [RX.put_some, List.set_cons_zero, List.set_cons_succ]; rfl
               refine hR _ _ ?_; clear hR R)
          refine RX.wpL_nil (hQR _ _ rfl ?_); clear hQR QR HO OPS
          go_wp2
          go_roundw
          case rel => exact ⟨k + 1, by omega, by go_num, by rw [HN.out], hbd.drew⟩
          case measure => simp [intOf]; omega
    · obtain rfl : k = l.length := by omega
      go_wp2
      go_ret
      refine ⟨?_, hb⟩
      simp
end Go.Proofs.Ytgemfgfhdbkgfaa
