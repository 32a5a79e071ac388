import Derived.Test.YtgemfgfhdbkgfaaRefCheck
set_option linter.unusedSimpArgs false
set_option linter.unusedVariables false
namespace Go.Proofs.Ytgemfgfhdbkgfaa
open Go.RowKit

set_option maxRecDepth 100000 in
set_option maxHeartbeats 1000000 in
theorem refDivide_ok (nodes rows workers : Int) (w : World) (h1 : 0 ≤ nodes) (h2 : nodes ≤ 100000) (h3 : 0 ≤ rows) (h4 : rows ≤ 100000) (h5 : 1 ≤ workers) (h6 : workers ≤ 16) :
    Calls Try.prog 15 #[.int .i64 nodes, .int .i64 rows, .int .i64 workers] w fun e w' => ∃ v, e = .returned (.tuple #[v, .int .i64 0]) ∧ w'.ownsRow w.heap.size 28 4 v workers.toNat (partsTo nodes rows workers workers.toNat) ∧ Below w.heap.size w w' := by
  go_enter Try.func15, Try.ntmps15
  go_wp2
  go_loopw [8, 9] (fun v i wr => ∃ k : Nat, k ≤ workers.toNat ∧ i = .int .i64 k ∧ wr.ownsRow w.heap.size 28 4 v k (partsTo nodes rows workers k) ∧ Below w.heap.size w wr) (fun _ i _ => workers.toNat - (intOf i).toNat)
  case atStart => exact ⟨0, Nat.zero_le _, rfl, World.ownsRow_nil _ _ _ _, Below.refl _ _⟩
  case round =>
    obtain ⟨k, hk, rfl, hown, hb⟩ := hrel
    by_cases hlt : (k : Int) < workers
    · go_wp2
      have hk16 : (k : Int) ≤ 15 := by omega
      have p1 : 0 ≤ (k : Int) * nodes := Int.mul_nonneg (by omega) (by omega)
      have p2 : (k : Int) * nodes ≤ 1500000 := Int.le_trans (Int.mul_le_mul hk16 h2 (by omega) (by omega)) (by omega)
      have p3 : 0 ≤ ((k : Int) + 1) * nodes := Int.mul_nonneg (by omega) (by omega)
      have p4 : ((k : Int) + 1) * nodes ≤ 1600000 := Int.le_trans (Int.mul_le_mul (show (k : Int) + 1 ≤ 16 by omega) h2 (by omega) (by omega)) (by omega)
      have q1 : 0 ≤ (k : Int) * rows := Int.mul_nonneg (by omega) (by omega)
      have q2 : (k : Int) * rows ≤ 1500000 := Int.le_trans (Int.mul_le_mul hk16 h4 (by omega) (by omega)) (by omega)
      have q3 : 0 ≤ ((k : Int) + 1) * rows := Int.mul_nonneg (by omega) (by omega)
      have q4 : ((k : Int) + 1) * rows ≤ 1600000 := Int.le_trans (Int.mul_le_mul (show (k : Int) + 1 ≤ 16 by omega) h4 (by omega) (by omega)) (by omega)
      have hw0 : (workers == 0) = false := by rw [beq_eq_false_iff_ne]; omega
      refine RX.region RX.fW (fun _ => True) (by kernel_rfl) (by kernel_rfl) (trivial) (fun OPS HO QR hQR => ?_)
      repeat
        refine RX.step (fun R hR => ?_)
        first
        | (refine RX.one_skip (by first | rfl | (rw [HO.out]; rfl)) (by simp only [RX.put_some, List.set_cons_zero, List.set_cons_succ]; rfl) ?_
           refine hR _ _ ?_; clear hR R)
        | (refine RX.one_move (by first | rfl | (rw [HO.out]; rfl)) rfl (by first | exact Or.inl rfl | exact Or.inr rfl) (by simp only [RX.eval_tmp, RX.eval_const, List.getD_cons_zero, List.getD_cons_succ]; rfl) (by simp only [RX.put_some, List.set_cons_zero, List.set_cons_succ]; rfl) ?_
           refine hR _ _ ?_; clear hR R)
        | (refine RX.one_nil (by first | rfl | (rw [HO.out]; rfl)) rfl rfl (by simp only [RX.eval_tmp, RX.eval_const, List.getD_cons_zero, List.getD_cons_succ]; rfl) (by simp only [RX.put_some, List.set_cons_zero, List.set_cons_succ]; rfl) ?_
           refine hR _ _ ?_; clear hR R)
        | (refine RX.one_float (by first | rfl | (rw [HO.out]; rfl)) rfl rfl rfl ?_
           apply Exists.intro; apply Exists.intro
           refine ⟨fun w' hS K hK => ?_, ?_, ?_⟩
           · go_wp2; exact hK _ _ (by simp only [RX.arr_getD, List.getD_cons_zero, List.getD_cons_succ]; first | exact RX.dec_t (by omega) | exact RX.dec_f (by omega) | exact RX.beq_t (by omega) | exact RX.beq_f (by omega) | exact RX.bne_t (by omega) | exact RX.bne_f (by omega) | exact RX.bneB _ | rfl) rfl
           · simp only [RX.put_some, List.set_cons_zero, List.set_cons_succ]; rfl
           refine hR _ _ ?_; clear hR R)
      refine RX.step (fun R hR => ?_)
      refine RX.one_chain (by first | rfl | (rw [HO.out]; rfl)) rfl (fun K hK => ?_)
      go_wp2
      refine ⟨trivial, hR _ _ ?_⟩; clear hR R
      refine RX.step (fun R hR => ?_)
      refine RX.one_chain (by first | rfl | (rw [HO.out]; rfl)) rfl (fun K hK => ?_)
      refine RX.wp_app elPart _ _ rfl w.heap.size _ _ _ (World.ownsRow.drew (hown.alloc _)) (by simp only [RX.eval_tmp, RX.eval_const, List.getD_cons_zero, List.getD_cons_succ]) wr.heap.size _ 1 (by simp only [RX.eval_tmp, RX.eval_const, List.getD_cons_zero, List.getD_cons_succ]) (heap_alloc_new _ _) rfl (by simp [Value.oneCell']) (by omega) (by omega) (by have := hb.size; simp; omega) (fun v' w' hown' hb' hg' hat' => ?_)
      refine hK _ _ ⟨trivial, ?_⟩; clear hK K; refine RX.at_ (by simp only [RX.put_some, List.set_cons_zero, List.set_cons_succ]; rfl) (hR _ _ ?_); clear hR R
      repeat
        refine RX.step (fun R hR => ?_)
        first
        | (refine RX.one_skip (by first | rfl | (rw [HO.out]; rfl)) (by simp only [RX.put_some, List.set_cons_zero, List.set_cons_succ]; rfl) ?_
           refine hR _ _ ?_; clear hR R)
        | (refine RX.one_move (by first | rfl | (rw [HO.out]; rfl)) rfl (by first | exact Or.inl rfl | exact Or.inr rfl) (by simp only [RX.eval_tmp, RX.eval_const, List.getD_cons_zero, List.getD_cons_succ]; rfl) (by simp only [RX.put_some, List.set_cons_zero, List.set_cons_succ]; rfl) ?_
           refine hR _ _ ?_; clear hR R)
        | (refine RX.one_nil (by first | rfl | (rw [HO.out]; rfl)) rfl rfl (by simp only [RX.eval_tmp, RX.eval_const, List.getD_cons_zero, List.getD_cons_succ]; rfl) (by simp only [RX.put_some, List.set_cons_zero, List.set_cons_succ]; rfl) ?_
           refine hR _ _ ?_; clear hR R)
        | (refine RX.one_float (by first | rfl | (rw [HO.out]; rfl)) rfl rfl rfl ?_
           apply Exists.intro; apply Exists.intro
           refine ⟨fun w' hS K hK => ?_, ?_, ?_⟩
           · go_wp2; exact hK _ _ (by simp only [RX.arr_getD, List.getD_cons_zero, List.getD_cons_succ]; first | exact RX.dec_t (by omega) | exact RX.dec_f (by omega) | exact RX.beq_t (by omega) | exact RX.beq_f (by omega) | exact RX.bne_t (by omega) | exact RX.bne_f (by omega) | exact RX.bneB _ | rfl) rfl
           · simp only [RX.put_some, List.set_cons_zero, List.set_cons_succ]; rfl
           refine hR _ _ ?_; clear hR R)
      refine RX.wpL_nil (hQR _ _ (trivial) ?_); clear hQR QR HO OPS
      have hb2 : Below w.heap.size w w' := ((hb.alloc hb.size _).drew).trans hb'
      clear hb' hg' hat' hown hw0
      go_wp2
      go_roundw
      case rel => exact ⟨k + 1, by omega, by go_num, by rw [partsTo_succ]; exact hown', hb2⟩
      case measure => simp [intOf]; omega
    · have hk' : k = workers.toNat := by omega
      subst hk'
      go_wp2
      go_ret2
      exact ⟨_, rfl, hown, hb⟩

/-- The numbers that are divided. -/
def DivOk (nodes rows workers : Int) : Prop := 0 ≤ nodes ∧ nodes ≤ 100000 ∧ 0 ≤ rows ∧ rows ≤ 100000 ∧ 1 ≤ workers ∧ workers ≤ 16

set_option maxHeartbeats 1000000 in
theorem refDivide_no (nodes rows workers : Int) (w : World) (h : ¬ DivOk nodes rows workers) :
    Calls Try.prog 15 #[.int .i64 nodes, .int .i64 rows, .int .i64 workers] w fun e w' => e = .returned (.tuple #[.slice none 0 0, .int .i64 1]) ∧ w = w' := by
  unfold DivOk at h
  go_enter Try.func15, Try.ntmps15
  by_cases h1 : nodes < 0
  · clear h; go_wp2; go_ret2; exact ⟨rfl, rfl⟩
  · by_cases h2 : nodes > 100000
    · clear h; go_wp2; go_ret2; exact ⟨rfl, rfl⟩
    · by_cases h3 : rows < 0
      · clear h; go_wp2; go_ret2; exact ⟨rfl, rfl⟩
      · by_cases h4 : rows > 100000
        · clear h; go_wp2; go_ret2; exact ⟨rfl, rfl⟩
        · by_cases h5 : workers < 1
          · clear h; go_wp2; go_ret2; exact ⟨rfl, rfl⟩
          · have h6 : workers > 16 := by omega
            clear h; go_wp2; go_ret2; exact ⟨rfl, rfl⟩

set_option maxHeartbeats 1000000 in
theorem divide_no (nodes rows workers : Int) (w : World) (h : ¬ DivOk nodes rows workers) :
    Calls Try.prog 7 #[.int .i64 nodes, .int .i64 rows, .int .i64 workers] w fun e w' => e = .returned (.tuple #[.slice none 0 0, .int .i64 1]) ∧ w = w' := by
  unfold DivOk at h
  go_enter Try.func7, Try.ntmps7
  by_cases h1 : nodes < 0 ∨ nodes > 100000
  ·
    clear h
    go_wp2_with (go_at_call 19; (first | (refine (within_yes _ _ _ _ (by omega)).mono ?_) | (refine (within_no _ _ _ _ (by omega)).mono ?_)); rintro e w' ⟨rfl, rfl⟩)
    go_ret2
    exact ⟨rfl, rfl⟩
  · by_cases h2 : rows < 0 ∨ rows > 100000
    ·
      clear h
      go_wp2_with (go_at_call 19; (first | (refine (within_yes _ _ _ _ (by omega)).mono ?_) | (refine (within_no _ _ _ _ (by omega)).mono ?_)); rintro e w' ⟨rfl, rfl⟩)
      go_ret2
      exact ⟨rfl, rfl⟩
    · have h5 : workers < 1 ∨ workers > 16 := by omega
      clear h
      go_wp2_with (go_at_call 19; (first | (refine (within_yes _ _ _ _ (by omega)).mono ?_) | (refine (within_no _ _ _ _ (by omega)).mono ?_)); rintro e w' ⟨rfl, rfl⟩)
      go_ret2
      exact ⟨rfl, rfl⟩
end Go.Proofs.Ytgemfgfhdbkgfaa
