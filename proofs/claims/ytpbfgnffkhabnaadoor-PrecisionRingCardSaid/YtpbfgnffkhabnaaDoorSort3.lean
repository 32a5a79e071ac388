import Derived.Test.YtpbfgnffkhabnaaDoorCells
import Derived.Test.YtpbfgnffkhabnaaDoorCmp
import Derived.Test.YtpbfgnffkhabnaaDoorLaidSort
set_option linter.unusedSimpArgs false
set_option linter.unusedVariables false
namespace Go.Proofs.YtpbfgnffkhabnaaDoor
open Go.RowKit Go.Sort Go.Shelf

abbrev I3 := Int × Int × Int
def enc3 (x : I3) : List Value := [.int .i64 x.1, .int .i64 x.2.1, .int .i64 x.2.2]
def cf3 (x y : I3) : Int := orL [sgn x.1 y.1, sgn x.2.1 y.2.1, sgn x.2.2 y.2.2]
/-- The order of the cells. -/
def lt3 (x y : I3) : Prop := x.1 < y.1 ∨ x.1 = y.1 ∧ (x.2.1 < y.2.1 ∨ x.2.1 = y.2.1 ∧ x.2.2 < y.2.2)
instance (x y : I3) : Decidable (lt3 x y) := by unfold lt3; infer_instance
theorem ltOf3_iff (x y : I3) : ltOf cf3 x y = true ↔ lt3 x y := by
  unfold ltOf cf3 lt3
  rw [decide_eq_true_eq]
  obtain ⟨s0, h0⟩ : ∃ s, s = sgn x.1 y.1 := ⟨_, rfl⟩
  rw [← h0]
  have g0 : (x.1 < y.1 ∧ s0 = -1) ∨ (x.1 = y.1 ∧ s0 = 0) ∨ (y.1 < x.1 ∧ s0 = 1) := by
    rw [h0]; unfold sgn; (repeat' split) <;> omega
  obtain ⟨s1, h1⟩ : ∃ s, s = sgn x.2.1 y.2.1 := ⟨_, rfl⟩
  rw [← h1]
  have g1 : (x.2.1 < y.2.1 ∧ s1 = -1) ∨ (x.2.1 = y.2.1 ∧ s1 = 0) ∨ (y.2.1 < x.2.1 ∧ s1 = 1) := by
    rw [h1]; unfold sgn; (repeat' split) <;> omega
  obtain ⟨s2, h2⟩ : ∃ s, s = sgn x.2.2 y.2.2 := ⟨_, rfl⟩
  rw [← h2]
  have g2 : (x.2.2 < y.2.2 ∧ s2 = -1) ∨ (x.2.2 = y.2.2 ∧ s2 = 0) ∨ (y.2.2 < x.2.2 ∧ s2 = 1) := by
    rw [h2]; unfold sgn; (repeat' split) <;> omega
  clear h0 h1 h2
  rcases g0 with ⟨e0, rfl⟩ | ⟨e0, rfl⟩ | ⟨e0, rfl⟩ <;> rcases g1 with ⟨e1, rfl⟩ | ⟨e1, rfl⟩ | ⟨e1, rfl⟩ <;> rcases g2 with ⟨e2, rfl⟩ | ⟨e2, rfl⟩ | ⟨e2, rfl⟩ <;> simp only [orL] <;> (constructor <;> intro h <;> first | omega | (simp at h; done) | (simp at h; omega) | (simp; done) | (simp; omega))
theorem ltOf3_not (x y : I3) : ltOf cf3 x y = false ↔ ¬ lt3 x y := by rw [← ltOf3_iff, Bool.not_eq_true]
theorem swo3 : SWO (ltOf cf3) where
  irrefl := fun x => (ltOf3_not x x).2 (by unfold lt3; omega)
  trans := fun x y z h1 h2 => (ltOf3_iff _ _).2 (by have a := (ltOf3_iff _ _).1 h1; have b := (ltOf3_iff _ _).1 h2; unfold lt3 at *; omega)
  ntrans := fun x y z h1 h2 => (ltOf3_not _ _).2 (by have a := (ltOf3_not _ _).1 h1; have b := (ltOf3_not _ _).1 h2; unfold lt3 at *; omega)

abbrev I2 := Int × Int
def enc2 (x : I2) : List Value := [.int .i64 x.1, .int .i64 x.2]
def cf2 (x y : I2) : Int := orL [sgn x.1 y.1, sgn x.2 y.2]
def lt2 (x y : I2) : Prop := x.1 < y.1 ∨ x.1 = y.1 ∧ x.2 < y.2
instance (x y : I2) : Decidable (lt2 x y) := by unfold lt2; infer_instance
theorem ltOf2_iff (x y : I2) : ltOf cf2 x y = true ↔ lt2 x y := by
  unfold ltOf cf2 lt2
  rw [decide_eq_true_eq]
  obtain ⟨s0, h0⟩ : ∃ s, s = sgn x.1 y.1 := ⟨_, rfl⟩
  rw [← h0]
  have g0 : (x.1 < y.1 ∧ s0 = -1) ∨ (x.1 = y.1 ∧ s0 = 0) ∨ (y.1 < x.1 ∧ s0 = 1) := by
    rw [h0]; unfold sgn; (repeat' split) <;> omega
  obtain ⟨s1, h1⟩ : ∃ s, s = sgn x.2 y.2 := ⟨_, rfl⟩
  rw [← h1]
  have g1 : (x.2 < y.2 ∧ s1 = -1) ∨ (x.2 = y.2 ∧ s1 = 0) ∨ (y.2 < x.2 ∧ s1 = 1) := by
    rw [h1]; unfold sgn; (repeat' split) <;> omega
  clear h0 h1
  rcases g0 with ⟨e0, rfl⟩ | ⟨e0, rfl⟩ | ⟨e0, rfl⟩ <;> rcases g1 with ⟨e1, rfl⟩ | ⟨e1, rfl⟩ | ⟨e1, rfl⟩ <;> simp only [orL] <;> (constructor <;> intro h <;> first | omega | (simp at h; done) | (simp at h; omega) | (simp; done) | (simp; omega))
theorem ltOf2_not (x y : I2) : ltOf cf2 x y = false ↔ ¬ lt2 x y := by rw [← ltOf2_iff, Bool.not_eq_true]
theorem swo2 : SWO (ltOf cf2) where
  irrefl := fun x => (ltOf2_not x x).2 (by unfold lt2; omega)
  trans := fun x y z h1 h2 => (ltOf2_iff _ _).2 (by have a := (ltOf2_iff _ _).1 h1; have b := (ltOf2_iff _ _).1 h2; unfold lt2 at *; omega)
  ntrans := fun x y z h1 h2 => (ltOf2_not _ _).2 (by have a := (ltOf2_not _ _).1 h1; have b := (ltOf2_not _ _).1 h2; unfold lt2 at *; omega)

set_option maxRecDepth 100000 in
set_option maxHeartbeats 1000000 in
theorem lessCell (x y : I3) (w : World) : Calls Tryd.prog 93 #[.agg #[.int .i64 x.1, .int .i64 x.2.1, .int .i64 x.2.2], .agg #[.int .i64 y.1, .int .i64 y.2.1, .int .i64 y.2.2]] w fun e w' => e = .returned (.int .i64 (cf3 x y)) ∧ ∃ q os', w' = grow (w.drewN q) os' := by
  obtain ⟨x0, x1, x2⟩ := x
  obtain ⟨y0, y1, y2⟩ := y
  dsimp only
  have HC : Hid (cf3 (x0, x1, x2) (y0, y1, y2) = orL [sgn x0 y0, sgn x1 y1, sgn x2 y2]) := Lib.hid rfl
  go_enter Tryd.func93, Tryd.ntmps93
  go_wp2
  refine RX.region RX.fL (fun w' => w'.cell? ⟨w.heap.size, 0, none⟩ = some (.int .i64 x0) ∧ w'.cell? ⟨w.heap.size, 1, none⟩ = some (.int .i64 x1) ∧ w'.cell? ⟨w.heap.size, 2, none⟩ = some (.int .i64 x2) ∧ w'.cell? ⟨w.heap.size + 1, 0, none⟩ = some (.int .i64 y0) ∧ w'.cell? ⟨w.heap.size + 1, 1, none⟩ = some (.int .i64 y1) ∧ w'.cell? ⟨w.heap.size + 1, 2, none⟩ = some (.int .i64 y2)) (by kernel_rfl) (by kernel_rfl) ((by simp [RX.cell_drew, RX.cell_alloc, Nat.add_assoc])) (fun OPS HO QR hQR => ?_)
  repeat
    refine RX.step (fun R hR => ?_)
    first
    | (refine RX.one_skip (by first | rfl | (rw [HO.out]; rfl)) (by simp only [RX.put_some, RX.put_none, List.set_cons_zero, List.set_cons_succ]; rfl) ?_
       refine hR _ _ ?_; clear hR R)
    | (refine RX.one_move (by first | rfl | (rw [HO.out]; rfl)) rfl (by first | exact Or.inl rfl | exact Or.inr rfl) (by simp only [RX.eval_tmp, RX.eval_const, List.getD_cons_zero, List.getD_cons_succ]; rfl) (by simp only [RX.put_some, RX.put_none, List.set_cons_zero, List.set_cons_succ]; rfl) ?_
       refine hR _ _ ?_; clear hR R)
    | (refine RX.one_nil (by first | rfl | (rw [HO.out]; rfl)) rfl rfl (by simp only [RX.eval_tmp, RX.eval_const, List.getD_cons_zero, List.getD_cons_succ]; rfl) (by simp only [RX.put_some, RX.put_none, List.set_cons_zero, List.set_cons_succ]; rfl) ?_
       refine hR _ _ ?_; clear hR R)
    | (refine RX.one_float (by first | rfl | (rw [HO.out]; rfl)) rfl rfl rfl ?_
       apply Exists.intro; apply Exists.intro
       refine ⟨fun w' hS K hK => ?_, ?_, ?_⟩
       · obtain ⟨hS1, hS2, hS3, hS4, hS5, hS6⟩ := hS; go_wp2; exact hK _ _ (by simp only [RX.arr_getD, List.getD_cons_zero, List.getD_cons_succ]; first | exact RX.dec_t (by omega) | exact RX.dec_f (by omega) | exact RX.beq_t (by omega) | exact RX.beq_f (by omega) | exact RX.bne_t (by omega) | exact RX.bne_f (by omega) | exact RX.bneB _ | rfl) rfl
       · simp only [RX.put_some, RX.put_none, List.set_cons_zero, List.set_cons_succ]; rfl
       refine hR _ _ ?_; clear hR R)
  refine RX.step (fun R hR => ?_)
  refine RX.one_chain (by first | rfl | (rw [HO.out]; rfl)) rfl (fun K hK => ?_)
  go_wp2_with (go_at_call 70; refine (cmp_int _ _ _).mono ?_; rintro e w' ⟨rfl, rfl⟩)
  refine ⟨(by simp [RX.cell_drew, RX.cell_alloc, Nat.add_assoc]), hR _ _ ?_⟩; clear hR R
  repeat
    refine RX.step (fun R hR => ?_)
    first
    | (refine RX.one_skip (by first | rfl | (rw [HO.out]; rfl)) (by simp only [RX.put_some, RX.put_none, List.set_cons_zero, List.set_cons_succ]; rfl) ?_
       refine hR _ _ ?_; clear hR R)
    | (refine RX.one_move (by first | rfl | (rw [HO.out]; rfl)) rfl (by first | exact Or.inl rfl | exact Or.inr rfl) (by simp only [RX.eval_tmp, RX.eval_const, List.getD_cons_zero, List.getD_cons_succ]; rfl) (by simp only [RX.put_some, RX.put_none, List.set_cons_zero, List.set_cons_succ]; rfl) ?_
       refine hR _ _ ?_; clear hR R)
    | (refine RX.one_nil (by first | rfl | (rw [HO.out]; rfl)) rfl rfl (by simp only [RX.eval_tmp, RX.eval_const, List.getD_cons_zero, List.getD_cons_succ]; rfl) (by simp only [RX.put_some, RX.put_none, List.set_cons_zero, List.set_cons_succ]; rfl) ?_
       refine hR _ _ ?_; clear hR R)
    | (refine RX.one_float (by first | rfl | (rw [HO.out]; rfl)) rfl rfl rfl ?_
       apply Exists.intro; apply Exists.intro
       refine ⟨fun w' hS K hK => ?_, ?_, ?_⟩
       · obtain ⟨hS1, hS2, hS3, hS4, hS5, hS6⟩ := hS; go_wp2; exact hK _ _ (by simp only [RX.arr_getD, List.getD_cons_zero, List.getD_cons_succ]; first | exact RX.dec_t (by omega) | exact RX.dec_f (by omega) | exact RX.beq_t (by omega) | exact RX.beq_f (by omega) | exact RX.bne_t (by omega) | exact RX.bne_f (by omega) | exact RX.bneB _ | rfl) rfl
       · simp only [RX.put_some, RX.put_none, List.set_cons_zero, List.set_cons_succ]; rfl
       refine hR _ _ ?_; clear hR R)
  refine RX.step (fun R hR => ?_)
  refine RX.one_chain (by first | rfl | (rw [HO.out]; rfl)) rfl (fun K hK => ?_)
  go_wp2_with (go_at_call 70; refine (cmp_int _ _ _).mono ?_; rintro e w' ⟨rfl, rfl⟩)
  refine ⟨(by simp [RX.cell_drew, RX.cell_alloc, Nat.add_assoc]), hR _ _ ?_⟩; clear hR R
  repeat
    refine RX.step (fun R hR => ?_)
    first
    | (refine RX.one_skip (by first | rfl | (rw [HO.out]; rfl)) (by simp only [RX.put_some, RX.put_none, List.set_cons_zero, List.set_cons_succ]; rfl) ?_
       refine hR _ _ ?_; clear hR R)
    | (refine RX.one_move (by first | rfl | (rw [HO.out]; rfl)) rfl (by first | exact Or.inl rfl | exact Or.inr rfl) (by simp only [RX.eval_tmp, RX.eval_const, List.getD_cons_zero, List.getD_cons_succ]; rfl) (by simp only [RX.put_some, RX.put_none, List.set_cons_zero, List.set_cons_succ]; rfl) ?_
       refine hR _ _ ?_; clear hR R)
    | (refine RX.one_nil (by first | rfl | (rw [HO.out]; rfl)) rfl rfl (by simp only [RX.eval_tmp, RX.eval_const, List.getD_cons_zero, List.getD_cons_succ]; rfl) (by simp only [RX.put_some, RX.put_none, List.set_cons_zero, List.set_cons_succ]; rfl) ?_
       refine hR _ _ ?_; clear hR R)
    | (refine RX.one_float (by first | rfl | (rw [HO.out]; rfl)) rfl rfl rfl ?_
       apply Exists.intro; apply Exists.intro
       refine ⟨fun w' hS K hK => ?_, ?_, ?_⟩
       · obtain ⟨hS1, hS2, hS3, hS4, hS5, hS6⟩ := hS; go_wp2; exact hK _ _ (by simp only [RX.arr_getD, List.getD_cons_zero, List.getD_cons_succ]; first | exact RX.dec_t (by omega) | exact RX.dec_f (by omega) | exact RX.beq_t (by omega) | exact RX.beq_f (by omega) | exact RX.bne_t (by omega) | exact RX.bne_f (by omega) | exact RX.bneB _ | rfl) rfl
       · simp only [RX.put_some, RX.put_none, List.set_cons_zero, List.set_cons_succ]; rfl
       refine hR _ _ ?_; clear hR R)
  refine RX.step (fun R hR => ?_)
  refine RX.one_chain (by first | rfl | (rw [HO.out]; rfl)) rfl (fun K hK => ?_)
  go_wp2_with (go_at_call 70; refine (cmp_int _ _ _).mono ?_; rintro e w' ⟨rfl, rfl⟩)
  refine ⟨(by simp [RX.cell_drew, RX.cell_alloc, Nat.add_assoc]), hR _ _ ?_⟩; clear hR R
  repeat
    refine RX.step (fun R hR => ?_)
    first
    | (refine RX.one_skip (by first | rfl | (rw [HO.out]; rfl)) (by simp only [RX.put_some, RX.put_none, List.set_cons_zero, List.set_cons_succ]; rfl) ?_
       refine hR _ _ ?_; clear hR R)
    | (refine RX.one_move (by first | rfl | (rw [HO.out]; rfl)) rfl (by first | exact Or.inl rfl | exact Or.inr rfl) (by simp only [RX.eval_tmp, RX.eval_const, List.getD_cons_zero, List.getD_cons_succ]; rfl) (by simp only [RX.put_some, RX.put_none, List.set_cons_zero, List.set_cons_succ]; rfl) ?_
       refine hR _ _ ?_; clear hR R)
    | (refine RX.one_nil (by first | rfl | (rw [HO.out]; rfl)) rfl rfl (by simp only [RX.eval_tmp, RX.eval_const, List.getD_cons_zero, List.getD_cons_succ]; rfl) (by simp only [RX.put_some, RX.put_none, List.set_cons_zero, List.set_cons_succ]; rfl) ?_
       refine hR _ _ ?_; clear hR R)
    | (refine RX.one_float (by first | rfl | (rw [HO.out]; rfl)) rfl rfl rfl ?_
       apply Exists.intro; apply Exists.intro
       refine ⟨fun w' hS K hK => ?_, ?_, ?_⟩
       · obtain ⟨hS1, hS2, hS3, hS4, hS5, hS6⟩ := hS; go_wp2; exact hK _ _ (by simp only [RX.arr_getD, List.getD_cons_zero, List.getD_cons_succ]; first | exact RX.dec_t (by omega) | exact RX.dec_f (by omega) | exact RX.beq_t (by omega) | exact RX.beq_f (by omega) | exact RX.bne_t (by omega) | exact RX.bne_f (by omega) | exact RX.bneB _ | rfl) rfl
       · simp only [RX.put_some, RX.put_none, List.set_cons_zero, List.set_cons_succ]; rfl
       refine hR _ _ ?_; clear hR R)
  refine RX.step (fun R hR => ?_)
  refine RX.one_chain (by first | rfl | (rw [HO.out]; rfl)) rfl (fun K hK => ?_)
  go_wp2
  refine ⟨(by simp [RX.cell_drew, RX.cell_alloc, Nat.add_assoc]), hR _ _ ?_⟩; clear hR R
  repeat
    refine RX.step (fun R hR => ?_)
    first
    | (refine RX.one_skip (by first | rfl | (rw [HO.out]; rfl)) (by simp only [RX.put_some, RX.put_none, List.set_cons_zero, List.set_cons_succ]; rfl) ?_
       refine hR _ _ ?_; clear hR R)
    | (refine RX.one_move (by first | rfl | (rw [HO.out]; rfl)) rfl (by first | exact Or.inl rfl | exact Or.inr rfl) (by simp only [RX.eval_tmp, RX.eval_const, List.getD_cons_zero, List.getD_cons_succ]; rfl) (by simp only [RX.put_some, RX.put_none, List.set_cons_zero, List.set_cons_succ]; rfl) ?_
       refine hR _ _ ?_; clear hR R)
    | (refine RX.one_nil (by first | rfl | (rw [HO.out]; rfl)) rfl rfl (by simp only [RX.eval_tmp, RX.eval_const, List.getD_cons_zero, List.getD_cons_succ]; rfl) (by simp only [RX.put_some, RX.put_none, List.set_cons_zero, List.set_cons_succ]; rfl) ?_
       refine hR _ _ ?_; clear hR R)
    | (refine RX.one_float (by first | rfl | (rw [HO.out]; rfl)) rfl rfl rfl ?_
       apply Exists.intro; apply Exists.intro
       refine ⟨fun w' hS K hK => ?_, ?_, ?_⟩
       · obtain ⟨hS1, hS2, hS3, hS4, hS5, hS6⟩ := hS; go_wp2; exact hK _ _ (by simp only [RX.arr_getD, List.getD_cons_zero, List.getD_cons_succ]; first | exact RX.dec_t (by omega) | exact RX.dec_f (by omega) | exact RX.beq_t (by omega) | exact RX.beq_f (by omega) | exact RX.bne_t (by omega) | exact RX.bne_f (by omega) | exact RX.bneB _ | rfl) rfl
       · simp only [RX.put_some, RX.put_none, List.set_cons_zero, List.set_cons_succ]; rfl
       refine hR _ _ ?_; clear hR R)
  refine RX.step (fun R hR => ?_)
  refine RX.one_chain (by first | rfl | (rw [HO.out]; rfl)) rfl (fun K hK => ?_)
  go_wp2_with fail
  refine (or_int _ _ _ [sgn x0 y0, sgn x1 y1, sgn x2 y2] _ rfl ?_ (by simp)).mono ?_
  · intro j v hj
    match j, hj with
    | 0, hj => simp at hj; subst hj; exact (by simp [RX.cell_drew, RX.cell_alloc, Nat.add_assoc])
    | 1, hj => simp at hj; subst hj; exact (by simp [RX.cell_drew, RX.cell_alloc, Nat.add_assoc])
    | 2, hj => simp at hj; subst hj; exact (by simp [RX.cell_drew, RX.cell_alloc, Nat.add_assoc])
  rintro e w' ⟨rfl, rfl⟩
  rw [← HC.out]
  refine hK _ _ ⟨(by simp [RX.cell_drew, RX.cell_alloc, Nat.add_assoc]), hR _ _ ?_⟩; clear hK K hR R
  repeat
    refine RX.step (fun R hR => ?_)
    first
    | (refine RX.one_skip (by first | rfl | (rw [HO.out]; rfl)) (by simp only [RX.put_some, RX.put_none, List.set_cons_zero, List.set_cons_succ]; rfl) ?_
       refine hR _ _ ?_; clear hR R)
    | (refine RX.one_move (by first | rfl | (rw [HO.out]; rfl)) rfl (by first | exact Or.inl rfl | exact Or.inr rfl) (by simp only [RX.eval_tmp, RX.eval_const, List.getD_cons_zero, List.getD_cons_succ]; rfl) (by simp only [RX.put_some, RX.put_none, List.set_cons_zero, List.set_cons_succ]; rfl) ?_
       refine hR _ _ ?_; clear hR R)
    | (refine RX.one_nil (by first | rfl | (rw [HO.out]; rfl)) rfl rfl (by simp only [RX.eval_tmp, RX.eval_const, List.getD_cons_zero, List.getD_cons_succ]; rfl) (by simp only [RX.put_some, RX.put_none, List.set_cons_zero, List.set_cons_succ]; rfl) ?_
       refine hR _ _ ?_; clear hR R)
    | (refine RX.one_float (by first | rfl | (rw [HO.out]; rfl)) rfl rfl rfl ?_
       apply Exists.intro; apply Exists.intro
       refine ⟨fun w' hS K hK => ?_, ?_, ?_⟩
       · go_wp2; exact hK _ _ (by simp only [RX.arr_getD, List.getD_cons_zero, List.getD_cons_succ]; first | exact RX.dec_t (by omega) | exact RX.dec_f (by omega) | exact RX.beq_t (by omega) | exact RX.beq_f (by omega) | exact RX.bne_t (by omega) | exact RX.bne_f (by omega) | exact RX.bneB _ | rfl) rfl
       · simp only [RX.put_some, RX.put_none, List.set_cons_zero, List.set_cons_succ]; rfl
       refine hR _ _ ?_; clear hR R)
  refine RX.wpL_nil (hQR _ _ ((by simp [RX.cell_drew, RX.cell_alloc, Nat.add_assoc])) ?_); clear hQR QR HO OPS
  go_wp2
  go_ret
  exact ⟨rfl, 1, _, by rw [alloc_eq_grow, alloc_eq_grow, alloc_eq_grow, grow_grow, grow_grow]; rfl⟩
set_option maxRecDepth 100000 in
set_option maxHeartbeats 1000000 in
theorem lessEdge (x y : I2) (w : World) : Calls Tryd.prog 95 #[.agg #[.int .i64 x.1, .int .i64 x.2], .agg #[.int .i64 y.1, .int .i64 y.2]] w fun e w' => e = .returned (.int .i64 (cf2 x y)) ∧ ∃ q os', w' = grow (w.drewN q) os' := by
  obtain ⟨x0, x1⟩ := x
  obtain ⟨y0, y1⟩ := y
  dsimp only
  have HC : Hid (cf2 (x0, x1) (y0, y1) = orL [sgn x0 y0, sgn x1 y1]) := Lib.hid rfl
  go_enter Tryd.func95, Tryd.ntmps95
  go_wp2
  refine RX.region RX.fL (fun w' => w'.cell? ⟨w.heap.size, 0, none⟩ = some (.int .i64 x0) ∧ w'.cell? ⟨w.heap.size, 1, none⟩ = some (.int .i64 x1) ∧ w'.cell? ⟨w.heap.size + 1, 0, none⟩ = some (.int .i64 y0) ∧ w'.cell? ⟨w.heap.size + 1, 1, none⟩ = some (.int .i64 y1)) (by kernel_rfl) (by kernel_rfl) ((by simp [RX.cell_drew, RX.cell_alloc, Nat.add_assoc])) (fun OPS HO QR hQR => ?_)
  repeat
    refine RX.step (fun R hR => ?_)
    first
    | (refine RX.one_skip (by first | rfl | (rw [HO.out]; rfl)) (by simp only [RX.put_some, RX.put_none, List.set_cons_zero, List.set_cons_succ]; rfl) ?_
       refine hR _ _ ?_; clear hR R)
    | (refine RX.one_move (by first | rfl | (rw [HO.out]; rfl)) rfl (by first | exact Or.inl rfl | exact Or.inr rfl) (by simp only [RX.eval_tmp, RX.eval_const, List.getD_cons_zero, List.getD_cons_succ]; rfl) (by simp only [RX.put_some, RX.put_none, List.set_cons_zero, List.set_cons_succ]; rfl) ?_
       refine hR _ _ ?_; clear hR R)
    | (refine RX.one_nil (by first | rfl | (rw [HO.out]; rfl)) rfl rfl (by simp only [RX.eval_tmp, RX.eval_const, List.getD_cons_zero, List.getD_cons_succ]; rfl) (by simp only [RX.put_some, RX.put_none, List.set_cons_zero, List.set_cons_succ]; rfl) ?_
       refine hR _ _ ?_; clear hR R)
    | (refine RX.one_float (by first | rfl | (rw [HO.out]; rfl)) rfl rfl rfl ?_
       apply Exists.intro; apply Exists.intro
       refine ⟨fun w' hS K hK => ?_, ?_, ?_⟩
       · obtain ⟨hS1, hS2, hS3, hS4⟩ := hS; go_wp2; exact hK _ _ (by simp only [RX.arr_getD, List.getD_cons_zero, List.getD_cons_succ]; first | exact RX.dec_t (by omega) | exact RX.dec_f (by omega) | exact RX.beq_t (by omega) | exact RX.beq_f (by omega) | exact RX.bne_t (by omega) | exact RX.bne_f (by omega) | exact RX.bneB _ | rfl) rfl
       · simp only [RX.put_some, RX.put_none, List.set_cons_zero, List.set_cons_succ]; rfl
       refine hR _ _ ?_; clear hR R)
  refine RX.step (fun R hR => ?_)
  refine RX.one_chain (by first | rfl | (rw [HO.out]; rfl)) rfl (fun K hK => ?_)
  go_wp2_with (go_at_call 70; refine (cmp_int _ _ _).mono ?_; rintro e w' ⟨rfl, rfl⟩)
  refine ⟨(by simp [RX.cell_drew, RX.cell_alloc, Nat.add_assoc]), hR _ _ ?_⟩; clear hR R
  repeat
    refine RX.step (fun R hR => ?_)
    first
    | (refine RX.one_skip (by first | rfl | (rw [HO.out]; rfl)) (by simp only [RX.put_some, RX.put_none, List.set_cons_zero, List.set_cons_succ]; rfl) ?_
       refine hR _ _ ?_; clear hR R)
    | (refine RX.one_move (by first | rfl | (rw [HO.out]; rfl)) rfl (by first | exact Or.inl rfl | exact Or.inr rfl) (by simp only [RX.eval_tmp, RX.eval_const, List.getD_cons_zero, List.getD_cons_succ]; rfl) (by simp only [RX.put_some, RX.put_none, List.set_cons_zero, List.set_cons_succ]; rfl) ?_
       refine hR _ _ ?_; clear hR R)
    | (refine RX.one_nil (by first | rfl | (rw [HO.out]; rfl)) rfl rfl (by simp only [RX.eval_tmp, RX.eval_const, List.getD_cons_zero, List.getD_cons_succ]; rfl) (by simp only [RX.put_some, RX.put_none, List.set_cons_zero, List.set_cons_succ]; rfl) ?_
       refine hR _ _ ?_; clear hR R)
    | (refine RX.one_float (by first | rfl | (rw [HO.out]; rfl)) rfl rfl rfl ?_
       apply Exists.intro; apply Exists.intro
       refine ⟨fun w' hS K hK => ?_, ?_, ?_⟩
       · obtain ⟨hS1, hS2, hS3, hS4⟩ := hS; go_wp2; exact hK _ _ (by simp only [RX.arr_getD, List.getD_cons_zero, List.getD_cons_succ]; first | exact RX.dec_t (by omega) | exact RX.dec_f (by omega) | exact RX.beq_t (by omega) | exact RX.beq_f (by omega) | exact RX.bne_t (by omega) | exact RX.bne_f (by omega) | exact RX.bneB _ | rfl) rfl
       · simp only [RX.put_some, RX.put_none, List.set_cons_zero, List.set_cons_succ]; rfl
       refine hR _ _ ?_; clear hR R)
  refine RX.step (fun R hR => ?_)
  refine RX.one_chain (by first | rfl | (rw [HO.out]; rfl)) rfl (fun K hK => ?_)
  go_wp2_with (go_at_call 70; refine (cmp_int _ _ _).mono ?_; rintro e w' ⟨rfl, rfl⟩)
  refine ⟨(by simp [RX.cell_drew, RX.cell_alloc, Nat.add_assoc]), hR _ _ ?_⟩; clear hR R
  repeat
    refine RX.step (fun R hR => ?_)
    first
    | (refine RX.one_skip (by first | rfl | (rw [HO.out]; rfl)) (by simp only [RX.put_some, RX.put_none, List.set_cons_zero, List.set_cons_succ]; rfl) ?_
       refine hR _ _ ?_; clear hR R)
    | (refine RX.one_move (by first | rfl | (rw [HO.out]; rfl)) rfl (by first | exact Or.inl rfl | exact Or.inr rfl) (by simp only [RX.eval_tmp, RX.eval_const, List.getD_cons_zero, List.getD_cons_succ]; rfl) (by simp only [RX.put_some, RX.put_none, List.set_cons_zero, List.set_cons_succ]; rfl) ?_
       refine hR _ _ ?_; clear hR R)
    | (refine RX.one_nil (by first | rfl | (rw [HO.out]; rfl)) rfl rfl (by simp only [RX.eval_tmp, RX.eval_const, List.getD_cons_zero, List.getD_cons_succ]; rfl) (by simp only [RX.put_some, RX.put_none, List.set_cons_zero, List.set_cons_succ]; rfl) ?_
       refine hR _ _ ?_; clear hR R)
    | (refine RX.one_float (by first | rfl | (rw [HO.out]; rfl)) rfl rfl rfl ?_
       apply Exists.intro; apply Exists.intro
       refine ⟨fun w' hS K hK => ?_, ?_, ?_⟩
       · obtain ⟨hS1, hS2, hS3, hS4⟩ := hS; go_wp2; exact hK _ _ (by simp only [RX.arr_getD, List.getD_cons_zero, List.getD_cons_succ]; first | exact RX.dec_t (by omega) | exact RX.dec_f (by omega) | exact RX.beq_t (by omega) | exact RX.beq_f (by omega) | exact RX.bne_t (by omega) | exact RX.bne_f (by omega) | exact RX.bneB _ | rfl) rfl
       · simp only [RX.put_some, RX.put_none, List.set_cons_zero, List.set_cons_succ]; rfl
       refine hR _ _ ?_; clear hR R)
  refine RX.step (fun R hR => ?_)
  refine RX.one_chain (by first | rfl | (rw [HO.out]; rfl)) rfl (fun K hK => ?_)
  go_wp2
  refine ⟨(by simp [RX.cell_drew, RX.cell_alloc, Nat.add_assoc]), hR _ _ ?_⟩; clear hR R
  repeat
    refine RX.step (fun R hR => ?_)
    first
    | (refine RX.one_skip (by first | rfl | (rw [HO.out]; rfl)) (by simp only [RX.put_some, RX.put_none, List.set_cons_zero, List.set_cons_succ]; rfl) ?_
       refine hR _ _ ?_; clear hR R)
    | (refine RX.one_move (by first | rfl | (rw [HO.out]; rfl)) rfl (by first | exact Or.inl rfl | exact Or.inr rfl) (by simp only [RX.eval_tmp, RX.eval_const, List.getD_cons_zero, List.getD_cons_succ]; rfl) (by simp only [RX.put_some, RX.put_none, List.set_cons_zero, List.set_cons_succ]; rfl) ?_
       refine hR _ _ ?_; clear hR R)
    | (refine RX.one_nil (by first | rfl | (rw [HO.out]; rfl)) rfl rfl (by simp only [RX.eval_tmp, RX.eval_const, List.getD_cons_zero, List.getD_cons_succ]; rfl) (by simp only [RX.put_some, RX.put_none, List.set_cons_zero, List.set_cons_succ]; rfl) ?_
       refine hR _ _ ?_; clear hR R)
    | (refine RX.one_float (by first | rfl | (rw [HO.out]; rfl)) rfl rfl rfl ?_
       apply Exists.intro; apply Exists.intro
       refine ⟨fun w' hS K hK => ?_, ?_, ?_⟩
       · obtain ⟨hS1, hS2, hS3, hS4⟩ := hS; go_wp2; exact hK _ _ (by simp only [RX.arr_getD, List.getD_cons_zero, List.getD_cons_succ]; first | exact RX.dec_t (by omega) | exact RX.dec_f (by omega) | exact RX.beq_t (by omega) | exact RX.beq_f (by omega) | exact RX.bne_t (by omega) | exact RX.bne_f (by omega) | exact RX.bneB _ | rfl) rfl
       · simp only [RX.put_some, RX.put_none, List.set_cons_zero, List.set_cons_succ]; rfl
       refine hR _ _ ?_; clear hR R)
  refine RX.step (fun R hR => ?_)
  refine RX.one_chain (by first | rfl | (rw [HO.out]; rfl)) rfl (fun K hK => ?_)
  go_wp2_with fail
  refine (or_int _ _ _ [sgn x0 y0, sgn x1 y1] _ rfl ?_ (by simp)).mono ?_
  · intro j v hj
    match j, hj with
    | 0, hj => simp at hj; subst hj; exact (by simp [RX.cell_drew, RX.cell_alloc, Nat.add_assoc])
    | 1, hj => simp at hj; subst hj; exact (by simp [RX.cell_drew, RX.cell_alloc, Nat.add_assoc])
  rintro e w' ⟨rfl, rfl⟩
  rw [← HC.out]
  refine hK _ _ ⟨(by simp [RX.cell_drew, RX.cell_alloc, Nat.add_assoc]), hR _ _ ?_⟩; clear hK K hR R
  repeat
    refine RX.step (fun R hR => ?_)
    first
    | (refine RX.one_skip (by first | rfl | (rw [HO.out]; rfl)) (by simp only [RX.put_some, RX.put_none, List.set_cons_zero, List.set_cons_succ]; rfl) ?_
       refine hR _ _ ?_; clear hR R)
    | (refine RX.one_move (by first | rfl | (rw [HO.out]; rfl)) rfl (by first | exact Or.inl rfl | exact Or.inr rfl) (by simp only [RX.eval_tmp, RX.eval_const, List.getD_cons_zero, List.getD_cons_succ]; rfl) (by simp only [RX.put_some, RX.put_none, List.set_cons_zero, List.set_cons_succ]; rfl) ?_
       refine hR _ _ ?_; clear hR R)
    | (refine RX.one_nil (by first | rfl | (rw [HO.out]; rfl)) rfl rfl (by simp only [RX.eval_tmp, RX.eval_const, List.getD_cons_zero, List.getD_cons_succ]; rfl) (by simp only [RX.put_some, RX.put_none, List.set_cons_zero, List.set_cons_succ]; rfl) ?_
       refine hR _ _ ?_; clear hR R)
    | (refine RX.one_float (by first | rfl | (rw [HO.out]; rfl)) rfl rfl rfl ?_
       apply Exists.intro; apply Exists.intro
       refine ⟨fun w' hS K hK => ?_, ?_, ?_⟩
       · go_wp2; exact hK _ _ (by simp only [RX.arr_getD, List.getD_cons_zero, List.getD_cons_succ]; first | exact RX.dec_t (by omega) | exact RX.dec_f (by omega) | exact RX.beq_t (by omega) | exact RX.beq_f (by omega) | exact RX.bne_t (by omega) | exact RX.bne_f (by omega) | exact RX.bneB _ | rfl) rfl
       · simp only [RX.put_some, RX.put_none, List.set_cons_zero, List.set_cons_succ]; rfl
       refine hR _ _ ?_; clear hR R)
  refine RX.wpL_nil (hQR _ _ ((by simp [RX.cell_drew, RX.cell_alloc, Nat.add_assoc])) ?_); clear hQR QR HO OPS
  go_wp2
  go_ret
  exact ⟨rfl, 1, _, by rw [alloc_eq_grow, alloc_eq_grow, alloc_eq_grow, grow_grow, grow_grow]; rfl⟩

theorem enters_lessCell : ∀ args w, (callFunc 93 args).run Tryd.prog w = .ok (.enter 93 args) w := enters_of Tryd.func93 (by kernel_rfl) rfl
theorem sortCell_any (w : World) (g : Nat) (d : List I3) (p : Option Addr) (cap : Nat) (hp : 0 < d.length → p = some ⟨g, 0, none⟩) (h : HoldsK enc3 3 w g 0 d.toArray) (hcap : d.length ≤ cap) (hcap' : d.length ≤ 1000000) :
    Calls Tryd.prog 92 #[.slice p d.length cap, .func (.func 93) #[] #[]] w fun e w' => e = .returned (.tuple #[]) ∧ w.grownBy w' (some g) ∧ ∃ d' : List I3, d'.Perm d ∧ d'.Pairwise (fun x y => ¬ lt3 y x) ∧ HoldsK enc3 3 w' g 0 d'.toArray := by
  by_cases h0 : 0 < d.length
  · obtain rfl := hp h0
    have hblk : g < w.heap.size := by
      have h1 := h 0 (by rw [size_flatK]; simp; omega)
      exact World.block_lt_of_cell? w _ h1.1
    have hs := AnyQ.slices_SortFunc Tryd.sortCell 3 Tryd.isAgg54 Tryd.sizeOf54 enc3 (fun _ => rfl) (fun x v hv => by simp [enc3] at hv; rcases hv with rfl | rfl | rfl <;> rfl) cf3 swo3 93 #[] g 0 cap d.toArray w enters_lessCell (fun _ _ _ _ x y => lessCell x y _) h hblk (by simp; omega)
    rw [show d.toArray.size = d.length by simp] at hs
    change Calls Tryd.prog 92 _ _ _ at hs
    refine hs.mono ?_
    rintro e w' ⟨rfl, d', n, os, hperm, hsort, rfl⟩
    refine ⟨rfl, ?_, d'.toList, ?_, ?_, ?_⟩
    · refine ⟨rfl, rfl, rfl, size_sortWorldK_c _ _ _ _ _ _ _ _, fun k hk hne => ?_⟩
      have hne' : g ≠ k := fun e => hne (by rw [e])
      show (w.heap.modify g _ ++ os)[k]? = w.heap[k]?
      rw [Array.getElem?_append_left (by simpa using hk), Array.getElem?_modify, if_neg hne']
    · have h1 := hperm.1
      have h2 := hperm.2.2
      have h3 : d'.extract 0 d.length = d' := by rw [show d.length = d'.size by simp [h1]]; simp
      rw [h3] at h2
      simpa using h2
    · have h1 := hperm.1
      rw [List.pairwise_iff_getElem]
      intro i j hi hj hij
      have hi' : i < d'.size := by simpa using hi
      have hj' : j < d'.size := by simpa using hj
      have h2 := hsort i j (Nat.zero_le _) hij (by rw [h1] at hj'; simpa using hj')
      rw [ltOf3_not, getElem!_pos d' j hj', getElem!_pos d' i hi'] at h2
      simpa using h2
    · have := holdsK_sortWorldK enc3 3 w g 0 n d.toArray d' os hblk h (by simpa using hperm.1)
      simpa using this
  · obtain rfl : d = [] := List.eq_nil_of_length_eq_zero (by omega)
    refine (AnyF.slices_SortFunc_none Tryd.sortCell p cap _ w).mono ?_
    rintro e w' ⟨rfl, rfl⟩
    exact ⟨rfl, World.grownBy.refl _ _, [], List.Perm.refl _, List.Pairwise.nil, h⟩

theorem enters_lessEdge : ∀ args w, (callFunc 95 args).run Tryd.prog w = .ok (.enter 95 args) w := enters_of Tryd.func95 (by kernel_rfl) rfl
theorem sortEdge_any (w : World) (g : Nat) (d : List I2) (p : Option Addr) (cap : Nat) (hp : 0 < d.length → p = some ⟨g, 0, none⟩) (h : HoldsK enc2 2 w g 0 d.toArray) (hcap : d.length ≤ cap) (hcap' : d.length ≤ 1000000) :
    Calls Tryd.prog 94 #[.slice p d.length cap, .func (.func 95) #[] #[]] w fun e w' => e = .returned (.tuple #[]) ∧ w.grownBy w' (some g) ∧ ∃ d' : List I2, d'.Perm d ∧ d'.Pairwise (fun x y => ¬ lt2 y x) ∧ HoldsK enc2 2 w' g 0 d'.toArray := by
  by_cases h0 : 0 < d.length
  · obtain rfl := hp h0
    have hblk : g < w.heap.size := by
      have h1 := h 0 (by rw [size_flatK]; simp; omega)
      exact World.block_lt_of_cell? w _ h1.1
    have hs := AnyQ.slices_SortFunc Tryd.sortEdge 2 Tryd.isAgg52 Tryd.sizeOf52 enc2 (fun _ => rfl) (fun x v hv => by simp [enc2] at hv; rcases hv with rfl | rfl <;> rfl) cf2 swo2 95 #[] g 0 cap d.toArray w enters_lessEdge (fun _ _ _ _ x y => lessEdge x y _) h hblk (by simp; omega)
    rw [show d.toArray.size = d.length by simp] at hs
    change Calls Tryd.prog 94 _ _ _ at hs
    refine hs.mono ?_
    rintro e w' ⟨rfl, d', n, os, hperm, hsort, rfl⟩
    refine ⟨rfl, ?_, d'.toList, ?_, ?_, ?_⟩
    · refine ⟨rfl, rfl, rfl, size_sortWorldK_c _ _ _ _ _ _ _ _, fun k hk hne => ?_⟩
      have hne' : g ≠ k := fun e => hne (by rw [e])
      show (w.heap.modify g _ ++ os)[k]? = w.heap[k]?
      rw [Array.getElem?_append_left (by simpa using hk), Array.getElem?_modify, if_neg hne']
    · have h1 := hperm.1
      have h2 := hperm.2.2
      have h3 : d'.extract 0 d.length = d' := by rw [show d.length = d'.size by simp [h1]]; simp
      rw [h3] at h2
      simpa using h2
    · have h1 := hperm.1
      rw [List.pairwise_iff_getElem]
      intro i j hi hj hij
      have hi' : i < d'.size := by simpa using hi
      have hj' : j < d'.size := by simpa using hj
      have h2 := hsort i j (Nat.zero_le _) hij (by rw [h1] at hj'; simpa using hj')
      rw [ltOf2_not, getElem!_pos d' j hj', getElem!_pos d' i hi'] at h2
      simpa using h2
    · have := holdsK_sortWorldK enc2 2 w g 0 n d.toArray d' os hblk h (by simpa using hperm.1)
      simpa using this
  · obtain rfl : d = [] := List.eq_nil_of_length_eq_zero (by omega)
    refine (AnyF.slices_SortFunc_none Tryd.sortEdge p cap _ w).mono ?_
    rintro e w' ⟨rfl, rfl⟩
    exact ⟨rfl, World.grownBy.refl _ _, [], List.Perm.refl _, List.Pairwise.nil, h⟩
end Go.Proofs.YtpbfgnffkhabnaaDoor
