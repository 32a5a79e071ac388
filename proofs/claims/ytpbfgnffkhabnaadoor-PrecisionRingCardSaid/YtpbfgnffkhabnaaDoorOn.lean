import Derived.Test.YtpbfgnffkhabnaaDoorOf
set_option linter.unusedSimpArgs false
set_option linter.unusedVariables false
namespace Go.Proofs.YtpbfgnffkhabnaaDoor
open Go.RowKit Go.Grid

def wtsA (p : Pl) : Array Value := #[.int .i64 (wt p 0), .int .i64 (wt p 1), .int .i64 (wt p 2), .int .i64 (wt p 3), .int .i64 (wt p 4), .int .i64 (wt p 5), .int .i64 (wt p 6), .int .i64 (wt p 7), .int .i64 (wt p 8), .int .i64 (wt p 9), .int .i64 (wt p 10), .int .i64 (wt p 11)]
theorem wtsA_get (p : Pl) (x : Nat) (h : x < 12) : (wtsA p)[x]? = some (.int .i64 (wt p x)) := by
  have : x = 0 ∨ x = 1 ∨ x = 2 ∨ x = 3 ∨ x = 4 ∨ x = 5 ∨ x = 6 ∨ x = 7 ∨ x = 8 ∨ x = 9 ∨ x = 10 ∨ x = 11 := by omega
  rcases this with rfl | rfl | rfl | rfl | rfl | rfl | rfl | rfl | rfl | rfl | rfl | rfl <;> rfl

theorem okB_valid (n : Nat) (hn : n < 20) (a b c : Nat) : validB n a b c = okB ⟨n, a, b, c⟩ := by
  unfold validB okB
  rw [Bool.eq_iff_iff, decide_eq_true_eq, beq_iff_eq]
  unfold ValidI
  constructor
  · intro h; show a + b + c = 840; omega
  · intro h
    have : a + b + c = 840 := h
    omega

set_option maxRecDepth 100000 in
set_option maxHeartbeats 4000000 in
theorem on_any (n : Nat) (hn : n < 20) (p : Pl) (w : World) (hT : HasTab w) : Calls Tryd.prog 105 #[.int .i64 n, wts p] w fun e w' => e = .returned (.tuple #[pv (on n p), .bool (okB (on n p))]) ∧ Below w.heap.size w w' := by
  obtain ⟨k0, k1, k2⟩ := hT n hn
  have hlt := hT.lt
  obtain ⟨l0, l1, l2⟩ := tab_lt n
  have g0 := wtsA_get p _ l0
  have g1 := wtsA_get p _ l1
  have g2 := wtsA_get p _ l2
  have HON : Hid (on n p = ⟨n, wt p (tab n).1, wt p (tab n).2.1, wt p (tab n).2.2⟩) := Lib.hid rfl
  generalize (tab n).1 = x0 at *
  generalize (tab n).2.1 = x1 at *
  generalize (tab n).2.2 = x2 at *
  have HV := Lib.hid (okB_valid n hn (wt p x0) (wt p x1) (wt p x2))
  unfold wtsA at g0 g1 g2
  unfold wts
  generalize wt p x0 = y0 at *
  generalize wt p x1 = y1 at *
  generalize wt p x2 = y2 at *
  rw [HON.out]
  generalize (Int.ofNat (wt p 0)) = z0 at *
  have HG := Lib.hid (And.intro g0 (And.intro g1 g2))
  clear g0 g1 g2
  go_enter Tryd.func105, Tryd.ntmps105
  go_wp2
  refine RX.region RX.fL (fun w' => w'.cell? ⟨w.heap.size + 2, 0, none⟩ = some (.int .i64 x0) ∧ w'.cell? ⟨w.heap.size + 2, 1, none⟩ = some (.int .i64 x1) ∧ w'.cell? ⟨w.heap.size + 2, 2, none⟩ = some (.int .i64 x2) ∧ w'.cell? ⟨w.heap.size, x0, none⟩ = some (.int .i64 y0) ∧ w'.cell? ⟨w.heap.size, x1, none⟩ = some (.int .i64 y1) ∧ w'.cell? ⟨w.heap.size, x2, none⟩ = some (.int .i64 y2)) (by kernel_rfl) (by kernel_rfl) (by obtain ⟨g0, g1, g2⟩ := HG.out; exact ⟨(by simp [RX.cell_drew, RX.cell_alloc, Nat.add_assoc]), (by simp [RX.cell_drew, RX.cell_alloc, Nat.add_assoc]), (by simp [RX.cell_drew, RX.cell_alloc, Nat.add_assoc]), (by (try have hLt := World.block_lt_of_cell? _ _ g0); (try simp only at hLt); (repeat first | rw [RX.cell_drew] | rw [World.cell?_setCell_other _ _ _ _ (by first | (simp; done) | (simp; omega) | omega)] | rw [RX.cell_alloc, if_neg (by first | (simp; done) | (simp; omega) | omega)]); first | exact g0 | (rw [RX.cell_alloc, if_pos (by first | (simp; done) | omega)]; exact g0)), (by (try have hLt := World.block_lt_of_cell? _ _ g1); (try simp only at hLt); (repeat first | rw [RX.cell_drew] | rw [World.cell?_setCell_other _ _ _ _ (by first | (simp; done) | (simp; omega) | omega)] | rw [RX.cell_alloc, if_neg (by first | (simp; done) | (simp; omega) | omega)]); first | exact g1 | (rw [RX.cell_alloc, if_pos (by first | (simp; done) | omega)]; exact g1)), (by (try have hLt := World.block_lt_of_cell? _ _ g2); (try simp only at hLt); (repeat first | rw [RX.cell_drew] | rw [World.cell?_setCell_other _ _ _ _ (by first | (simp; done) | (simp; omega) | omega)] | rw [RX.cell_alloc, if_neg (by first | (simp; done) | (simp; omega) | omega)]); first | exact g2 | (rw [RX.cell_alloc, if_pos (by first | (simp; done) | omega)]; exact g2))⟩) (fun OPS HO QR hQR => ?_)
  repeat
    refine RX.step (fun R hR => ?_)
    first
    | (refine RX.one_skip (by first | rfl | (rw [HO.out]; rfl)) (by simp only [RX.put_some, RX.put_none, List.set_cons_zero, List.set_cons_succ]; rfl) ?_
       refine hR _ _ ?_; clear hR R)
    | (refine RX.one_move (by first | rfl | (rw [HO.out]; rfl)) rfl (by first | exact Or.inl rfl | exact Or.inr rfl) (by simp only [RX.eval_tmp, RX.eval_const, List.getD_cons_zero, List.getD_cons_succ]; rfl) (by simp only [RX.put_some, RX.put_none, List.set_cons_zero, List.set_cons_succ]; rfl) ?_
       refine hR _ _ ?_; clear hR R)
    | (refine RX.one_nil (by first | rfl | (rw [HO.out]; rfl)) rfl rfl (by simp only [RX.eval_tmp, RX.eval_const, List.getD_cons_zero, List.getD_cons_succ]; rfl) (by simp only [RX.put_some, RX.put_none, List.set_cons_zero, List.set_cons_succ]; rfl) ?_
       refine hR _ _ ?_; clear hR R)
    | (refine RX.one_float (by first | rfl | (rw [HO.out]; rfl)) rfl rfl rfl ?_
       apply Exists.intro; apply Exists.intro
       refine ⟨fun w' hS K hK => ?_, ?_, ?_⟩
       · obtain ⟨hS1, hS2, hS3, hS4, hS5, hS6⟩ := hS; go_wp2; exact hK _ _ (by simp only [RX.arr_getD, List.getD_cons_zero, List.getD_cons_succ]; first | exact RX.dec_t (by omega) | exact RX.dec_f (by omega) | exact RX.beq_t (by omega) | exact RX.beq_f (by omega) | exact RX.bne_t (by omega) | exact RX.bne_f (by omega) | exact RX.bneB _ | rfl) rfl
       · simp only [RX.put_some, RX.put_none, List.set_cons_zero, List.set_cons_succ]; rfl
       refine hR _ _ ?_; clear hR R)
  refine RX.step (fun R hR => ?_)
  refine RX.one_chain (by first | rfl | (rw [HO.out]; rfl)) rfl (fun K hK => ?_)
  go_wp2
  refine ⟨(by obtain ⟨g0, g1, g2⟩ := HG.out; exact ⟨(by simp [RX.cell_drew, RX.cell_alloc, Nat.add_assoc]), (by simp [RX.cell_drew, RX.cell_alloc, Nat.add_assoc]), (by simp [RX.cell_drew, RX.cell_alloc, Nat.add_assoc]), (by (try have hLt := World.block_lt_of_cell? _ _ g0); (try simp only at hLt); (repeat first | rw [RX.cell_drew] | rw [World.cell?_setCell_other _ _ _ _ (by first | (simp; done) | (simp; omega) | omega)] | rw [RX.cell_alloc, if_neg (by first | (simp; done) | (simp; omega) | omega)]); first | exact g0 | (rw [RX.cell_alloc, if_pos (by first | (simp; done) | omega)]; exact g0)), (by (try have hLt := World.block_lt_of_cell? _ _ g1); (try simp only at hLt); (repeat first | rw [RX.cell_drew] | rw [World.cell?_setCell_other _ _ _ _ (by first | (simp; done) | (simp; omega) | omega)] | rw [RX.cell_alloc, if_neg (by first | (simp; done) | (simp; omega) | omega)]); first | exact g1 | (rw [RX.cell_alloc, if_pos (by first | (simp; done) | omega)]; exact g1)), (by (try have hLt := World.block_lt_of_cell? _ _ g2); (try simp only at hLt); (repeat first | rw [RX.cell_drew] | rw [World.cell?_setCell_other _ _ _ _ (by first | (simp; done) | (simp; omega) | omega)] | rw [RX.cell_alloc, if_neg (by first | (simp; done) | (simp; omega) | omega)]); first | exact g2 | (rw [RX.cell_alloc, if_pos (by first | (simp; done) | omega)]; exact g2))⟩), hR _ _ ?_⟩; clear hR R
  repeat
    refine RX.step (fun R hR => ?_)
    first
    | (refine RX.one_skip (by first | rfl | (rw [HO.out]; rfl)) (by simp only [RX.put_some, RX.put_none, List.set_cons_zero, List.set_cons_succ]; rfl) ?_
       refine hR _ _ ?_; clear hR R)
    | (refine RX.one_move (by first | rfl | (rw [HO.out]; rfl)) rfl (by first | exact Or.inl rfl | exact Or.inr rfl) (by simp only [RX.eval_tmp, RX.eval_const, List.getD_cons_zero, List.getD_cons_succ]; rfl) (by simp only [RX.put_some, RX.put_none, List.set_cons_zero, List.set_cons_succ]; rfl) ?_
       refine hR _ _ ?_; clear hR R)
    | (refine RX.one_nil (by first | rfl | (rw [HO.out]; rfl)) rfl rfl (by simp only [RX.eval_tmp, RX.eval_const, List.getD_cons_zero, List.getD_cons_succ]; rfl) (by simp only [RX.put_some, RX.put_none, List.set_cons_zero, List.set_cons_succ]; rfl) ?_
       refine hR _ _ ?_; clear hR R)
    | (refine RX.one_float (by first | rfl | (rw [HO.out]; rfl)) rfl rfl rfl ?_
       apply Exists.intro; apply Exists.intro
       refine ⟨fun w' hS K hK => ?_, ?_, ?_⟩
       · obtain ⟨hS1, hS2, hS3, hS4, hS5, hS6⟩ := hS; go_wp2; exact hK _ _ (by simp only [RX.arr_getD, List.getD_cons_zero, List.getD_cons_succ]; first | exact RX.dec_t (by omega) | exact RX.dec_f (by omega) | exact RX.beq_t (by omega) | exact RX.beq_f (by omega) | exact RX.bne_t (by omega) | exact RX.bne_f (by omega) | exact RX.bneB _ | rfl) rfl
       · simp only [RX.put_some, RX.put_none, List.set_cons_zero, List.set_cons_succ]; rfl
       refine hR _ _ ?_; clear hR R)
  refine RX.step (fun R hR => ?_)
  refine RX.one_chain (by first | rfl | (rw [HO.out]; rfl)) rfl (fun K hK => ?_)
  go_wp2
  refine ⟨(by obtain ⟨g0, g1, g2⟩ := HG.out; exact ⟨(by simp [RX.cell_drew, RX.cell_alloc, Nat.add_assoc]), (by simp [RX.cell_drew, RX.cell_alloc, Nat.add_assoc]), (by simp [RX.cell_drew, RX.cell_alloc, Nat.add_assoc]), (by (try have hLt := World.block_lt_of_cell? _ _ g0); (try simp only at hLt); (repeat first | rw [RX.cell_drew] | rw [World.cell?_setCell_other _ _ _ _ (by first | (simp; done) | (simp; omega) | omega)] | rw [RX.cell_alloc, if_neg (by first | (simp; done) | (simp; omega) | omega)]); first | exact g0 | (rw [RX.cell_alloc, if_pos (by first | (simp; done) | omega)]; exact g0)), (by (try have hLt := World.block_lt_of_cell? _ _ g1); (try simp only at hLt); (repeat first | rw [RX.cell_drew] | rw [World.cell?_setCell_other _ _ _ _ (by first | (simp; done) | (simp; omega) | omega)] | rw [RX.cell_alloc, if_neg (by first | (simp; done) | (simp; omega) | omega)]); first | exact g1 | (rw [RX.cell_alloc, if_pos (by first | (simp; done) | omega)]; exact g1)), (by (try have hLt := World.block_lt_of_cell? _ _ g2); (try simp only at hLt); (repeat first | rw [RX.cell_drew] | rw [World.cell?_setCell_other _ _ _ _ (by first | (simp; done) | (simp; omega) | omega)] | rw [RX.cell_alloc, if_neg (by first | (simp; done) | (simp; omega) | omega)]); first | exact g2 | (rw [RX.cell_alloc, if_pos (by first | (simp; done) | omega)]; exact g2))⟩), hR _ _ ?_⟩; clear hR R
  refine RX.wpL_nil (hQR _ _ ((by obtain ⟨g0, g1, g2⟩ := HG.out; exact ⟨(by simp [RX.cell_drew, RX.cell_alloc, Nat.add_assoc]), (by simp [RX.cell_drew, RX.cell_alloc, Nat.add_assoc]), (by simp [RX.cell_drew, RX.cell_alloc, Nat.add_assoc]), (by (try have hLt := World.block_lt_of_cell? _ _ g0); (try simp only at hLt); (repeat first | rw [RX.cell_drew] | rw [World.cell?_setCell_other _ _ _ _ (by first | (simp; done) | (simp; omega) | omega)] | rw [RX.cell_alloc, if_neg (by first | (simp; done) | (simp; omega) | omega)]); first | exact g0 | (rw [RX.cell_alloc, if_pos (by first | (simp; done) | omega)]; exact g0)), (by (try have hLt := World.block_lt_of_cell? _ _ g1); (try simp only at hLt); (repeat first | rw [RX.cell_drew] | rw [World.cell?_setCell_other _ _ _ _ (by first | (simp; done) | (simp; omega) | omega)] | rw [RX.cell_alloc, if_neg (by first | (simp; done) | (simp; omega) | omega)]); first | exact g1 | (rw [RX.cell_alloc, if_pos (by first | (simp; done) | omega)]; exact g1)), (by (try have hLt := World.block_lt_of_cell? _ _ g2); (try simp only at hLt); (repeat first | rw [RX.cell_drew] | rw [World.cell?_setCell_other _ _ _ _ (by first | (simp; done) | (simp; omega) | omega)] | rw [RX.cell_alloc, if_neg (by first | (simp; done) | (simp; omega) | omega)]); first | exact g2 | (rw [RX.cell_alloc, if_pos (by first | (simp; done) | omega)]; exact g2))⟩)) ?_); clear hQR QR HO OPS
  go_wp2
  refine RX.region RX.fL (fun w' => w'.cell? ⟨w.heap.size + 3, 0, none⟩ = some (.int .i64 n) ∧ w'.cell? ⟨w.heap.size + 3, 1, none⟩ = some (.int .i64 y0) ∧ w'.cell? ⟨w.heap.size + 3, 2, none⟩ = some (.int .i64 y1) ∧ w'.cell? ⟨w.heap.size + 3, 3, none⟩ = some (.int .i64 y2)) (by kernel_rfl) (by kernel_rfl) ((by simp [RX.cell_drew, RX.cell_alloc, Nat.add_assoc])) (fun OPS HO QR hQR => ?_)
  repeat
    refine RX.step (fun R hR => ?_)
    first
    | (refine RX.one_skip (by first | rfl | (rw [HO.out]; rfl)) (by simp only [RX.put_some, RX.put_none, List.set_cons_zero, List.set_cons_succ]; rfl) ?_
       refine hR _ _ ?_; clear hR R)
    | (refine RX.one_move (by first | rfl | (rw [HO.out]; rfl)) rfl (by first | exact Or.inl rfl | exact Or.inr rfl) (by simp only [RX.eval_tmp, RX.eval_const, List.getD_cons_zero, List.getD_cons_succ]; rfl) (by simp only [RX.put_some, RX.put_none, List.set_cons_zero, List.set_cons_succ]; rfl) ?_
       refine hR _ _ ?_; clear hR R)
    | (refine RX.one_nil (by first | rfl | (rw [HO.out]; rfl)) rfl rfl (by simp only [RX.eval_tmp, RX.eval_const, List.getD_cons_zero, List.getD_cons_succ]; rfl) (by simp only [RX.put_some, RX.put_none, List.set_cons_zero, List.set_cons_succ]; rfl) ?_
       refine hR _ _ ?_; clear hR R)
    | (refine RX.one_float (by first | rfl | (rw [HO.out]; rfl)) rfl rfl rfl ?_
       apply Exists.intro; apply Exists.intro
       refine ⟨fun w' hS K hK => ?_, ?_, ?_⟩
       · obtain ⟨hS1, hS2, hS3, hS4⟩ := hS; go_wp2; exact hK _ _ (by simp only [RX.arr_getD, List.getD_cons_zero, List.getD_cons_succ]; first | exact RX.dec_t (by omega) | exact RX.dec_f (by omega) | exact RX.beq_t (by omega) | exact RX.beq_f (by omega) | exact RX.bne_t (by omega) | exact RX.bne_f (by omega) | exact RX.bneB _ | rfl) rfl
       · simp only [RX.put_some, RX.put_none, List.set_cons_zero, List.set_cons_succ]; rfl
       refine hR _ _ ?_; clear hR R)
  refine RX.step (fun R hR => ?_)
  refine RX.one_chain (by first | rfl | (rw [HO.out]; rfl)) rfl (fun K hK => ?_)
  go_wp2_with fail
  refine (valid_any n y0 y1 y2 _).mono ?_
  rintro e w1 ⟨rfl, hb1⟩
  rw [HV.out]
  have c0 : w1.cell? ⟨w.heap.size + 3, 0, none⟩ = some (.int .i64 n) := RX.keep hb1 (by simp [RX.cell_drew, RX.cell_alloc, Nat.add_assoc])
  have c1 : w1.cell? ⟨w.heap.size + 3, 1, none⟩ = some (.int .i64 y0) := RX.keep hb1 (by simp [RX.cell_drew, RX.cell_alloc, Nat.add_assoc])
  have c2 : w1.cell? ⟨w.heap.size + 3, 2, none⟩ = some (.int .i64 y1) := RX.keep hb1 (by simp [RX.cell_drew, RX.cell_alloc, Nat.add_assoc])
  have c3 : w1.cell? ⟨w.heap.size + 3, 3, none⟩ = some (.int .i64 y2) := RX.keep hb1 (by simp [RX.cell_drew, RX.cell_alloc, Nat.add_assoc])
  have q0 : w1.cell? ⟨w.heap.size + 1, 0, none⟩ = some (.int .i64 0) := RX.keep hb1 (by simp [RX.cell_drew, RX.cell_alloc, Nat.add_assoc])
  have q1 : w1.cell? ⟨w.heap.size + 1, 1, none⟩ = some (.int .i64 0) := RX.keep hb1 (by simp [RX.cell_drew, RX.cell_alloc, Nat.add_assoc])
  have q2 : w1.cell? ⟨w.heap.size + 1, 2, none⟩ = some (.int .i64 0) := RX.keep hb1 (by simp [RX.cell_drew, RX.cell_alloc, Nat.add_assoc])
  have q3 : w1.cell? ⟨w.heap.size + 1, 3, none⟩ = some (.int .i64 0) := RX.keep hb1 (by simp [RX.cell_drew, RX.cell_alloc, Nat.add_assoc])
  have f0 : w1.frozen? ⟨w.heap.size + 1, 0, none⟩ = false := (hb1.frozen (by simp <;> omega)).trans (by simp [RX.frozen_drew, RX.frozen_alloc, Nat.add_assoc])
  have f1 : w1.frozen? ⟨w.heap.size + 1, 1, none⟩ = false := (hb1.frozen (by simp <;> omega)).trans (by simp [RX.frozen_drew, RX.frozen_alloc, Nat.add_assoc])
  have f2 : w1.frozen? ⟨w.heap.size + 1, 2, none⟩ = false := (hb1.frozen (by simp <;> omega)).trans (by simp [RX.frozen_drew, RX.frozen_alloc, Nat.add_assoc])
  have f3 : w1.frozen? ⟨w.heap.size + 1, 3, none⟩ = false := (hb1.frozen (by simp <;> omega)).trans (by simp [RX.frozen_drew, RX.frozen_alloc, Nat.add_assoc])
  have hB : Below w.heap.size w w1 := Below.trans (by repeat (first | assumption | (with_reducible exact Below.refl _ _) | (with_reducible refine Below.setCell ?_ (by first | omega | (simp; done) | (simp; omega)) _) | (with_reducible refine Below.alloc ?_ (by first | omega | (simp; done) | (simp; omega)) _) | (with_reducible apply Below.drew))) (hb1.mono (by simp; omega))
  clear hb1
  refine hK _ _ ⟨⟨c0, c1, c2, c3⟩, hR _ _ ?_⟩; clear hK K hR R
  refine RX.step (fun R hR => ?_)
  refine RX.one_chain (by first | rfl | (rw [HO.out]; rfl)) rfl (fun K hK => ?_)
  go_wp2
  refine ⟨⟨(by (try have hLt := World.block_lt_of_cell? _ _ c0); (try simp only at hLt); (repeat first | rw [RX.cell_drew] | rw [World.cell?_setCell_other _ _ _ _ (by first | (simp; done) | (simp; omega) | omega)] | rw [RX.cell_alloc, if_neg (by first | (simp; done) | (simp; omega) | omega)]); first | exact c0 | (rw [RX.cell_alloc, if_pos (by first | (simp; done) | omega)]; exact c0)), (by (try have hLt := World.block_lt_of_cell? _ _ c1); (try simp only at hLt); (repeat first | rw [RX.cell_drew] | rw [World.cell?_setCell_other _ _ _ _ (by first | (simp; done) | (simp; omega) | omega)] | rw [RX.cell_alloc, if_neg (by first | (simp; done) | (simp; omega) | omega)]); first | exact c1 | (rw [RX.cell_alloc, if_pos (by first | (simp; done) | omega)]; exact c1)), (by (try have hLt := World.block_lt_of_cell? _ _ c2); (try simp only at hLt); (repeat first | rw [RX.cell_drew] | rw [World.cell?_setCell_other _ _ _ _ (by first | (simp; done) | (simp; omega) | omega)] | rw [RX.cell_alloc, if_neg (by first | (simp; done) | (simp; omega) | omega)]); first | exact c2 | (rw [RX.cell_alloc, if_pos (by first | (simp; done) | omega)]; exact c2)), (by (try have hLt := World.block_lt_of_cell? _ _ c3); (try simp only at hLt); (repeat first | rw [RX.cell_drew] | rw [World.cell?_setCell_other _ _ _ _ (by first | (simp; done) | (simp; omega) | omega)] | rw [RX.cell_alloc, if_neg (by first | (simp; done) | (simp; omega) | omega)]); first | exact c3 | (rw [RX.cell_alloc, if_pos (by first | (simp; done) | omega)]; exact c3))⟩, hR _ _ ?_⟩; clear hR R
  repeat
    refine RX.step (fun R hR => ?_)
    first
    | (refine RX.one_skip (by first | rfl | (rw [HO.out]; rfl)) (by simp only [RX.put_some, RX.put_none, List.set_cons_zero, List.set_cons_succ]; rfl) ?_
       refine hR _ _ ?_; clear hR R)
    | (refine RX.one_move (by first | rfl | (rw [HO.out]; rfl)) rfl (by first | exact Or.inl rfl | exact Or.inr rfl) (by simp only [RX.eval_tmp, RX.eval_const, List.getD_cons_zero, List.getD_cons_succ]; rfl) (by simp only [RX.put_some, RX.put_none, List.set_cons_zero, List.set_cons_succ]; rfl) ?_
       refine hR _ _ ?_; clear hR R)
    | (refine RX.one_nil (by first | rfl | (rw [HO.out]; rfl)) rfl rfl (by simp only [RX.eval_tmp, RX.eval_const, List.getD_cons_zero, List.getD_cons_succ]; rfl) (by simp only [RX.put_some, RX.put_none, List.set_cons_zero, List.set_cons_succ]; rfl) ?_
       refine hR _ _ ?_; clear hR R)
    | (refine RX.one_float (by first | rfl | (rw [HO.out]; rfl)) rfl rfl rfl ?_
       apply Exists.intro; apply Exists.intro
       refine ⟨fun w' hS K hK => ?_, ?_, ?_⟩
       · obtain ⟨hS1, hS2, hS3, hS4⟩ := hS; go_wp2; exact hK _ _ (by simp only [RX.arr_getD, List.getD_cons_zero, List.getD_cons_succ]; first | exact RX.dec_t (by omega) | exact RX.dec_f (by omega) | exact RX.beq_t (by omega) | exact RX.beq_f (by omega) | exact RX.bne_t (by omega) | exact RX.bne_f (by omega) | exact RX.bneB _ | rfl) rfl
       · simp only [RX.put_some, RX.put_none, List.set_cons_zero, List.set_cons_succ]; rfl
       refine hR _ _ ?_; clear hR R)
  refine RX.wpL_nil (hQR _ _ (⟨(by (try have hLt := World.block_lt_of_cell? _ _ c0); (try simp only at hLt); (repeat first | rw [RX.cell_drew] | rw [World.cell?_setCell_other _ _ _ _ (by first | (simp; done) | (simp; omega) | omega)] | rw [RX.cell_alloc, if_neg (by first | (simp; done) | (simp; omega) | omega)]); first | exact c0 | (rw [RX.cell_alloc, if_pos (by first | (simp; done) | omega)]; exact c0)), (by (try have hLt := World.block_lt_of_cell? _ _ c1); (try simp only at hLt); (repeat first | rw [RX.cell_drew] | rw [World.cell?_setCell_other _ _ _ _ (by first | (simp; done) | (simp; omega) | omega)] | rw [RX.cell_alloc, if_neg (by first | (simp; done) | (simp; omega) | omega)]); first | exact c1 | (rw [RX.cell_alloc, if_pos (by first | (simp; done) | omega)]; exact c1)), (by (try have hLt := World.block_lt_of_cell? _ _ c2); (try simp only at hLt); (repeat first | rw [RX.cell_drew] | rw [World.cell?_setCell_other _ _ _ _ (by first | (simp; done) | (simp; omega) | omega)] | rw [RX.cell_alloc, if_neg (by first | (simp; done) | (simp; omega) | omega)]); first | exact c2 | (rw [RX.cell_alloc, if_pos (by first | (simp; done) | omega)]; exact c2)), (by (try have hLt := World.block_lt_of_cell? _ _ c3); (try simp only at hLt); (repeat first | rw [RX.cell_drew] | rw [World.cell?_setCell_other _ _ _ _ (by first | (simp; done) | (simp; omega) | omega)] | rw [RX.cell_alloc, if_neg (by first | (simp; done) | (simp; omega) | omega)]); first | exact c3 | (rw [RX.cell_alloc, if_pos (by first | (simp; done) | omega)]; exact c3))⟩) ?_); clear hQR QR HO OPS
  go_wp2
  refine bodyPost_ret (v := .tuple #[pv ⟨n, y0, y1, y2⟩, .bool (okB ⟨n, y0, y1, y2⟩)]) ?_ rfl ⟨rfl, ?_⟩
  · simp [results, Tryd.results105, go_sem, pv, q0, q1, q2, q3]
  · exact (by repeat (first | assumption | (with_reducible exact Below.refl _ _) | (with_reducible refine Below.setCell ?_ (by first | omega | (simp; done) | (simp; omega)) _) | (with_reducible refine Below.alloc ?_ (by first | omega | (simp; done) | (simp; omega)) _) | (with_reducible apply Below.drew)))
end Go.Proofs.YtpbfgnffkhabnaaDoor
