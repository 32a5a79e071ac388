import Derived.Test.YtpbfgnffkhabnaaDoorPlace
set_option linter.unusedSimpArgs false
set_option linter.unusedVariables false
namespace Go.Proofs.YtpbfgnffkhabnaaDoor
open Go.RowKit Go.Grid

/-- The program's table of corners lies where it began. -/
def HasTab (w : World) : Prop := ∀ f, f < 20 → w.cell? ⟨0, f * 3, none⟩ = some (.int .i64 (tab f).1) ∧ w.cell? ⟨0, f * 3 + 1, none⟩ = some (.int .i64 (tab f).2.1) ∧ w.cell? ⟨0, f * 3 + 2, none⟩ = some (.int .i64 (tab f).2.2)
theorem HasTab.lt {w : World} (h : HasTab w) : 0 < w.heap.size := World.block_lt_of_cell? w _ (h 0 (by omega)).1
theorem HasTab.kept {w w' : World} (h : HasTab w) (hb : w'.heap[0]? = w.heap[0]?) : HasTab w' := fun f hf => by
  obtain ⟨h1, h2, h3⟩ := h f hf
  exact ⟨(World.cell?_of_block hb).trans h1, (World.cell?_of_block hb).trans h2, (World.cell?_of_block hb).trans h3⟩
theorem HasTab.below {w w' : World} (h : HasTab w) (hb : Below w.heap.size w w') : HasTab w' := h.kept (hb.block _ h.lt)

def wts (p : Pl) : Value := .agg #[.int .i64 (wt p 0), .int .i64 (wt p 1), .int .i64 (wt p 2), .int .i64 (wt p 3), .int .i64 (wt p 4), .int .i64 (wt p 5), .int .i64 (wt p 6), .int .i64 (wt p 7), .int .i64 (wt p 8), .int .i64 (wt p 9), .int .i64 (wt p 10), .int .i64 (wt p 11)]

/-- The world under a name: what is known of it. -/
theorem absW {F G : World → Prop} {w : World} (h : F w) (k : ∀ w', F w' → G w') : G w := k w h

def zeros12 : List Value := [.int .i64 0, .int .i64 0, .int .i64 0, .int .i64 0, .int .i64 0, .int .i64 0, .int .i64 0, .int .i64 0, .int .i64 0, .int .i64 0, .int .i64 0, .int .i64 0]
theorem arr12 (x0 x1 x2 a b c : Nat) (h01 : x0 ≠ x1) (h02 : x0 ≠ x2) (h12 : x1 ≠ x2) (j : Nat) (hj : j < 12) :
    (((zeros12.set x0 (.int .i64 a)).set x1 (.int .i64 b)).set x2 (.int .i64 c)).toArray[j]? = some (.int .i64 ((if j = x0 then a else if j = x1 then b else if j = x2 then c else 0 : Nat) : Int)) := by
  have hz : zeros12[j]? = some (.int .i64 0) := by
    have : j = 0 ∨ j = 1 ∨ j = 2 ∨ j = 3 ∨ j = 4 ∨ j = 5 ∨ j = 6 ∨ j = 7 ∨ j = 8 ∨ j = 9 ∨ j = 10 ∨ j = 11 := by omega
    rcases this with rfl | rfl | rfl | rfl | rfl | rfl | rfl | rfl | rfl | rfl | rfl | rfl <;> rfl
  have hs : zeros12.length = 12 := rfl
  rw [List.getElem?_toArray]
  by_cases h2 : j = x2
  · subst h2
    rw [List.getElem?_set_self (by simp [hs]; omega), if_neg (Ne.symm h02), if_neg (Ne.symm h12), if_pos rfl]
  · rw [List.getElem?_set_ne (Ne.symm h2)]
    by_cases h1 : j = x1
    · subst h1
      rw [List.getElem?_set_self (by simp [hs]; omega), if_neg (Ne.symm h01), if_pos rfl]
    · rw [List.getElem?_set_ne (Ne.symm h1)]
      by_cases h0 : j = x0
      · subst h0
        rw [List.getElem?_set_self (by simp [hs]; omega), if_pos rfl]
      · rw [List.getElem?_set_ne (Ne.symm h0), hz, if_neg h0, if_neg h1, if_neg h2]; rfl

theorem list12 (x0 x1 x2 a b c : Nat) (h01 : x0 ≠ x1) (h02 : x0 ≠ x2) (h12 : x1 ≠ x2) (p : Pl) (hp : ∀ j, wt p j = if j = x0 then a else if j = x1 then b else if j = x2 then c else 0) :
    (([Value.int IntKind.i64 0, .int .i64 0, .int .i64 0, .int .i64 0, .int .i64 0, .int .i64 0, .int .i64 0, .int .i64 0, .int .i64 0, .int .i64 0, .int .i64 0, .int .i64 0].set x0 (.int .i64 a)).set x1 (.int .i64 b)).set x2 (.int .i64 c) =
    [Value.int .i64 (wt p 0), .int .i64 (wt p 1), .int .i64 (wt p 2), .int .i64 (wt p 3), .int .i64 (wt p 4), .int .i64 (wt p 5), .int .i64 (wt p 6), .int .i64 (wt p 7), .int .i64 (wt p 8), .int .i64 (wt p 9), .int .i64 (wt p 10), .int .i64 (wt p 11)] := by
  refine List.ext_getElem? fun j => ?_
  by_cases hj : j < 12
  · have := arr12 x0 x1 x2 a b c h01 h02 h12 j hj
    rw [List.getElem?_toArray] at this
    refine Eq.trans this ?_
    rw [← hp]
    have : j = 0 ∨ j = 1 ∨ j = 2 ∨ j = 3 ∨ j = 4 ∨ j = 5 ∨ j = 6 ∨ j = 7 ∨ j = 8 ∨ j = 9 ∨ j = 10 ∨ j = 11 := by omega
    rcases this with rfl | rfl | rfl | rfl | rfl | rfl | rfl | rfl | rfl | rfl | rfl | rfl <;> rfl
  · rw [List.getElem?_eq_none (by simp; omega), List.getElem?_eq_none (by simp; omega)]

set_option maxRecDepth 100000 in
set_option maxHeartbeats 4000000 in
theorem of_any (p : Pl) (hf : p.f < 20) (w : World) (hT : HasTab w) : Calls Tryd.prog 104 #[pv p] w fun e w' => e = .returned (wts p) ∧ Below w.heap.size w w' := by
  obtain ⟨k0, k1, k2⟩ := hT p.f hf
  have hlt := hT.lt
  obtain ⟨l0, l1, l2⟩ := tab_lt p.f
  obtain ⟨n0, n1, n2⟩ := tab_ne p.f
  have HW : Hid (∀ j, wt p j = if j = (tab p.f).1 then p.a else if j = (tab p.f).2.1 then p.b else if j = (tab p.f).2.2 then p.c else 0) := Lib.hid fun j => rfl
  have HV : Hid (wts p = wts p) := Lib.hid rfl
  obtain ⟨f, a, b, c⟩ := p
  dsimp only at hf k0 k1 k2 l0 l1 l2 n0 n1 n2 HW
  generalize (tab f).1 = x0 at *
  generalize (tab f).2.1 = x1 at *
  generalize (tab f).2.2 = x2 at *
  simp only [pv]
  go_enter Tryd.func104, Tryd.ntmps104
  go_wp2
  refine RX.region RX.fL (fun w' => w'.cell? ⟨w.heap.size + 3, 0, none⟩ = some (.int .i64 x0) ∧ w'.cell? ⟨w.heap.size + 3, 1, none⟩ = some (.int .i64 x1) ∧ w'.cell? ⟨w.heap.size + 3, 2, none⟩ = some (.int .i64 x2) ∧ w'.cell? ⟨w.heap.size, 1, none⟩ = some (.int .i64 a) ∧ w'.cell? ⟨w.heap.size, 2, none⟩ = some (.int .i64 b) ∧ w'.cell? ⟨w.heap.size, 3, none⟩ = some (.int .i64 c)) (by kernel_rfl) (by kernel_rfl) ((by simp [RX.cell_drew, RX.cell_alloc, Nat.add_assoc])) (fun OPS HO QR hQR => ?_)
  repeat
    refine RX.step (fun R hR => ?_)
    first
    | (refine RX.one_skip (by first | rfl | (rw [HO.out]; rfl)) (by simp only [RX.put_some, RX.put_none, List.set_cons_zero, List.set_cons_succ]; rfl) ?_
       refine hR _ _ ?_; clear hR R)
    | (refine RX.one_move (by first | rfl | (rw [HO.out]; rfl)) rfl (by first | exact Or.inl rfl | exact Or.inr rfl) (by simp only [RX.eval_tmp, RX.eval_const, List.getD_cons_zero, List.getD_cons_succ]; rfl) (by simp only [RX.put_some, RX.put_none, List.set_cons_zero, List.set_cons_succ]; rfl) ?_
       refine hR _ _ ?_; clear hR R)
    | (refine RX.one_nil (by first | rfl | (rw [HO.out]; rfl)) rfl rfl (by simp only [RX.eval_tmp, RX.eval_const, List.getD_cons_zero, List.getD_cons_succ]; rfl) (by simp only [RX.put_some, RX.put_none, List.set_cons_zero, List.set_cons_succ]; rfl) ?_
       refine hR _ _ ?_; clear hR R)
    | (refine RX.one_float (by first | rfl | (rw [HO.out]; rfl)) rfl rfl rfl ?_
       apply Exists.intro; apply Exists.intro
       refine ⟨fun w' hS K hK => ?_, ?_, ?_⟩
       · obtain ⟨hS1, hS2, hS3, hS4, hS5, hS6⟩ := hS; go_wp2; exact hK _ _ (by simp only [RX.arr_getD, List.getD_cons_zero, List.getD_cons_succ]; first | exact RX.dec_t (by omega) | exact RX.dec_f (by omega) | exact RX.beq_t (by omega) | exact RX.beq_f (by omega) | exact RX.bne_t (by omega) | exact RX.bne_f (by omega) | exact RX.bneB _ | rfl) rfl
       · simp only [RX.put_some, RX.put_none, List.set_cons_zero, List.set_cons_succ]; rfl
       refine hR _ _ ?_; clear hR R)
  refine RX.step (fun R hR => ?_)
  refine RX.one_chain (by first | rfl | (rw [HO.out]; rfl)) rfl (fun K hK => ?_)
  go_wp2
  refine ⟨(by simp [RX.cell_drew, RX.cell_alloc, Nat.add_assoc]), hR _ _ ?_⟩; clear hR R
  repeat
    refine RX.step (fun R hR => ?_)
    first
    | (refine RX.one_skip (by first | rfl | (rw [HO.out]; rfl)) (by simp only [RX.put_some, RX.put_none, List.set_cons_zero, List.set_cons_succ]; rfl) ?_
       refine hR _ _ ?_; clear hR R)
    | (refine RX.one_move (by first | rfl | (rw [HO.out]; rfl)) rfl (by first | exact Or.inl rfl | exact Or.inr rfl) (by simp only [RX.eval_tmp, RX.eval_const, List.getD_cons_zero, List.getD_cons_succ]; rfl) (by simp only [RX.put_some, RX.put_none, List.set_cons_zero, List.set_cons_succ]; rfl) ?_
       refine hR _ _ ?_; clear hR R)
    | (refine RX.one_nil (by first | rfl | (rw [HO.out]; rfl)) rfl rfl (by simp only [RX.eval_tmp, RX.eval_const, List.getD_cons_zero, List.getD_cons_succ]; rfl) (by simp only [RX.put_some, RX.put_none, List.set_cons_zero, List.set_cons_succ]; rfl) ?_
       refine hR _ _ ?_; clear hR R)
    | (refine RX.one_float (by first | rfl | (rw [HO.out]; rfl)) rfl rfl rfl ?_
       apply Exists.intro; apply Exists.intro
       refine ⟨fun w' hS K hK => ?_, ?_, ?_⟩
       · obtain ⟨hS1, hS2, hS3, hS4, hS5, hS6⟩ := hS; go_wp2; exact hK _ _ (by simp only [RX.arr_getD, List.getD_cons_zero, List.getD_cons_succ]; first | exact RX.dec_t (by omega) | exact RX.dec_f (by omega) | exact RX.beq_t (by omega) | exact RX.beq_f (by omega) | exact RX.bne_t (by omega) | exact RX.bne_f (by omega) | exact RX.bneB _ | rfl) rfl
       · simp only [RX.put_some, RX.put_none, List.set_cons_zero, List.set_cons_succ]; rfl
       refine hR _ _ ?_; clear hR R)
  refine RX.step (fun R hR => ?_)
  refine RX.one_chain (by first | rfl | (rw [HO.out]; rfl)) rfl (fun K hK => ?_)
  go_wp2
  refine ⟨(by simp [RX.cell_drew, RX.cell_alloc, Nat.add_assoc]), hR _ _ ?_⟩; clear hR R
  repeat
    refine RX.step (fun R hR => ?_)
    first
    | (refine RX.one_skip (by first | rfl | (rw [HO.out]; rfl)) (by simp only [RX.put_some, RX.put_none, List.set_cons_zero, List.set_cons_succ]; rfl) ?_
       refine hR _ _ ?_; clear hR R)
    | (refine RX.one_move (by first | rfl | (rw [HO.out]; rfl)) rfl (by first | exact Or.inl rfl | exact Or.inr rfl) (by simp only [RX.eval_tmp, RX.eval_const, List.getD_cons_zero, List.getD_cons_succ]; rfl) (by simp only [RX.put_some, RX.put_none, List.set_cons_zero, List.set_cons_succ]; rfl) ?_
       refine hR _ _ ?_; clear hR R)
    | (refine RX.one_nil (by first | rfl | (rw [HO.out]; rfl)) rfl rfl (by simp only [RX.eval_tmp, RX.eval_const, List.getD_cons_zero, List.getD_cons_succ]; rfl) (by simp only [RX.put_some, RX.put_none, List.set_cons_zero, List.set_cons_succ]; rfl) ?_
       refine hR _ _ ?_; clear hR R)
    | (refine RX.one_float (by first | rfl | (rw [HO.out]; rfl)) rfl rfl rfl ?_
       apply Exists.intro; apply Exists.intro
       refine ⟨fun w' hS K hK => ?_, ?_, ?_⟩
       · obtain ⟨hS1, hS2, hS3, hS4, hS5, hS6⟩ := hS; go_wp2; exact hK _ _ (by simp only [RX.arr_getD, List.getD_cons_zero, List.getD_cons_succ]; first | exact RX.dec_t (by omega) | exact RX.dec_f (by omega) | exact RX.beq_t (by omega) | exact RX.beq_f (by omega) | exact RX.bne_t (by omega) | exact RX.bne_f (by omega) | exact RX.bneB _ | rfl) rfl
       · simp only [RX.put_some, RX.put_none, List.set_cons_zero, List.set_cons_succ]; rfl
       refine hR _ _ ?_; clear hR R)
  refine RX.step (fun R hR => ?_)
  refine RX.one_chain (by first | rfl | (rw [HO.out]; rfl)) rfl (fun K hK => ?_)
  go_wp2
  refine ⟨(by simp [RX.cell_drew, RX.cell_alloc, Nat.add_assoc]), hR _ _ ?_⟩; clear hR R
  refine RX.wpL_nil (hQR _ _ ((by simp [RX.cell_drew, RX.cell_alloc, Nat.add_assoc])) ?_); clear hQR QR HO OPS
  rw [list12 x0 x1 x2 a b c n0 n1 n2 _ HW.out]
  go_wp2
  refine bodyPost_ret (v := wts ⟨f, a, b, c⟩) ?_ rfl ⟨rfl, ?_⟩
  · simp [results, Tryd.results104, go_sem, wts]
  · exact (by repeat (first | assumption | (with_reducible exact Below.refl _ _) | (with_reducible refine Below.setCell ?_ (by first | omega | (simp; done) | (simp; omega)) _) | (with_reducible refine Below.alloc ?_ (by first | omega | (simp; done) | (simp; omega)) _) | (with_reducible apply Below.drew)))
end Go.Proofs.YtpbfgnffkhabnaaDoor
