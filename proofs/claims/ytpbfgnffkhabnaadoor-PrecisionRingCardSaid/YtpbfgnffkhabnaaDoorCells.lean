import Derived.Test.YtpbfgnffkhabnaaDoorCell
set_option linter.unusedSimpArgs false
set_option linter.unusedVariables false
namespace Go.Proofs.YtpbfgnffkhabnaaDoor
open Go.RowKit Go.Grid Go.Maps

/-- The cells at a place of the lattice: the one that points upward, and the one below it. -/
def cellsAt (L : List Pl) (h : Nat) (p : Pl) : List (List Int) :=
  tri L ⟨p.f, p.a + h, p.b, p.c⟩ ⟨p.f, p.a, p.b + h, p.c⟩ ⟨p.f, p.a, p.b, p.c + h⟩ ::
    (if h ≤ p.c then [tri L ⟨p.f, p.a, p.b + h, p.c⟩ ⟨p.f, p.a + h, p.b, p.c⟩ ⟨p.f, p.a + h, p.b + h, p.c - h⟩] else [])

theorem Below_undrew {B : Nat} {w w' : World} (h : Below B w.drew w') : Below B w w' := ⟨h.os, h.tape, h.output, h.size, h.block⟩
set_option maxRecDepth 100000 in
set_option maxHeartbeats 1000000 in
theorem cells_any (g n base : Nat) (L : List Pl) (C : List (List Int)) (p : Pl) (w : World) (hT : HasTab w) (h0 : 1 < g) (hI : CellInv w g n base L C) (hf : p.f < 20) (hs : p.a + p.b + p.c + hh n = 840) (hC : C.length ≤ 90000) (hh0 : 1 ≤ hh n) :
    Calls Tryd.prog 91 #[.pointer (some ⟨g, 0, none⟩), pv p] w fun e w' => e = .returned (.tuple #[]) ∧ CellInv w' g n base L (C ++ cellsAt L (hh n) p) ∧ Below (g - 1) w w' := by
  have hpv : Hid (pv p = .agg #[.int .i64 p.f, .int .i64 p.a, .int .i64 p.b, .int .i64 p.c]) := Lib.hid rfl
  rw [hpv.out]
  have hgl : g < w.heap.size := World.block_lt_of_cell? w _ hI.net.cn
  have hch := hI.net.ch
  obtain ⟨h, hhe⟩ : ∃ h, h = hh n := ⟨_, rfl⟩
  rw [← hhe] at hs hch hh0 ⊢
  have HH := Lib.hid hhe
  clear hhe
  have hvlow : ∀ v, w.cell? ⟨g, 4, none⟩ = some v → ∀ k, v.ownBlock = some k → k < w.heap.size := fun v hv k hk => by
    obtain ⟨v0, d4, hown0⟩ := hI.c4
    have := d4.symm.trans hv
    injection this with this
    subst this
    exact (hown0.lt k hk).2
  go_enter Tryd.func91, Tryd.ntmps91
  go_wp2_with fail
  refine (upward_any g h p _ ?_ (by omega) (by omega)).mono ?_
  · exact (by (try have hLt := World.block_lt_of_cell? _ _ hch); (try simp only at hLt); (repeat first | rw [RX.cell_drew] | rw [World.cell?_setCell_other _ _ _ _ (by first | (simp; done) | (simp; omega) | omega)] | rw [RX.cell_alloc, if_neg (by first | (simp; done) | (simp; omega) | omega)]); first | exact hch | (rw [RX.cell_alloc, if_pos (by first | (simp; done) | omega)]; exact hch))
  rintro e w1 ⟨rfl, hb1⟩
  have p0 : w1.cell? ⟨w.heap.size, 0, none⟩ = some (.int .i64 p.f) := RX.keep hb1 (by simp [RX.cell_drew, RX.cell_alloc, Nat.add_assoc])
  have p1 : w1.cell? ⟨w.heap.size, 1, none⟩ = some (.int .i64 p.a) := RX.keep hb1 (by simp [RX.cell_drew, RX.cell_alloc, Nat.add_assoc])
  have p2 : w1.cell? ⟨w.heap.size, 2, none⟩ = some (.int .i64 p.b) := RX.keep hb1 (by simp [RX.cell_drew, RX.cell_alloc, Nat.add_assoc])
  have p3 : w1.cell? ⟨w.heap.size, 3, none⟩ = some (.int .i64 p.c) := RX.keep hb1 (by simp [RX.cell_drew, RX.cell_alloc, Nat.add_assoc])
  have B1 : Below w.heap.size w w1 := Below.trans (by repeat (first | assumption | (with_reducible exact Below.refl _ _) | (with_reducible refine Below.setCell ?_ (by first | omega | (simp; done) | (simp; omega)) _) | (with_reducible refine Below.alloc ?_ (by first | omega | (simp; done) | (simp; omega)) _) | (with_reducible apply Below.drew))) (hb1.mono (by simp))
  clear hb1
  go_wp2_with fail
  refine (cell_any g n base L C ⟨p.f, p.a + h, p.b, p.c⟩ ⟨p.f, p.a, p.b + h, p.c⟩ ⟨p.f, p.a, p.b, p.c + h⟩ w1 (hT.below B1) (hI.below B1) ⟨hf, ?_⟩ ⟨hf, ?_⟩ ⟨hf, ?_⟩ (by omega)).mono ?_
  · show p.a + h + p.b + p.c = 840; omega
  · show p.a + (p.b + h) + p.c = 840; omega
  · show p.a + p.b + (p.c + h) = 840; omega
  rintro e w2 ⟨rfl, hI2, hB2, hfr⟩
  have hbox : w2.heap[w.heap.size]? = w1.heap[w.heap.size]? := hfr _ (World.block_lt_of_cell? _ _ p0) (by omega) (fun v hv e => by
    obtain ⟨v0, d4, hown0⟩ := hI.c4
    have h9 := (RX.keep B1 d4).symm.trans hv
    injection h9 with h9
    subst h9
    have := hvlow v0 d4 _ e
    omega)
  have q0 := (World.cell?_of_block hbox).trans p0
  have q1 := (World.cell?_of_block hbox).trans p1
  have q2 := (World.cell?_of_block hbox).trans p2
  have q3 := (World.cell?_of_block hbox).trans p3
  have hBw : Below (g - 1) w w2 := (B1.mono (by omega)).trans hB2
  clear hfr hbox p0 p1 p2 p3 hB2 hvlow hI hch B1
  have hch := hI2.net.ch
  rw [← HH.out] at hch
  have hT2 : HasTab w2 := hT.kept (hBw.block 0 (by omega))
  by_cases hc : h ≤ p.c
  · have hcc : ((p.c : Int) + -(h : Int)) = ((p.c - h : Nat) : Int) := by omega
    go_wp2
    refine RX.region RX.fN (fun w' => w' = _) (by kernel_rfl) (by kernel_rfl) rfl (fun OPS HO QR hQR => ?_)
    repeat
      refine RX.step (fun R hR => ?_)
      first
      | (refine RX.one_skip (by first | rfl | (rw [HO.out]; rfl)) (by simp only [RX.put_some, RX.put_none, List.set_cons_zero, List.set_cons_succ]; rfl) ?_
         refine hR _ _ ?_; clear hR R)
      | (refine RX.one_move (by first | rfl | (rw [HO.out]; rfl)) rfl (by first | exact Or.inl rfl | exact Or.inr rfl) (by simp only [RX.eval_tmp, RX.eval_const, List.getD_cons_zero, List.getD_cons_succ]; rfl) (by simp only [RX.put_some, RX.put_none, List.set_cons_zero, List.set_cons_succ]; rfl) ?_
         refine hR _ _ ?_; clear hR R)
      | (refine RX.one_nil (by first | rfl | (rw [HO.out]; rfl)) rfl rfl (by simp only [RX.eval_tmp, RX.eval_const, List.getD_cons_zero, List.getD_cons_succ]; rfl) (by simp only [RX.put_some, RX.put_none, List.set_cons_zero, List.set_cons_succ]; rfl) ?_
         refine hR _ _ ?_; clear hR R)
      | (refine RX.one_float (by first | rfl | (rw [HO.out]; rfl)) rfl rfl rfl ?_
         apply Exists.intro; apply Exists.intro
         refine ⟨fun w' hS K hK => ?_, ?_, ?_⟩
         · subst hS; go_wp2; exact hK _ _ (by simp only [RX.arr_getD, List.getD_cons_zero, List.getD_cons_succ]; first | exact RX.dec_t (by omega) | exact RX.dec_f (by omega) | exact RX.beq_t (by omega) | exact RX.beq_f (by omega) | exact RX.bne_t (by omega) | exact RX.bne_f (by omega) | exact RX.bneB _ | rfl) rfl
         · simp only [RX.put_some, RX.put_none, List.set_cons_zero, List.set_cons_succ]; rfl
         refine hR _ _ ?_; clear hR R)
    refine RX.wpL_nil (hQR _ _ rfl ?_); clear hQR QR HO OPS
    go_wp2
    refine RY.region RX.fN (fun w' => w'.cell? ⟨g, 1, none⟩ = some (.int .i64 h) ∧ w'.cell? ⟨w.heap.size, 0, none⟩ = some (.int .i64 p.f) ∧ w'.cell? ⟨w.heap.size, 1, none⟩ = some (.int .i64 p.a) ∧ w'.cell? ⟨w.heap.size, 2, none⟩ = some (.int .i64 p.b) ∧ w'.cell? ⟨w.heap.size, 3, none⟩ = some (.int .i64 p.c)) (by kernel_rfl) (by kernel_rfl) (⟨hch, q0, q1, q2, q3⟩) (fun OPS HO QR hQR => ?_)
    repeat
      refine RY.step (fun R hR => ?_)
      first
      | (refine RY.one_skip (by first | rfl | (rw [HO.out]; rfl)) (by simp only [RX.put_some, RX.put_none, List.set_cons_zero, List.set_cons_succ]; rfl) ?_
         refine hR _ _ ?_; clear hR R)
      | (refine RY.one_move (by first | rfl | (rw [HO.out]; rfl)) rfl (by first | exact Or.inl rfl | exact Or.inr rfl) (by simp only [RX.eval_tmp, RX.eval_const, List.getD_cons_zero, List.getD_cons_succ]; rfl) (by simp only [RX.put_some, RX.put_none, List.set_cons_zero, List.set_cons_succ]; rfl) ?_
         refine hR _ _ ?_; clear hR R)
      | (refine RY.one_nil (by first | rfl | (rw [HO.out]; rfl)) rfl rfl (by simp only [RX.eval_tmp, RX.eval_const, List.getD_cons_zero, List.getD_cons_succ]; rfl) (by simp only [RX.put_some, RX.put_none, List.set_cons_zero, List.set_cons_succ]; rfl) ?_
         refine hR _ _ ?_; clear hR R)
      | (refine RY.one_float (by first | rfl | (rw [HO.out]; rfl)) rfl rfl rfl ?_
         apply Exists.intro; apply Exists.intro
         refine ⟨fun w' hS K hK => ?_, ?_, ?_⟩
         · obtain ⟨hS1, hS2, hS3, hS4, hS5⟩ := hS; go_wp2; exact hK _ _ (by simp only [RX.arr_getD, List.getD_cons_zero, List.getD_cons_succ]; first | exact RX.dec_t (by omega) | exact RX.dec_f (by omega) | exact RX.beq_t (by omega) | exact RX.beq_f (by omega) | exact RX.bne_t (by omega) | exact RX.bne_f (by omega) | exact RX.bneB _ | rfl) rfl
         · simp only [RX.put_some, RX.put_none, List.set_cons_zero, List.set_cons_succ]; rfl
         refine hR _ _ ?_; clear hR R)
    refine RY.step (fun R hR => ?_)
    refine RY.one_chain (by first | rfl | (rw [HO.out]; rfl)) rfl (fun K hK => ?_)
    go_wp2_with fail
    refine (moved_any p 0 0 (-(h : Int)) p.a p.b (p.c - h) _ (by omega) (by omega) (by omega) (by omega) (by omega)).mono ?_
    rintro e w3 ⟨rfl, hb3⟩
    have hb3' : Below w2.heap.size w2 w3 := Below_undrew (Below_undrew hb3)
    clear hb3
    have hg2 : g < w2.heap.size := World.block_lt_of_cell? _ _ hch
    have h3c : w3.cell? ⟨g, 1, none⟩ = some (.int .i64 h) := RX.keep hb3' hch
    have q30 := RX.keep hb3' q0
    have q31 := RX.keep hb3' q1
    have q32 := RX.keep hb3' q2
    have q33 := RX.keep hb3' q3
    refine hK _ _ ⟨.inr (⟨h3c, q30, q31, q32, q33⟩), hR _ _ ?_⟩; clear hK K hR R
    repeat
      refine RY.step (fun R hR => ?_)
      first
      | (refine RY.one_skip (by first | rfl | (rw [HO.out]; rfl)) (by simp only [RX.put_some, RX.put_none, List.set_cons_zero, List.set_cons_succ]; rfl) ?_
         refine hR _ _ ?_; clear hR R)
      | (refine RY.one_move (by first | rfl | (rw [HO.out]; rfl)) rfl (by first | exact Or.inl rfl | exact Or.inr rfl) (by simp only [RX.eval_tmp, RX.eval_const, List.getD_cons_zero, List.getD_cons_succ]; rfl) (by simp only [RX.put_some, RX.put_none, List.set_cons_zero, List.set_cons_succ]; rfl) ?_
         refine hR _ _ ?_; clear hR R)
      | (refine RY.one_nil (by first | rfl | (rw [HO.out]; rfl)) rfl rfl (by simp only [RX.eval_tmp, RX.eval_const, List.getD_cons_zero, List.getD_cons_succ]; rfl) (by simp only [RX.put_some, RX.put_none, List.set_cons_zero, List.set_cons_succ]; rfl) ?_
         refine hR _ _ ?_; clear hR R)
      | (refine RY.one_float (by first | rfl | (rw [HO.out]; rfl)) rfl rfl rfl ?_
         apply Exists.intro; apply Exists.intro
         refine ⟨fun w' hS K hK => ?_, ?_, ?_⟩
         · obtain ⟨hS1, hS2, hS3, hS4, hS5⟩ := hS; go_wp2; exact hK _ _ (by simp only [RX.arr_getD, List.getD_cons_zero, List.getD_cons_succ]; first | exact RX.dec_t (by omega) | exact RX.dec_f (by omega) | exact RX.beq_t (by omega) | exact RX.beq_f (by omega) | exact RX.bne_t (by omega) | exact RX.bne_f (by omega) | exact RX.bneB _ | rfl) rfl
         · simp only [RX.put_some, RX.put_none, List.set_cons_zero, List.set_cons_succ]; rfl
         refine hR _ _ ?_; clear hR R)
    refine RY.step (fun R hR => ?_)
    refine RY.one_chain (by first | rfl | (rw [HO.out]; rfl)) rfl (fun K hK => ?_)
    go_wp2_with fail
    refine (downward_any g h ⟨p.f, p.a, p.b, p.c - h⟩ w3 h3c (by omega) (by simp only; omega)).mono ?_
    rintro e w4 ⟨he, hb4⟩
    dsimp only at he
    rw [show p.c - h + h = p.c by omega] at he
    subst he
    have hb4' : Below w2.heap.size w2 w4 := hb3'.trans (hb4.mono hb3'.size)
    clear hb4 hb3' h3c q30 q31 q32 q33
    have h4c : w4.cell? ⟨g, 1, none⟩ = some (.int .i64 h) := RX.keep hb4' hch
    have q40 := RX.keep hb4' q0
    have q41 := RX.keep hb4' q1
    have q42 := RX.keep hb4' q2
    have q43 := RX.keep hb4' q3
    have hI4 := hI2.below hb4'
    have hT4 : HasTab w4 := hT2.below hb4'
    refine hK _ _ ⟨.inr (⟨h4c, q40, q41, q42, q43⟩), hR _ _ ?_⟩; clear hK K hR R
    repeat
      refine RY.step (fun R hR => ?_)
      first
      | (refine RY.one_skip (by first | rfl | (rw [HO.out]; rfl)) (by simp only [RX.put_some, RX.put_none, List.set_cons_zero, List.set_cons_succ]; rfl) ?_
         refine hR _ _ ?_; clear hR R)
      | (refine RY.one_move (by first | rfl | (rw [HO.out]; rfl)) rfl (by first | exact Or.inl rfl | exact Or.inr rfl) (by simp only [RX.eval_tmp, RX.eval_const, List.getD_cons_zero, List.getD_cons_succ]; rfl) (by simp only [RX.put_some, RX.put_none, List.set_cons_zero, List.set_cons_succ]; rfl) ?_
         refine hR _ _ ?_; clear hR R)
      | (refine RY.one_nil (by first | rfl | (rw [HO.out]; rfl)) rfl rfl (by simp only [RX.eval_tmp, RX.eval_const, List.getD_cons_zero, List.getD_cons_succ]; rfl) (by simp only [RX.put_some, RX.put_none, List.set_cons_zero, List.set_cons_succ]; rfl) ?_
         refine hR _ _ ?_; clear hR R)
      | (refine RY.one_float (by first | rfl | (rw [HO.out]; rfl)) rfl rfl rfl ?_
         apply Exists.intro; apply Exists.intro
         refine ⟨fun w' hS K hK => ?_, ?_, ?_⟩
         · obtain ⟨hS1, hS2, hS3, hS4, hS5⟩ := hS; go_wp2; exact hK _ _ (by simp only [RX.arr_getD, List.getD_cons_zero, List.getD_cons_succ]; first | exact RX.dec_t (by omega) | exact RX.dec_f (by omega) | exact RX.beq_t (by omega) | exact RX.beq_f (by omega) | exact RX.bne_t (by omega) | exact RX.bne_f (by omega) | exact RX.bneB _ | rfl) rfl
         · simp only [RX.put_some, RX.put_none, List.set_cons_zero, List.set_cons_succ]; rfl
         refine hR _ _ ?_; clear hR R)
    refine RY.step (fun R hR => ?_)
    refine RY.one_chain (by first | rfl | (rw [HO.out]; rfl)) rfl (fun K hK => ?_)
    go_wp2_with fail
    refine (cell_any g n base L (C ++ [tri L ⟨p.f, p.a + h, p.b, p.c⟩ ⟨p.f, p.a, p.b + h, p.c⟩ ⟨p.f, p.a, p.b, p.c + h⟩]) ⟨p.f, p.a, p.b + h, p.c⟩ ⟨p.f, p.a + h, p.b, p.c⟩ ⟨p.f, p.a + h, p.b + h, p.c - h⟩ w4 hT4 hI4 ⟨hf, ?_⟩ ⟨hf, ?_⟩ ⟨hf, ?_⟩ (by simp; omega)).mono ?_
    · show p.a + (p.b + h) + (p.c) = 840; omega
    · show p.a + h + p.b + (p.c) = 840; omega
    · show p.a + h + (p.b + h) + (p.c - h) = 840; omega
    rintro e w5 ⟨rfl, hI5, hB5, _⟩
    have hBf : Below (g - 1) w w5 := (hBw.trans (hb4'.mono (by omega))).trans hB5
    have HF : Hid (CellInv w5 g n base L (C ++ cellsAt L h p)) := Lib.hid (by
      rw [cellsAt, if_pos hc]
      rw [List.append_assoc] at hI5
      exact hI5)
    clear hI5 hI4 hB5 hb4' hI2
    refine hK _ _ ⟨(by first | exact .inl rfl | exact .inl trivial | trivial), hR _ _ ?_⟩; clear hK K hR R
    refine RY.wpL_nil (hQR _ _ ?_); clear hQR QR HO OPS
    go_wp2
    go_end0
    exact ⟨rfl, HF.out, hBf⟩
  · have HF : Hid (CellInv w2 g n base L (C ++ cellsAt L h p)) := Lib.hid (by
      rw [cellsAt, if_neg hc]
      exact hI2)
    clear hI2
    go_wp2
    refine RX.region RX.fN (fun w' => w' = _) (by kernel_rfl) (by kernel_rfl) rfl (fun OPS HO QR hQR => ?_)
    repeat
      refine RX.step (fun R hR => ?_)
      first
      | (refine RX.one_skip (by first | rfl | (rw [HO.out]; rfl)) (by simp only [RX.put_some, RX.put_none, List.set_cons_zero, List.set_cons_succ]; rfl) ?_
         refine hR _ _ ?_; clear hR R)
      | (refine RX.one_move (by first | rfl | (rw [HO.out]; rfl)) rfl (by first | exact Or.inl rfl | exact Or.inr rfl) (by simp only [RX.eval_tmp, RX.eval_const, List.getD_cons_zero, List.getD_cons_succ]; rfl) (by simp only [RX.put_some, RX.put_none, List.set_cons_zero, List.set_cons_succ]; rfl) ?_
         refine hR _ _ ?_; clear hR R)
      | (refine RX.one_nil (by first | rfl | (rw [HO.out]; rfl)) rfl rfl (by simp only [RX.eval_tmp, RX.eval_const, List.getD_cons_zero, List.getD_cons_succ]; rfl) (by simp only [RX.put_some, RX.put_none, List.set_cons_zero, List.set_cons_succ]; rfl) ?_
         refine hR _ _ ?_; clear hR R)
      | (refine RX.one_float (by first | rfl | (rw [HO.out]; rfl)) rfl rfl rfl ?_
         apply Exists.intro; apply Exists.intro
         refine ⟨fun w' hS K hK => ?_, ?_, ?_⟩
         · subst hS; go_wp2; exact hK _ _ (by simp only [RX.arr_getD, List.getD_cons_zero, List.getD_cons_succ]; first | exact RX.dec_t (by omega) | exact RX.dec_f (by omega) | exact RX.beq_t (by omega) | exact RX.beq_f (by omega) | exact RX.bne_t (by omega) | exact RX.bne_f (by omega) | exact RX.bneB _ | rfl) rfl
         · simp only [RX.put_some, RX.put_none, List.set_cons_zero, List.set_cons_succ]; rfl
         refine hR _ _ ?_; clear hR R)
    refine RX.wpL_nil (hQR _ _ rfl ?_); clear hQR QR HO OPS
    go_wp2
    go_end0
    exact ⟨rfl, HF.out.below (Below.refl _ _).drew, hBw.drew⟩
end Go.Proofs.YtpbfgnffkhabnaaDoor
