import Derived.Test.YtlfhildbjipheaaGreatDoorMin
import Derived.Test.YtlfhildbjipheaaGreatDoorKFreq
import Derived.Test.YtlfhildbjipheaaGreatDoorKEdges
set_option linter.unusedSimpArgs false
set_option linter.unusedVariables false
namespace Go.Proofs.YtlfhildbjipheaaGreatDoor
open Go.RowKit Go.Sort Go.Shelf Go.Grid

/-- The shares of a place: ascending, those of locRaw. -/
def IsLoc (n : Nat) (p : Pl) (S : List (Nat × Nat)) : Prop := S.Perm (locRaw n p) ∧ Asc S
theorem IsLoc.unique {n : Nat} {p : Pl} {S T : List (Nat × Nat)} (h1 : IsLoc n p S) (h2 : IsLoc n p T) : S = T := asc_unique h1.2 h2.2 (h1.1.trans h2.1.symm)
/-- What grid.Index says of a place. -/
def idxErr (n : Nat) (p : Pl) : Int := if (ix (nodesL n) (normal p)).isSome then 0 else 9

set_option maxRecDepth 100000 in
set_option maxHeartbeats 1000000 in
theorem glocate_any (n : Nat) (h1 : 1 ≤ n) (h8 : n ≤ 8) (p : Pl) (hp : p.Ok) (w : World) (hT : HasTab w) : Calls Tryz.prog 37 #[.int .i64 n, pv p] w fun e w' => ∃ (b cap : Nat) (S : List (Nat × Nat)), IsLoc n p S ∧ e = .returned (.tuple #[.slice (some ⟨b, 0, none⟩) S.length cap, .int .i64 0]) ∧ S.length ≤ cap ∧ SharesAt w' b S ∧ Below w.heap.size w w' := by
  have HP := Lib.hid hp
  have hV : validB p.f p.a p.b p.c = true := by
    have := hp.f; have := hp.s
    unfold validB ValidI; exact decide_eq_true (by omega)
  have hpv : Hid (pv p = .agg #[.int .i64 p.f, .int .i64 p.a, .int .i64 p.b, .int .i64 p.c]) := Lib.hid rfl
  rw [hpv.out]
  go_enter Tryz.func37, Tryz.ntmps37
  go_wp2_with fail
  refine (freq_any n _).mono ?_
  rintro e w1 ⟨rfl, rfl⟩
  rw [freqB_t (show 1 ≤ (n : Int) ∧ (n : Int) ≤ 8 by omega)]
  go_wp2_with fail
  refine (valid_any p.f p.a p.b p.c _).mono ?_
  rintro e w1 ⟨rfl, hb1⟩
  rw [hV]
  have c0 : w1.cell? ⟨w.heap.size, 0, none⟩ = some (.int .i64 p.f) := RX.keep hb1 (by simp [RX.cell_drew, RX.cell_alloc, Nat.add_assoc])
  have c1 : w1.cell? ⟨w.heap.size, 1, none⟩ = some (.int .i64 p.a) := RX.keep hb1 (by simp [RX.cell_drew, RX.cell_alloc, Nat.add_assoc])
  have c2 : w1.cell? ⟨w.heap.size, 2, none⟩ = some (.int .i64 p.b) := RX.keep hb1 (by simp [RX.cell_drew, RX.cell_alloc, Nat.add_assoc])
  have c3 : w1.cell? ⟨w.heap.size, 3, none⟩ = some (.int .i64 p.c) := RX.keep hb1 (by simp [RX.cell_drew, RX.cell_alloc, Nat.add_assoc])
  have hb0 : Below w.heap.size w (w.alloc (.cells #[.int .i64 p.f, .int .i64 p.a, .int .i64 p.b, .int .i64 p.c] 32)) := (by repeat (first | (with_reducible assumption) | (with_reducible exact Below.refl _ _) | (with_reducible refine Below.setCell ?_ (by first | omega | (simp; done) | (simp; omega)) _) | (with_reducible refine Below.alloc ?_ (by first | omega | (simp; done) | (simp; omega)) _) | (with_reducible apply Below.drew) | assumption))
  have hb := hb0.trans (hb1.mono hb0.size)
  clear hb0 hb1
  go_wp2
  refine RY.region RX.fN (fun w' => w'.cell? ⟨w.heap.size, 0, none⟩ = some (.int .i64 p.f) ∧ w'.cell? ⟨w.heap.size, 1, none⟩ = some (.int .i64 p.a) ∧ w'.cell? ⟨w.heap.size, 2, none⟩ = some (.int .i64 p.b) ∧ w'.cell? ⟨w.heap.size, 3, none⟩ = some (.int .i64 p.c)) (by kernel_rfl) (by kernel_rfl) (⟨c0, c1, c2, c3⟩) (fun OPS HO QR hQR => ?_)
  repeat
    refine RY.step (fun R hR => ?_)
    first
    | (refine RY.one_skip (by first | rfl | (rw [HO.out]; rfl)) (by simp only [RX.put_some, RX.put_none, List.set_cons_zero, List.set_cons_succ]; rfl) ?_
       refine hR _ _ ?_; clear hR R)
    | (refine RY.one_move (by first | rfl | (rw [HO.out]; rfl)) rfl (by first | exact Or.inl rfl | exact Or.inr rfl) (by simp only [RX.eval_tmp, RX.eval_const, List.getD_cons_zero, List.getD_cons_succ]; rfl) (by simp only [RX.put_some, RX.put_none, List.set_cons_zero, List.set_cons_succ]; rfl) ?_
       refine hR _ _ ?_; clear hR R)
    | (refine RY.one_nil (by first | rfl | (rw [HO.out]; rfl)) rfl rfl (by simp only [RX.eval_tmp, RX.eval_const, List.getD_cons_zero, List.getD_cons_succ]; rfl) (by simp only [RX.put_some, RX.put_none, List.set_cons_zero, List.set_cons_succ]; rfl) ?_
       refine hR _ _ ?_; clear hR R)
    | (refine RY.one_float (by first | rfl | (rw [HO.out]; rfl)) rfl rfl rfl ?_
       apply Exists.intro; apply Exists.intro
       refine ⟨fun w' hS K hK => ?_, ?_, ?_⟩
       · obtain ⟨hS1, hS2, hS3, hS4⟩ := hS; go_wp2; exact hK _ _ (by simp only [RX.arr_getD, List.getD_cons_zero, List.getD_cons_succ]; first | exact RX.dec_t (by omega) | exact RX.dec_f (by omega) | exact RX.beq_t (by omega) | exact RX.beq_f (by omega) | exact RX.bne_t (by omega) | exact RX.bne_f (by omega) | exact RX.bneB _ | rfl) rfl
       · simp only [RX.put_some, RX.put_none, List.set_cons_zero, List.set_cons_succ]; rfl
       refine hR _ _ ?_; clear hR R)
  refine RY.step (fun R hR => ?_)
  refine RY.one_chain (by first | rfl | (rw [HO.out]; rfl)) rfl (fun K hK => ?_)
  go_wp2_with fail
  have hbd : Below w.heap.size w w1.drew := hb.trans ⟨rfl, rfl, rfl, Nat.le_refl _, fun _ _ => rfl⟩
  refine (points_any n h1 h8 w1.drew (hT.below hbd)).mono ?_
  rintro e w2 ⟨rfl, hN, _, hb2⟩
  replace hb2 : Below w1.heap.size w1 w2 := ⟨hb2.os, hb2.tape, hb2.output, hb2.size, hb2.block⟩
  replace c0 := RX.keep hb2 c0
  replace c1 := RX.keep hb2 c1
  replace c2 := RX.keep hb2 c2
  replace c3 := RX.keep hb2 c3
  replace hb2 := hb.trans (hb2.mono hb.size)
  clear hb hbd
  refine hK _ _ ⟨.inr (⟨c0, c1, c2, c3⟩), hR _ _ ?_⟩; clear hK K hR R
  repeat
    refine RY.step (fun R hR => ?_)
    first
    | (refine RY.one_skip (by first | rfl | (rw [HO.out]; rfl)) (by simp only [RX.put_some, RX.put_none, List.set_cons_zero, List.set_cons_succ]; rfl) ?_
       refine hR _ _ ?_; clear hR R)
    | (refine RY.one_move (by first | rfl | (rw [HO.out]; rfl)) rfl (by first | exact Or.inl rfl | exact Or.inr rfl) (by simp only [RX.eval_tmp, RX.eval_const, List.getD_cons_zero, List.getD_cons_succ]; rfl) (by simp only [RX.put_some, RX.put_none, List.set_cons_zero, List.set_cons_succ]; rfl) ?_
       refine hR _ _ ?_; clear hR R)
    | (refine RY.one_nil (by first | rfl | (rw [HO.out]; rfl)) rfl rfl (by simp only [RX.eval_tmp, RX.eval_const, List.getD_cons_zero, List.getD_cons_succ]; rfl) (by simp only [RX.put_some, RX.put_none, List.set_cons_zero, List.set_cons_succ]; rfl) ?_
       refine hR _ _ ?_; clear hR R)
    | (refine RY.one_float (by first | rfl | (rw [HO.out]; rfl)) rfl rfl rfl ?_
       apply Exists.intro; apply Exists.intro
       refine ⟨fun w' hS K hK => ?_, ?_, ?_⟩
       · obtain ⟨hS1, hS2, hS3, hS4⟩ := hS; go_wp2; exact hK _ _ (by simp only [RX.arr_getD, List.getD_cons_zero, List.getD_cons_succ]; first | exact RX.dec_t (by omega) | exact RX.dec_f (by omega) | exact RX.beq_t (by omega) | exact RX.beq_f (by omega) | exact RX.bne_t (by omega) | exact RX.bne_f (by omega) | exact RX.bneB _ | rfl) rfl
       · simp only [RX.put_some, RX.put_none, List.set_cons_zero, List.set_cons_succ]; rfl
       refine hR _ _ ?_; clear hR R)
  refine RY.step (fun R hR => ?_)
  refine RY.one_chain (by first | rfl | (rw [HO.out]; rfl)) rfl (fun K hK => ?_)
  go_wp2_with fail
  rw [← hpv.out]
  refine (locate_any _ n _ p w2 (hT.below hb2) hN HP.out h1 h8).mono ?_
  rintro e w3 ⟨b, cap, S, rfl, hcap, hperm, hasc, hat, hb3⟩
  replace hb3 : Below w2.heap.size w2 w3 := ⟨hb3.os, hb3.tape, hb3.output, hb3.size, hb3.block⟩
  replace c0 := RX.keep hb3 c0
  replace c1 := RX.keep hb3 c1
  replace c2 := RX.keep hb3 c2
  replace c3 := RX.keep hb3 c3
  have HB := Lib.hid (hb2.trans (hb3.mono hb2.size))
  clear hb3 hb2 hN
  have HS : Hid (IsLoc n p S ∧ S.length ≤ cap ∧ SharesAt w3 b S) := Lib.hid ⟨⟨hperm, hasc⟩, hcap, hat⟩
  clear hcap hperm hasc hat
  refine hK _ _ ⟨.inr (⟨c0, c1, c2, c3⟩), hR _ _ ?_⟩; clear hK K hR R
  repeat
    refine RY.step (fun R hR => ?_)
    first
    | (refine RY.one_skip (by first | rfl | (rw [HO.out]; rfl)) (by simp only [RX.put_some, RX.put_none, List.set_cons_zero, List.set_cons_succ]; rfl) ?_
       refine hR _ _ ?_; clear hR R)
    | (refine RY.one_move (by first | rfl | (rw [HO.out]; rfl)) rfl (by first | exact Or.inl rfl | exact Or.inr rfl) (by simp only [RX.eval_tmp, RX.eval_const, List.getD_cons_zero, List.getD_cons_succ]; rfl) (by simp only [RX.put_some, RX.put_none, List.set_cons_zero, List.set_cons_succ]; rfl) ?_
       refine hR _ _ ?_; clear hR R)
    | (refine RY.one_nil (by first | rfl | (rw [HO.out]; rfl)) rfl rfl (by simp only [RX.eval_tmp, RX.eval_const, List.getD_cons_zero, List.getD_cons_succ]; rfl) (by simp only [RX.put_some, RX.put_none, List.set_cons_zero, List.set_cons_succ]; rfl) ?_
       refine hR _ _ ?_; clear hR R)
    | (refine RY.one_float (by first | rfl | (rw [HO.out]; rfl)) rfl rfl rfl ?_
       apply Exists.intro; apply Exists.intro
       refine ⟨fun w' hS K hK => ?_, ?_, ?_⟩
       · obtain ⟨hS1, hS2, hS3, hS4⟩ := hS; go_wp2; exact hK _ _ (by simp only [RX.arr_getD, List.getD_cons_zero, List.getD_cons_succ]; first | exact RX.dec_t (by omega) | exact RX.dec_f (by omega) | exact RX.beq_t (by omega) | exact RX.beq_f (by omega) | exact RX.bne_t (by omega) | exact RX.bne_f (by omega) | exact RX.bneB _ | rfl) rfl
       · simp only [RX.put_some, RX.put_none, List.set_cons_zero, List.set_cons_succ]; rfl
       refine hR _ _ ?_; clear hR R)
  refine RY.wpL_nil (hQR _ _ ?_); clear hQR QR HO OPS
  go_wp2
  go_ret2
  exact ⟨b, cap, S, HS.out.1, rfl, HS.out.2.1, HS.out.2.2, HB.out⟩

set_option maxRecDepth 100000 in
set_option maxHeartbeats 1000000 in
theorem gindex_any (n : Nat) (h1 : 1 ≤ n) (h8 : n ≤ 8) (p : Pl) (hp : p.Ok) (w : World) (hT : HasTab w) : Calls Tryz.prog 45 #[.int .i64 n, pv p] w fun e w' => e = .returned (.tuple #[.int .i64 ((((ix (nodesL n) (normal p)).getD 0 : Nat)) : Int), .int .i64 (idxErr n p)]) ∧ Below w.heap.size w w' := by
  have HP := Lib.hid hp
  have hV : validB p.f p.a p.b p.c = true := by
    have := hp.f; have := hp.s
    unfold validB ValidI; exact decide_eq_true (by omega)
  have hpv : Hid (pv p = .agg #[.int .i64 p.f, .int .i64 p.a, .int .i64 p.b, .int .i64 p.c]) := Lib.hid rfl
  rw [hpv.out]
  go_enter Tryz.func45, Tryz.ntmps45
  go_wp2_with fail
  refine (freq_any n _).mono ?_
  rintro e w1 ⟨rfl, rfl⟩
  rw [freqB_t (show 1 ≤ (n : Int) ∧ (n : Int) ≤ 8 by omega)]
  go_wp2_with fail
  refine (valid_any p.f p.a p.b p.c _).mono ?_
  rintro e w1 ⟨rfl, hb1⟩
  rw [hV]
  have c0 : w1.cell? ⟨w.heap.size, 0, none⟩ = some (.int .i64 p.f) := RX.keep hb1 (by simp [RX.cell_drew, RX.cell_alloc, Nat.add_assoc])
  have c1 : w1.cell? ⟨w.heap.size, 1, none⟩ = some (.int .i64 p.a) := RX.keep hb1 (by simp [RX.cell_drew, RX.cell_alloc, Nat.add_assoc])
  have c2 : w1.cell? ⟨w.heap.size, 2, none⟩ = some (.int .i64 p.b) := RX.keep hb1 (by simp [RX.cell_drew, RX.cell_alloc, Nat.add_assoc])
  have c3 : w1.cell? ⟨w.heap.size, 3, none⟩ = some (.int .i64 p.c) := RX.keep hb1 (by simp [RX.cell_drew, RX.cell_alloc, Nat.add_assoc])
  have hb0 : Below w.heap.size w (w.alloc (.cells #[.int .i64 p.f, .int .i64 p.a, .int .i64 p.b, .int .i64 p.c] 32)) := (by repeat (first | (with_reducible assumption) | (with_reducible exact Below.refl _ _) | (with_reducible refine Below.setCell ?_ (by first | omega | (simp; done) | (simp; omega)) _) | (with_reducible refine Below.alloc ?_ (by first | omega | (simp; done) | (simp; omega)) _) | (with_reducible apply Below.drew) | assumption))
  have hb := hb0.trans (hb1.mono hb0.size)
  clear hb0 hb1
  go_wp2
  refine RY.region RX.fN (fun w' => w'.cell? ⟨w.heap.size, 0, none⟩ = some (.int .i64 p.f) ∧ w'.cell? ⟨w.heap.size, 1, none⟩ = some (.int .i64 p.a) ∧ w'.cell? ⟨w.heap.size, 2, none⟩ = some (.int .i64 p.b) ∧ w'.cell? ⟨w.heap.size, 3, none⟩ = some (.int .i64 p.c)) (by kernel_rfl) (by kernel_rfl) (⟨c0, c1, c2, c3⟩) (fun OPS HO QR hQR => ?_)
  repeat
    refine RY.step (fun R hR => ?_)
    first
    | (refine RY.one_skip (by first | rfl | (rw [HO.out]; rfl)) (by simp only [RX.put_some, RX.put_none, List.set_cons_zero, List.set_cons_succ]; rfl) ?_
       refine hR _ _ ?_; clear hR R)
    | (refine RY.one_move (by first | rfl | (rw [HO.out]; rfl)) rfl (by first | exact Or.inl rfl | exact Or.inr rfl) (by simp only [RX.eval_tmp, RX.eval_const, List.getD_cons_zero, List.getD_cons_succ]; rfl) (by simp only [RX.put_some, RX.put_none, List.set_cons_zero, List.set_cons_succ]; rfl) ?_
       refine hR _ _ ?_; clear hR R)
    | (refine RY.one_nil (by first | rfl | (rw [HO.out]; rfl)) rfl rfl (by simp only [RX.eval_tmp, RX.eval_const, List.getD_cons_zero, List.getD_cons_succ]; rfl) (by simp only [RX.put_some, RX.put_none, List.set_cons_zero, List.set_cons_succ]; rfl) ?_
       refine hR _ _ ?_; clear hR R)
    | (refine RY.one_float (by first | rfl | (rw [HO.out]; rfl)) rfl rfl rfl ?_
       apply Exists.intro; apply Exists.intro
       refine ⟨fun w' hS K hK => ?_, ?_, ?_⟩
       · obtain ⟨hS1, hS2, hS3, hS4⟩ := hS; go_wp2; exact hK _ _ (by simp only [RX.arr_getD, List.getD_cons_zero, List.getD_cons_succ]; first | exact RX.dec_t (by omega) | exact RX.dec_f (by omega) | exact RX.beq_t (by omega) | exact RX.beq_f (by omega) | exact RX.bne_t (by omega) | exact RX.bne_f (by omega) | exact RX.bneB _ | rfl) rfl
       · simp only [RX.put_some, RX.put_none, List.set_cons_zero, List.set_cons_succ]; rfl
       refine hR _ _ ?_; clear hR R)
  refine RY.step (fun R hR => ?_)
  refine RY.one_chain (by first | rfl | (rw [HO.out]; rfl)) rfl (fun K hK => ?_)
  go_wp2_with fail
  have hbd : Below w.heap.size w w1.drew := hb.trans ⟨rfl, rfl, rfl, Nat.le_refl _, fun _ _ => rfl⟩
  refine (points_any n h1 h8 w1.drew (hT.below hbd)).mono ?_
  rintro e w2 ⟨rfl, hN, _, hb2⟩
  replace hb2 : Below w1.heap.size w1 w2 := ⟨hb2.os, hb2.tape, hb2.output, hb2.size, hb2.block⟩
  replace c0 := RX.keep hb2 c0
  replace c1 := RX.keep hb2 c1
  replace c2 := RX.keep hb2 c2
  replace c3 := RX.keep hb2 c3
  replace hb2 := hb.trans (hb2.mono hb.size)
  clear hb hbd
  refine hK _ _ ⟨.inr (⟨c0, c1, c2, c3⟩), hR _ _ ?_⟩; clear hK K hR R
  repeat
    refine RY.step (fun R hR => ?_)
    first
    | (refine RY.one_skip (by first | rfl | (rw [HO.out]; rfl)) (by simp only [RX.put_some, RX.put_none, List.set_cons_zero, List.set_cons_succ]; rfl) ?_
       refine hR _ _ ?_; clear hR R)
    | (refine RY.one_move (by first | rfl | (rw [HO.out]; rfl)) rfl (by first | exact Or.inl rfl | exact Or.inr rfl) (by simp only [RX.eval_tmp, RX.eval_const, List.getD_cons_zero, List.getD_cons_succ]; rfl) (by simp only [RX.put_some, RX.put_none, List.set_cons_zero, List.set_cons_succ]; rfl) ?_
       refine hR _ _ ?_; clear hR R)
    | (refine RY.one_nil (by first | rfl | (rw [HO.out]; rfl)) rfl rfl (by simp only [RX.eval_tmp, RX.eval_const, List.getD_cons_zero, List.getD_cons_succ]; rfl) (by simp only [RX.put_some, RX.put_none, List.set_cons_zero, List.set_cons_succ]; rfl) ?_
       refine hR _ _ ?_; clear hR R)
    | (refine RY.one_float (by first | rfl | (rw [HO.out]; rfl)) rfl rfl rfl ?_
       apply Exists.intro; apply Exists.intro
       refine ⟨fun w' hS K hK => ?_, ?_, ?_⟩
       · obtain ⟨hS1, hS2, hS3, hS4⟩ := hS; go_wp2; exact hK _ _ (by simp only [RX.arr_getD, List.getD_cons_zero, List.getD_cons_succ]; first | exact RX.dec_t (by omega) | exact RX.dec_f (by omega) | exact RX.beq_t (by omega) | exact RX.beq_f (by omega) | exact RX.bne_t (by omega) | exact RX.bne_f (by omega) | exact RX.bneB _ | rfl) rfl
       · simp only [RX.put_some, RX.put_none, List.set_cons_zero, List.set_cons_succ]; rfl
       refine hR _ _ ?_; clear hR R)
  refine RY.step (fun R hR => ?_)
  refine RY.one_chain (by first | rfl | (rw [HO.out]; rfl)) rfl (fun K hK => ?_)
  go_wp2_with fail
  rw [← hpv.out]
  refine (index_any _ n _ (nodesL n) p w2 (hT.below hb2) hN HP.out).mono ?_
  rintro e w3 ⟨rfl, hb3⟩
  replace hb3 : Below w2.heap.size w2 w3 := ⟨hb3.os, hb3.tape, hb3.output, hb3.size, hb3.block⟩
  replace c0 := RX.keep hb3 c0
  replace c1 := RX.keep hb3 c1
  replace c2 := RX.keep hb3 c2
  replace c3 := RX.keep hb3 c3
  have HB := Lib.hid (hb2.trans (hb3.mono hb2.size))
  clear hb3 hb2 hN
  refine hK _ _ ⟨.inr (⟨c0, c1, c2, c3⟩), hR _ _ ?_⟩; clear hK K hR R
  repeat
    refine RY.step (fun R hR => ?_)
    first
    | (refine RY.one_skip (by first | rfl | (rw [HO.out]; rfl)) (by simp only [RX.put_some, RX.put_none, List.set_cons_zero, List.set_cons_succ]; rfl) ?_
       refine hR _ _ ?_; clear hR R)
    | (refine RY.one_move (by first | rfl | (rw [HO.out]; rfl)) rfl (by first | exact Or.inl rfl | exact Or.inr rfl) (by simp only [RX.eval_tmp, RX.eval_const, List.getD_cons_zero, List.getD_cons_succ]; rfl) (by simp only [RX.put_some, RX.put_none, List.set_cons_zero, List.set_cons_succ]; rfl) ?_
       refine hR _ _ ?_; clear hR R)
    | (refine RY.one_nil (by first | rfl | (rw [HO.out]; rfl)) rfl rfl (by simp only [RX.eval_tmp, RX.eval_const, List.getD_cons_zero, List.getD_cons_succ]; rfl) (by simp only [RX.put_some, RX.put_none, List.set_cons_zero, List.set_cons_succ]; rfl) ?_
       refine hR _ _ ?_; clear hR R)
    | (refine RY.one_float (by first | rfl | (rw [HO.out]; rfl)) rfl rfl rfl ?_
       apply Exists.intro; apply Exists.intro
       refine ⟨fun w' hS K hK => ?_, ?_, ?_⟩
       · obtain ⟨hS1, hS2, hS3, hS4⟩ := hS; go_wp2; exact hK _ _ (by simp only [RX.arr_getD, List.getD_cons_zero, List.getD_cons_succ]; first | exact RX.dec_t (by omega) | exact RX.dec_f (by omega) | exact RX.beq_t (by omega) | exact RX.beq_f (by omega) | exact RX.bne_t (by omega) | exact RX.bne_f (by omega) | exact RX.bneB _ | rfl) rfl
       · simp only [RX.put_some, RX.put_none, List.set_cons_zero, List.set_cons_succ]; rfl
       refine hR _ _ ?_; clear hR R)
  refine RY.wpL_nil (hQR _ _ ?_); clear hQR QR HO OPS
  cases hi : (ix (nodesL n) (normal p)).isSome
  · have HE : Hid ((ix (nodesL n) (normal p)).getD 0 = 0 ∧ idxErr n p = 9) := Lib.hid ⟨by rw [show ix (nodesL n) (normal p) = none by simpa using hi]; rfl, by unfold idxErr; rw [hi]; rfl⟩
    clear hi
    go_wp2
    go_ret2
    rw [HE.out.1, HE.out.2]
    exact ⟨rfl, HB.out⟩
  · have HE : Hid (idxErr n p = 0) := Lib.hid (by unfold idxErr; rw [hi]; rfl)
    clear hi
    go_wp2
    go_ret2
    rw [HE.out]
    exact ⟨rfl, HB.out⟩

set_option maxRecDepth 100000 in
/-- grid.Nodes at a frequency that exists. -/
theorem gnodes_any (n : Nat) (h1 : 1 ≤ n) (h8 : n ≤ 8) (w : World) (hT : HasTab w) : Calls Tryz.prog 9 #[.int .i64 n] w fun e w' => ∃ b cap, e = .returned (.tuple #[.slice (some ⟨b, 0, none⟩) (nodesL n).length cap, .int .i64 0]) ∧ (nodesL n).length ≤ cap ∧ w'.ownsRow (w.heap.size + 2) 32 4 (.slice (some ⟨b, 0, none⟩) (nodesL n).length cap) (nodesL n).length (plVals (nodesL n)) ∧ Below w.heap.size w w' := by
  have hl : 0 < (nodesL n).length := by rw [nodes_len h1 h8]; omega
  go_enter Tryz.func9, Tryz.ntmps9
  go_wp2_with fail
  refine (freq_any n _).mono ?_
  rintro e w1 ⟨rfl, rfl⟩
  rw [freqB_t (show 1 ≤ (n : Int) ∧ (n : Int) ≤ 8 by omega)]
  go_wp2_with fail
  refine (points_any n h1 h8 _ hT).mono ?_
  rintro e w2 ⟨rfl, hN, _, hb⟩
  obtain ⟨v, B, e2, _, hown, _, _⟩ := hN.nd
  obtain ⟨b, cap, cur, rfl, hc, _, _⟩ := own_some hown (by omega)
  have HK := Lib.hid (And.intro hc (And.intro hown hb))
  clear hN hown hb
  go_wp2
  go_ret2
  exact ⟨b, cap, rfl, HK.out.1, HK.out.2.1, HK.out.2.2⟩
end Go.Proofs.YtlfhildbjipheaaGreatDoor
