import Derived.Test.YtpbfgnffkhabnaaDoorPoints
set_option linter.unusedSimpArgs false
set_option linter.unusedVariables false
namespace Go.Proofs.YtpbfgnffkhabnaaDoor
open Go.RowKit Go.Grid Go.Maps

theorem wp_look {o : Oper} {a : Act} {w : World} {K : Act → World → Prop} {Q : Exit → Act → World → Prop} (m x : Operand) (ho : o.op = .lookup 97 m x false) (B : Nat) (L : List Pl) (p : Pl) (hI : IdxMap w B L) (hp : Fits p)
    (hm : a.eval m = .map (some B)) (hx : a.eval x = pv p) (h : K (a.put o.dst (.int .i64 (((ix L p).getD 0 : Nat) : Int))) w) : o.wp Tryd.prog a w K Q := by
  obtain ⟨D, hown, hr⟩ := hI
  obtain ⟨kp, hkp⟩ := key_pl p hp
  obtain ⟨c, hrun, hat, _⟩ := hown.lookup_int lawPl Tryd.underlying97 Tryd.underlying3 (zeroI w) hkp
  have h1 := (hr p kp hp hkp).1
  rw [hat] at h1
  simp at h1
  subst h1
  unfold Oper.wp
  simp [execOp, ho, hm, hx, hrun, Result.andThen]
  exact h
theorem wp_lookOk {o : Oper} {a : Act} {w : World} {K : Act → World → Prop} {Q : Exit → Act → World → Prop} (m x : Operand) (ho : o.op = .lookup 97 m x true) (B : Nat) (L : List Pl) (p : Pl) (hI : IdxMap w B L) (hp : Fits p)
    (hm : a.eval m = .map (some B)) (hx : a.eval x = pv p) (h : K (a.put o.dst (.tuple #[.int .i64 (((ix L p).getD 0 : Nat) : Int), .bool (ix L p).isSome])) w) : o.wp Tryd.prog a w K Q := by
  obtain ⟨D, hown, hr⟩ := hI
  obtain ⟨kp, hkp⟩ := key_pl p hp
  obtain ⟨v, ps, hrun, hv⟩ := hown.look_ok lawPl Tryd.underlying97 (zeroI w) (plainElem_int Tryd.underlying3 (by decide)) hkp
  obtain ⟨c, rfl, hc, _⟩ := plainElem_int_inv Tryd.underlying3 hv
  have h1 := hr p kp hp hkp
  have h2 := h1.1
  simp at hc
  rw [hc.1] at h2
  simp at h2
  subst h2
  rw [h1.2] at hrun
  unfold Oper.wp
  simp [execOp, ho, hm, hx, hrun, Result.andThen]
  exact h

set_option maxRecDepth 100000 in
set_option maxHeartbeats 1000000 in
theorem at_any (g n base : Nat) (L : List Pl) (q : Pl) (w : World) (hT : HasTab w) (hN : NetAt w g n base L) (hq : q.Ok) :
    Calls Tryd.prog 84 #[.pointer (some ⟨g, 0, none⟩), pv q] w fun e w' => e = .returned (.int .i64 (((ix L (normal q)).getD 0 : Nat) : Int)) ∧ Below w.heap.size w w' := by
  have HQ := Lib.hid hq
  have hpv : Hid (pv q = .agg #[.int .i64 q.f, .int .i64 q.a, .int .i64 q.b, .int .i64 q.c]) := Lib.hid rfl
  rw [hpv.out]
  go_enter Tryd.func84, Tryd.ntmps84
  go_wp2_with fail
  refine (normal_any q HQ.out _ ?_).mono ?_
  · exact hT.below (by repeat (first | assumption | (with_reducible exact Below.refl _ _) | (with_reducible refine Below.setCell ?_ (by first | omega | (simp; done) | (simp; omega)) _) | (with_reducible refine Below.alloc ?_ (by first | omega | (simp; done) | (simp; omega)) _) | (with_reducible apply Below.drew)))
  rintro e w1 ⟨rfl, hb1⟩
  have hb2 : Below w.heap.size w w1 := Below.trans (by repeat (first | assumption | (with_reducible exact Below.refl _ _) | (with_reducible refine Below.setCell ?_ (by first | omega | (simp; done) | (simp; omega)) _) | (with_reducible refine Below.alloc ?_ (by first | omega | (simp; done) | (simp; omega)) _) | (with_reducible apply Below.drew))) (hb1.mono (by simp))
  have hN1 := hN.below hb2
  have hn := normal_ok hq
  clear hb1 hN hq
  obtain ⟨r, hr⟩ : ∃ r, r = normal q := ⟨_, rfl⟩
  rw [← hr] at hn ⊢
  have HRQ := Lib.hid hr
  clear hr
  have HR := Lib.hid hn
  clear hn
  unfold pv
  go_wp2
  have hN2 := hN1.below ((Below.refl _ w1).alloc (Nat.le_refl _) (.cells #[.int .i64 r.f, .int .i64 r.a, .int .i64 r.b, .int .i64 r.c] 23))
  obtain ⟨v, B, e2, e3, hown, hix, hBg⟩ := hN2.nd
  have HB : Hid (Below w.heap.size w (w1.alloc (.cells #[.int .i64 r.f, .int .i64 r.a, .int .i64 r.b, .int .i64 r.c] 23))) := Lib.hid (hb2.alloc hb2.size _)
  clear hN1 hb2
  refine RX.region RX.fN (fun w' => w' = (w1.alloc (.cells #[.int .i64 r.f, .int .i64 r.a, .int .i64 r.b, .int .i64 r.c] 23)).drew) (by kernel_rfl) (by kernel_rfl) (rfl) (fun OPS HO QR hQR => ?_)
  repeat
    refine RX.step (fun R hR => ?_)
    first
    | (refine RX.one_skip (by first | rfl | (rw [HO.out]; rfl)) (by simp only [RX.put_some, RX.put_none, List.set_cons_zero, List.set_cons_succ]; rfl) ?_
       refine hR _ _ ?_; clear hR R)
    | (refine RX.one_move (by first | rfl | (rw [HO.out]; rfl)) rfl (by first | exact Or.inl rfl | exact Or.inr rfl) (by simp only [RX.eval_tmp, RX.eval_const, List.getD_cons_zero, List.getD_cons_succ]; rfl) (by simp only [RX.put_some, RX.put_none, List.set_cons_zero, List.set_cons_succ]; rfl) ?_
       refine hR _ _ ?_; clear hR R)
    | (refine RX.one_nil (by first | rfl | (rw [HO.out]; rfl)) rfl rfl (by simp only [RX.eval_tmp, RX.eval_const, List.getD_cons_zero, List.getD_cons_succ]; rfl) (by simp only [RX.put_some, RX.put_none, List.set_cons_zero, List.set_cons_succ]; rfl) ?_
       refine hR _ _ ?_; clear hR R)
    | (refine RX.one_float (by first | rfl | (rw [HO.out]; rfl)) rfl rfl rfl ?_
       apply Exists.intro; apply Exists.intro
       refine ⟨fun w' hS K hK => ?_, ?_, ?_⟩
       · subst hS; go_wp2; exact hK _ _ (by simp only [RX.arr_getD, List.getD_cons_zero, List.getD_cons_succ]; first | exact RX.dec_t (by omega) | exact RX.dec_f (by omega) | exact RX.beq_t (by omega) | exact RX.beq_f (by omega) | exact RX.bne_t (by omega) | exact RX.bne_f (by omega) | exact RX.bneB _ | rfl) rfl
       · simp only [RX.put_some, RX.put_none, List.set_cons_zero, List.set_cons_succ]; rfl
       refine hR _ _ ?_; clear hR R)
  refine RX.step (fun R hR => ?_)
  refine RX.one_chain (by first | rfl | (rw [HO.out]; rfl)) rfl (fun K hK => ?_)
  refine wp_look _ _ rfl B L r hix.drew (Ok.fits HR.out) (by simp only [RX.eval_tmp, RX.eval_const, List.getD_cons_zero, List.getD_cons_succ]) (by simp only [RX.eval_tmp, List.getD_cons_zero, List.getD_cons_succ]; rfl) ?_
  refine hK _ _ ⟨rfl, ?_⟩; clear hK K; refine RX.at_ (by simp only [RX.put_some, RX.put_none, List.set_cons_zero, List.set_cons_succ]; rfl) (hR _ _ ?_); clear hR R
  repeat
    refine RX.step (fun R hR => ?_)
    first
    | (refine RX.one_skip (by first | rfl | (rw [HO.out]; rfl)) (by simp only [RX.put_some, RX.put_none, List.set_cons_zero, List.set_cons_succ]; rfl) ?_
       refine hR _ _ ?_; clear hR R)
    | (refine RX.one_move (by first | rfl | (rw [HO.out]; rfl)) rfl (by first | exact Or.inl rfl | exact Or.inr rfl) (by simp only [RX.eval_tmp, RX.eval_const, List.getD_cons_zero, List.getD_cons_succ]; rfl) (by simp only [RX.put_some, RX.put_none, List.set_cons_zero, List.set_cons_succ]; rfl) ?_
       refine hR _ _ ?_; clear hR R)
    | (refine RX.one_nil (by first | rfl | (rw [HO.out]; rfl)) rfl rfl (by simp only [RX.eval_tmp, RX.eval_const, List.getD_cons_zero, List.getD_cons_succ]; rfl) (by simp only [RX.put_some, RX.put_none, List.set_cons_zero, List.set_cons_succ]; rfl) ?_
       refine hR _ _ ?_; clear hR R)
    | (refine RX.one_float (by first | rfl | (rw [HO.out]; rfl)) rfl rfl rfl ?_
       apply Exists.intro; apply Exists.intro
       refine ⟨fun w' hS K hK => ?_, ?_, ?_⟩
       · subst hS; go_wp2; exact hK _ _ (by simp only [RX.arr_getD, List.getD_cons_zero, List.getD_cons_succ]; first | exact RX.dec_t (by omega) | exact RX.dec_f (by omega) | exact RX.beq_t (by omega) | exact RX.beq_f (by omega) | exact RX.bne_t (by omega) | exact RX.bne_f (by omega) | exact RX.bneB _ | rfl) rfl
       · simp only [RX.put_some, RX.put_none, List.set_cons_zero, List.set_cons_succ]; rfl
       refine hR _ _ ?_; clear hR R)
  refine RX.wpL_nil (hQR _ _ (rfl) ?_); clear hQR QR HO OPS
  go_wp2
  go_ret
  rw [← HRQ.out]
  exact ⟨rfl, HB.out.drew⟩

set_option maxRecDepth 100000 in
set_option maxHeartbeats 1000000 in
theorem index_any (g n base : Nat) (L : List Pl) (q : Pl) (w : World) (hT : HasTab w) (hN : NetAt w g n base L) (hq : q.Ok) :
    Calls Tryd.prog 56 #[.pointer (some ⟨g, 0, none⟩), pv q] w fun e w' => e = .returned (.tuple #[.int .i64 (((ix L (normal q)).getD 0 : Nat) : Int), .bool (ix L (normal q)).isSome]) ∧ Below w.heap.size w w' := by
  have HQ := Lib.hid hq
  have hpv : Hid (pv q = .agg #[.int .i64 q.f, .int .i64 q.a, .int .i64 q.b, .int .i64 q.c]) := Lib.hid rfl
  rw [hpv.out]
  go_enter Tryd.func56, Tryd.ntmps56
  go_wp2_with fail
  refine (normal_any q HQ.out _ ?_).mono ?_
  · exact hT.below (by repeat (first | assumption | (with_reducible exact Below.refl _ _) | (with_reducible refine Below.setCell ?_ (by first | omega | (simp; done) | (simp; omega)) _) | (with_reducible refine Below.alloc ?_ (by first | omega | (simp; done) | (simp; omega)) _) | (with_reducible apply Below.drew)))
  rintro e w1 ⟨rfl, hb1⟩
  have hb2 : Below w.heap.size w w1 := Below.trans (by repeat (first | assumption | (with_reducible exact Below.refl _ _) | (with_reducible refine Below.setCell ?_ (by first | omega | (simp; done) | (simp; omega)) _) | (with_reducible refine Below.alloc ?_ (by first | omega | (simp; done) | (simp; omega)) _) | (with_reducible apply Below.drew))) (hb1.mono (by simp))
  have hN1 := hN.below hb2
  have hn := normal_ok hq
  clear hb1 hN hq
  obtain ⟨r, hr⟩ : ∃ r, r = normal q := ⟨_, rfl⟩
  rw [← hr] at hn ⊢
  have HRQ := Lib.hid hr
  clear hr
  have HR := Lib.hid hn
  clear hn
  unfold pv
  go_wp2
  have hN2 := hN1.below ((Below.refl _ w1).alloc (Nat.le_refl _) (.cells #[.int .i64 r.f, .int .i64 r.a, .int .i64 r.b, .int .i64 r.c] 23))
  obtain ⟨v, B, e2, e3, hown, hix, hBg⟩ := hN2.nd
  have HB : Hid (Below w.heap.size w (w1.alloc (.cells #[.int .i64 r.f, .int .i64 r.a, .int .i64 r.b, .int .i64 r.c] 23))) := Lib.hid (hb2.alloc hb2.size _)
  clear hN1 hb2
  refine RX.region RX.fN (fun w' => w' = (w1.alloc (.cells #[.int .i64 r.f, .int .i64 r.a, .int .i64 r.b, .int .i64 r.c] 23)).drew) (by kernel_rfl) (by kernel_rfl) (rfl) (fun OPS HO QR hQR => ?_)
  repeat
    refine RX.step (fun R hR => ?_)
    first
    | (refine RX.one_skip (by first | rfl | (rw [HO.out]; rfl)) (by simp only [RX.put_some, RX.put_none, List.set_cons_zero, List.set_cons_succ]; rfl) ?_
       refine hR _ _ ?_; clear hR R)
    | (refine RX.one_move (by first | rfl | (rw [HO.out]; rfl)) rfl (by first | exact Or.inl rfl | exact Or.inr rfl) (by simp only [RX.eval_tmp, RX.eval_const, List.getD_cons_zero, List.getD_cons_succ]; rfl) (by simp only [RX.put_some, RX.put_none, List.set_cons_zero, List.set_cons_succ]; rfl) ?_
       refine hR _ _ ?_; clear hR R)
    | (refine RX.one_nil (by first | rfl | (rw [HO.out]; rfl)) rfl rfl (by simp only [RX.eval_tmp, RX.eval_const, List.getD_cons_zero, List.getD_cons_succ]; rfl) (by simp only [RX.put_some, RX.put_none, List.set_cons_zero, List.set_cons_succ]; rfl) ?_
       refine hR _ _ ?_; clear hR R)
    | (refine RX.one_float (by first | rfl | (rw [HO.out]; rfl)) rfl rfl rfl ?_
       apply Exists.intro; apply Exists.intro
       refine ⟨fun w' hS K hK => ?_, ?_, ?_⟩
       · subst hS; go_wp2; exact hK _ _ (by simp only [RX.arr_getD, List.getD_cons_zero, List.getD_cons_succ]; first | exact RX.dec_t (by omega) | exact RX.dec_f (by omega) | exact RX.beq_t (by omega) | exact RX.beq_f (by omega) | exact RX.bne_t (by omega) | exact RX.bne_f (by omega) | exact RX.bneB _ | rfl) rfl
       · simp only [RX.put_some, RX.put_none, List.set_cons_zero, List.set_cons_succ]; rfl
       refine hR _ _ ?_; clear hR R)
  refine RX.step (fun R hR => ?_)
  refine RX.one_chain (by first | rfl | (rw [HO.out]; rfl)) rfl (fun K hK => ?_)
  refine wp_lookOk _ _ rfl B L r hix.drew (Ok.fits HR.out) (by simp only [RX.eval_tmp, RX.eval_const, List.getD_cons_zero, List.getD_cons_succ]) (by simp only [RX.eval_tmp, List.getD_cons_zero, List.getD_cons_succ]; rfl) ?_
  refine hK _ _ ⟨rfl, ?_⟩; clear hK K; refine RX.at_ (by simp only [RX.put_some, RX.put_none, List.set_cons_zero, List.set_cons_succ]; rfl) (hR _ _ ?_); clear hR R
  repeat
    refine RX.step (fun R hR => ?_)
    first
    | (refine RX.one_skip (by first | rfl | (rw [HO.out]; rfl)) (by simp only [RX.put_some, RX.put_none, List.set_cons_zero, List.set_cons_succ]; rfl) ?_
       refine hR _ _ ?_; clear hR R)
    | (refine RX.one_move (by first | rfl | (rw [HO.out]; rfl)) rfl (by first | exact Or.inl rfl | exact Or.inr rfl) (by simp only [RX.eval_tmp, RX.eval_const, List.getD_cons_zero, List.getD_cons_succ]; rfl) (by simp only [RX.put_some, RX.put_none, List.set_cons_zero, List.set_cons_succ]; rfl) ?_
       refine hR _ _ ?_; clear hR R)
    | (refine RX.one_nil (by first | rfl | (rw [HO.out]; rfl)) rfl rfl (by simp only [RX.eval_tmp, RX.eval_const, List.getD_cons_zero, List.getD_cons_succ]; rfl) (by simp only [RX.put_some, RX.put_none, List.set_cons_zero, List.set_cons_succ]; rfl) ?_
       refine hR _ _ ?_; clear hR R)
    | (refine RX.one_float (by first | rfl | (rw [HO.out]; rfl)) rfl rfl rfl ?_
       apply Exists.intro; apply Exists.intro
       refine ⟨fun w' hS K hK => ?_, ?_, ?_⟩
       · subst hS; go_wp2; exact hK _ _ (by simp only [RX.arr_getD, List.getD_cons_zero, List.getD_cons_succ]; first | exact RX.dec_t (by omega) | exact RX.dec_f (by omega) | exact RX.beq_t (by omega) | exact RX.beq_f (by omega) | exact RX.bne_t (by omega) | exact RX.bne_f (by omega) | exact RX.bneB _ | rfl) rfl
       · simp only [RX.put_some, RX.put_none, List.set_cons_zero, List.set_cons_succ]; rfl
       refine hR _ _ ?_; clear hR R)
  refine RX.wpL_nil (hQR _ _ (rfl) ?_); clear hQR QR HO OPS
  go_wp2
  go_ret2
  rw [← HRQ.out]
  exact ⟨rfl, HB.out.drew⟩

set_option maxRecDepth 100000 in
set_option maxHeartbeats 1000000 in
/-- moved, at numbers that do not wrap. -/
theorem moved_any (p : Pl) (da db dc : Int) (a b c : Nat) (w : World) (ha : (p.a : Int) + da = a) (hb : (p.b : Int) + db = b) (hc : (p.c : Int) + dc = c) (h1 : p.a ≤ 2000 ∧ p.b ≤ 2000 ∧ p.c ≤ 2000) (h2 : a ≤ 2000 ∧ b ≤ 2000 ∧ c ≤ 2000) :
    Calls Tryd.prog 83 #[pv p, .int .i64 da, .int .i64 db, .int .i64 dc] w fun e w' => e = .returned (pv ⟨p.f, a, b, c⟩) ∧ Below w.heap.size w w' := by
  unfold pv
  go_enter Tryd.func83, Tryd.ntmps83
  go_wp2
  refine bodyPost_ret (v := .agg #[.int .i64 p.f, .int .i64 a, .int .i64 b, .int .i64 c]) ?_ rfl ⟨rfl, ?_⟩
  · simp [results, Tryd.results83, go_sem]
  · exact (by repeat (first | assumption | (with_reducible exact Below.refl _ _) | (with_reducible refine Below.setCell ?_ (by first | omega | (simp; done) | (simp; omega)) _) | (with_reducible refine Below.alloc ?_ (by first | omega | (simp; done) | (simp; omega)) _) | (with_reducible apply Below.drew)))
end Go.Proofs.YtpbfgnffkhabnaaDoor
