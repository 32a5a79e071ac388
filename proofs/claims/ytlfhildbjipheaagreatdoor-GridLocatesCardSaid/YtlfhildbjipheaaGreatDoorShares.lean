import Derived.Test.YtlfhildbjipheaaGreatDoorKRegion
import Derived.Test.YtlfhildbjipheaaGreatDoorGridL
set_option linter.unusedSimpArgs false
set_option linter.unusedVariables false
namespace Go.Proofs.YtlfhildbjipheaaGreatDoor
open Go.RowKit Go.Sort Go.Shelf Go.Grid

/-- A readable slice of shares. -/
def SharesIn (w : World) (p : Option Addr) (S : List (Nat × Nat)) : Prop := ∃ b, (0 < S.length → p = some ⟨b, 0, none⟩) ∧ SharesAt w b S
def eqB (S T : List (Nat × Nat)) : Bool := decide (S = T)

set_option maxRecDepth 100000 in
set_option maxHeartbeats 1000000 in
/-- ref03.Shares -/
theorem shares_any (w : World) (p q : Option Addr) (cp cq : Nat) (S T : List (Nat × Nat)) (hS : SharesIn w p S) (hT : SharesIn w q T) (hs : S.length ≤ cp) (ht : T.length ≤ cq) (hl : S.length ≤ 1000000) (hl2 : T.length ≤ 1000000) :
    Calls Tryz.prog 40 #[.slice p S.length cp, .slice q T.length cq] w fun e w' => e = .returned (.bool (eqB S T)) ∧ Below w.heap.size w w' := by
  obtain ⟨bs, hp, hS⟩ := hS
  obtain ⟨bt, hq, hT⟩ := hT
  have HS := Lib.hid (And.intro hp hS)
  have HT := Lib.hid (And.intro hq hT)
  clear hp hS hq hT
  by_cases hne : S.length = T.length
  · have HN := Lib.hid hne
    have hb : ((S.length : Int) == (T.length : Int)) = true := by rw [beq_iff_eq]; omega
    have hb2 : ((S.length : Int) != (T.length : Int)) = false := by rw [bne, hb]; rfl
    clear hne
    go_enter Tryz.func40, Tryz.ntmps40
    go_wp2
    go_loopw [5] (fun i wr => ∃ k : Nat, k ≤ S.length ∧ i = .int .i64 k ∧ Hid (S.take k = T.take k) ∧ Below w.heap.size w wr) (fun i _ => S.length - (intOf i).toNat)
    case atStart => exact ⟨0, Nat.zero_le _, rfl, Lib.hid rfl, (by repeat (first | (with_reducible assumption) | (with_reducible exact Below.refl _ _) | (with_reducible refine Below.setCell ?_ (by first | omega | (simp; done) | (simp; omega)) _) | (with_reducible refine Below.alloc ?_ (by first | omega | (simp; done) | (simp; omega)) _) | (with_reducible apply Below.drew) | assumption))⟩
    case round =>
      obtain ⟨k, hk, rfl, HK, hB⟩ := hrel
      by_cases hlt : k < S.length
      · have hlt' : k < T.length := by have := HN.out; omega
        have hdk : decide ((k : Int) < (S.length : Int)) = true := decide_eq_true (by omega)
        obtain rfl := HS.out.1 (by omega)
        obtain rfl := HT.out.1 (by omega)
        have ck := HS.out.2 k hlt
        have dk := HT.out.2 k hlt'
        obtain ⟨c0, c1⟩ := ck
        obtain ⟨d0, d1⟩ := dk
        have HX : Hid (S.take (k + 1) = S.take k ++ [S[k]] ∧ T.take (k + 1) = T.take k ++ [T[k]] ∧ (S = T → S[k] = T[k])) := Lib.hid ⟨List.take_succ_eq_append_getElem hlt, List.take_succ_eq_append_getElem hlt', fun h => by subst h; rfl⟩
        obtain ⟨x, hx⟩ : ∃ x, x = S[k] := ⟨_, rfl⟩
        obtain ⟨y, hy⟩ : ∃ y, y = T[k] := ⟨_, rfl⟩
        rw [← hx] at c0 c1 HX
        rw [← hy] at d0 d1 HX
        clear hx hy
        obtain ⟨x0, x1⟩ := x
        obtain ⟨y0, y1⟩ := y
        dsimp only at c0 c1 d0 d1
        replace c0 := RX.keep hB c0
        replace c1 := RX.keep hB c1
        replace d0 := RX.keep hB d0
        replace d1 := RX.keep hB d1
        have hk0 : (0 : Int) ≤ (k : Int) := by omega
        have hkl : (k : Int) < (S.length : Int) := by omega
        have hkl' : (k : Int) < (T.length : Int) := by omega
        by_cases e0 : x0 = y0
        · by_cases e1 : x1 = y1
          · have b0 : ((x0 : Int) == (y0 : Int)) = true := by rw [beq_iff_eq]; omega
            have b1 : ((x1 : Int) == (y1 : Int)) = true := by rw [beq_iff_eq]; omega
            have HE : Hid ((x0, x1) = (y0, y1)) := Lib.hid (by rw [e0, e1])
            clear e0 e1
            go_wp2
            refine RX.region RX.fN (fun w' => w' = _) (by kernel_rfl) (by kernel_rfl) rfl (fun OPS HO QR hQR => ?_)
            repeat
              refine RX.step (fun R hR => ?_)
              first
              | (refine RX.one_skip (by first | rfl | (rw [HO.out]; rfl)) (by simp only [RX.put_some, RX.put_none, List.set_cons_zero, List.set_cons_succ]; rfl) ?_
                 refine hR _ _ ?_; clear hR R)
              | (refine RX.one_move (by first | rfl | (rw [HO.out]; rfl)) rfl (by first | exact Or.inl rfl | exact Or.inr rfl) (by simp only [RX.eval_tmp, RX.eval_const, List.getD_cons_zero, List.getD_cons_succ]; rfl) (by simp only [RX.put_some, RX.put_none, List.set_cons_zero, List.set_cons_succ]; rfl) ?_
                 refine hR _ _ ?_; clear hR R)
              | (refine RX.one_nil (by first | rfl | (rw [HO.out]; rfl)) rfl rfl (by simp only [RX.eval_tmp, RX.eval_const, List.getD_cons_zero, List.getD_cons_succ]; rfl) (by simp only [RX.put_some, RX.put_none, List.set_cons_zero, List.set_cons_succ]; rfl) ?_
                 refine hR _ _ ?_; clear hR R)
              | (refine RX.one_float (by first | rfl | (rw [HO.out]; rfl)) rfl rfl rfl ?_
                 apply Exists.intro; apply Exists.intro
                 refine ⟨fun w' hS K hK => ?_, ?_, ?_⟩
                 · subst hS; go_wp2; exact hK _ _ (by simp only [RX.arr_getD, List.getD_cons_zero, List.getD_cons_succ]; first | exact RX.dec_t (by omega) | exact RX.dec_f (by omega) | exact RX.beq_t (by omega) | exact RX.beq_f (by omega) | exact RX.bne_t (by omega) | exact RX.bne_f (by omega) | exact RX.bneB _ | rfl) rfl
                 · simp only [RX.put_some, RX.put_none, List.set_cons_zero, List.set_cons_succ]; rfl
                 refine hR _ _ ?_; clear hR R)
            refine RX.wpL_nil (hQR _ _ rfl ?_); clear hQR QR HO OPS
            go_wp2
            go_roundw
            case rel => exact ⟨k + 1, by omega, by go_num, Lib.hid (by rw [HX.out.1, HX.out.2.1, HK.out, HE.out]), (by repeat (first | (with_reducible assumption) | (with_reducible exact Below.refl _ _) | (with_reducible refine Below.setCell ?_ (by first | omega | (simp; done) | (simp; omega)) _) | (with_reducible refine Below.alloc ?_ (by first | omega | (simp; done) | (simp; omega)) _) | (with_reducible apply Below.drew) | assumption))⟩
            case measure => simp [intOf]; omega
          · have b0 : ((x0 : Int) == (y0 : Int)) = true := by rw [beq_iff_eq]; omega
            have b1 : ((x1 : Int) == (y1 : Int)) = false := by rw [beq_eq_false_iff_ne]; omega
            have HE : Hid (eqB S T = false) := Lib.hid (by unfold eqB; exact decide_eq_false (fun h => by have h3 := HX.out.2.2 h; injection h3 with h4 h5; omega))
            clear e0 e1
            go_wp2
            refine RX.region RX.fN (fun w' => w' = _) (by kernel_rfl) (by kernel_rfl) rfl (fun OPS HO QR hQR => ?_)
            repeat
              refine RX.step (fun R hR => ?_)
              first
              | (refine RX.one_skip (by first | rfl | (rw [HO.out]; rfl)) (by simp only [RX.put_some, RX.put_none, List.set_cons_zero, List.set_cons_succ]; rfl) ?_
                 refine hR _ _ ?_; clear hR R)
              | (refine RX.one_move (by first | rfl | (rw [HO.out]; rfl)) rfl (by first | exact Or.inl rfl | exact Or.inr rfl) (by simp only [RX.eval_tmp, RX.eval_const, List.getD_cons_zero, List.getD_cons_succ]; rfl) (by simp only [RX.put_some, RX.put_none, List.set_cons_zero, List.set_cons_succ]; rfl) ?_
                 refine hR _ _ ?_; clear hR R)
              | (refine RX.one_nil (by first | rfl | (rw [HO.out]; rfl)) rfl rfl (by simp only [RX.eval_tmp, RX.eval_const, List.getD_cons_zero, List.getD_cons_succ]; rfl) (by simp only [RX.put_some, RX.put_none, List.set_cons_zero, List.set_cons_succ]; rfl) ?_
                 refine hR _ _ ?_; clear hR R)
              | (refine RX.one_float (by first | rfl | (rw [HO.out]; rfl)) rfl rfl rfl ?_
                 apply Exists.intro; apply Exists.intro
                 refine ⟨fun w' hS K hK => ?_, ?_, ?_⟩
                 · subst hS; go_wp2; exact hK _ _ (by simp only [RX.arr_getD, List.getD_cons_zero, List.getD_cons_succ]; first | exact RX.dec_t (by omega) | exact RX.dec_f (by omega) | exact RX.beq_t (by omega) | exact RX.beq_f (by omega) | exact RX.bne_t (by omega) | exact RX.bne_f (by omega) | exact RX.bneB _ | rfl) rfl
                 · simp only [RX.put_some, RX.put_none, List.set_cons_zero, List.set_cons_succ]; rfl
                 refine hR _ _ ?_; clear hR R)
            refine RX.wpL_nil (hQR _ _ rfl ?_); clear hQR QR HO OPS
            go_wp2
            go_ret
            rw [HE.out]; exact ⟨rfl, (by repeat (first | (with_reducible assumption) | (with_reducible exact Below.refl _ _) | (with_reducible refine Below.setCell ?_ (by first | omega | (simp; done) | (simp; omega)) _) | (with_reducible refine Below.alloc ?_ (by first | omega | (simp; done) | (simp; omega)) _) | (with_reducible apply Below.drew) | assumption))⟩
        · by_cases e1 : x1 = y1
          · have b0 : ((x0 : Int) == (y0 : Int)) = false := by rw [beq_eq_false_iff_ne]; omega
            have b1 : ((x1 : Int) == (y1 : Int)) = true := by rw [beq_iff_eq]; omega
            have HE : Hid (eqB S T = false) := Lib.hid (by unfold eqB; exact decide_eq_false (fun h => by have h3 := HX.out.2.2 h; injection h3 with h4 h5; omega))
            clear e0 e1
            go_wp2
            refine RX.region RX.fN (fun w' => w' = _) (by kernel_rfl) (by kernel_rfl) rfl (fun OPS HO QR hQR => ?_)
            repeat
              refine RX.step (fun R hR => ?_)
              first
              | (refine RX.one_skip (by first | rfl | (rw [HO.out]; rfl)) (by simp only [RX.put_some, RX.put_none, List.set_cons_zero, List.set_cons_succ]; rfl) ?_
                 refine hR _ _ ?_; clear hR R)
              | (refine RX.one_move (by first | rfl | (rw [HO.out]; rfl)) rfl (by first | exact Or.inl rfl | exact Or.inr rfl) (by simp only [RX.eval_tmp, RX.eval_const, List.getD_cons_zero, List.getD_cons_succ]; rfl) (by simp only [RX.put_some, RX.put_none, List.set_cons_zero, List.set_cons_succ]; rfl) ?_
                 refine hR _ _ ?_; clear hR R)
              | (refine RX.one_nil (by first | rfl | (rw [HO.out]; rfl)) rfl rfl (by simp only [RX.eval_tmp, RX.eval_const, List.getD_cons_zero, List.getD_cons_succ]; rfl) (by simp only [RX.put_some, RX.put_none, List.set_cons_zero, List.set_cons_succ]; rfl) ?_
                 refine hR _ _ ?_; clear hR R)
              | (refine RX.one_float (by first | rfl | (rw [HO.out]; rfl)) rfl rfl rfl ?_
                 apply Exists.intro; apply Exists.intro
                 refine ⟨fun w' hS K hK => ?_, ?_, ?_⟩
                 · subst hS; go_wp2; exact hK _ _ (by simp only [RX.arr_getD, List.getD_cons_zero, List.getD_cons_succ]; first | exact RX.dec_t (by omega) | exact RX.dec_f (by omega) | exact RX.beq_t (by omega) | exact RX.beq_f (by omega) | exact RX.bne_t (by omega) | exact RX.bne_f (by omega) | exact RX.bneB _ | rfl) rfl
                 · simp only [RX.put_some, RX.put_none, List.set_cons_zero, List.set_cons_succ]; rfl
                 refine hR _ _ ?_; clear hR R)
            refine RX.wpL_nil (hQR _ _ rfl ?_); clear hQR QR HO OPS
            go_wp2
            go_ret
            rw [HE.out]; exact ⟨rfl, (by repeat (first | (with_reducible assumption) | (with_reducible exact Below.refl _ _) | (with_reducible refine Below.setCell ?_ (by first | omega | (simp; done) | (simp; omega)) _) | (with_reducible refine Below.alloc ?_ (by first | omega | (simp; done) | (simp; omega)) _) | (with_reducible apply Below.drew) | assumption))⟩
          · have b0 : ((x0 : Int) == (y0 : Int)) = false := by rw [beq_eq_false_iff_ne]; omega
            have b1 : ((x1 : Int) == (y1 : Int)) = false := by rw [beq_eq_false_iff_ne]; omega
            have HE : Hid (eqB S T = false) := Lib.hid (by unfold eqB; exact decide_eq_false (fun h => by have h3 := HX.out.2.2 h; injection h3 with h4 h5; omega))
            clear e0 e1
            go_wp2
            refine RX.region RX.fN (fun w' => w' = _) (by kernel_rfl) (by kernel_rfl) rfl (fun OPS HO QR hQR => ?_)
            repeat
              refine RX.step (fun R hR => ?_)
              first
              | (refine RX.one_skip (by first | rfl | (rw [HO.out]; rfl)) (by simp only [RX.put_some, RX.put_none, List.set_cons_zero, List.set_cons_succ]; rfl) ?_
                 refine hR _ _ ?_; clear hR R)
              | (refine RX.one_move (by first | rfl | (rw [HO.out]; rfl)) rfl (by first | exact Or.inl rfl | exact Or.inr rfl) (by simp only [RX.eval_tmp, RX.eval_const, List.getD_cons_zero, List.getD_cons_succ]; rfl) (by simp only [RX.put_some, RX.put_none, List.set_cons_zero, List.set_cons_succ]; rfl) ?_
                 refine hR _ _ ?_; clear hR R)
              | (refine RX.one_nil (by first | rfl | (rw [HO.out]; rfl)) rfl rfl (by simp only [RX.eval_tmp, RX.eval_const, List.getD_cons_zero, List.getD_cons_succ]; rfl) (by simp only [RX.put_some, RX.put_none, List.set_cons_zero, List.set_cons_succ]; rfl) ?_
                 refine hR _ _ ?_; clear hR R)
              | (refine RX.one_float (by first | rfl | (rw [HO.out]; rfl)) rfl rfl rfl ?_
                 apply Exists.intro; apply Exists.intro
                 refine ⟨fun w' hS K hK => ?_, ?_, ?_⟩
                 · subst hS; go_wp2; exact hK _ _ (by simp only [RX.arr_getD, List.getD_cons_zero, List.getD_cons_succ]; first | exact RX.dec_t (by omega) | exact RX.dec_f (by omega) | exact RX.beq_t (by omega) | exact RX.beq_f (by omega) | exact RX.bne_t (by omega) | exact RX.bne_f (by omega) | exact RX.bneB _ | rfl) rfl
                 · simp only [RX.put_some, RX.put_none, List.set_cons_zero, List.set_cons_succ]; rfl
                 refine hR _ _ ?_; clear hR R)
            refine RX.wpL_nil (hQR _ _ rfl ?_); clear hQR QR HO OPS
            go_wp2
            go_ret
            rw [HE.out]; exact ⟨rfl, (by repeat (first | (with_reducible assumption) | (with_reducible exact Below.refl _ _) | (with_reducible refine Below.setCell ?_ (by first | omega | (simp; done) | (simp; omega)) _) | (with_reducible refine Below.alloc ?_ (by first | omega | (simp; done) | (simp; omega)) _) | (with_reducible apply Below.drew) | assumption))⟩
      · obtain rfl : k = S.length := by omega
        have HE : Hid (eqB S T = true) := Lib.hid (by
          unfold eqB
          have h := HK.out
          rw [List.take_of_length_le (Nat.le_refl _), List.take_of_length_le (by rw [HN.out]; exact Nat.le_refl _)] at h
          exact decide_eq_true h)
        go_wp2
        go_ret
        rw [HE.out]; exact ⟨rfl, (by repeat (first | (with_reducible assumption) | (with_reducible exact Below.refl _ _) | (with_reducible refine Below.setCell ?_ (by first | omega | (simp; done) | (simp; omega)) _) | (with_reducible refine Below.alloc ?_ (by first | omega | (simp; done) | (simp; omega)) _) | (with_reducible apply Below.drew) | assumption))⟩
  · have hb : ((S.length : Int) == (T.length : Int)) = false := by rw [beq_eq_false_iff_ne]; omega
    have hb2 : ((S.length : Int) != (T.length : Int)) = true := by rw [bne, hb]; rfl
    have HE : Hid (eqB S T = false) := Lib.hid (by unfold eqB; exact decide_eq_false (fun h => hne (by rw [h])))
    clear hne
    go_enter Tryz.func40, Tryz.ntmps40
    go_wp2
    go_ret
    rw [HE.out]; exact ⟨rfl, (by repeat (first | (with_reducible assumption) | (with_reducible exact Below.refl _ _) | (with_reducible refine Below.setCell ?_ (by first | omega | (simp; done) | (simp; omega)) _) | (with_reducible refine Below.alloc ?_ (by first | omega | (simp; done) | (simp; omega)) _) | (with_reducible apply Below.drew) | assumption))⟩
end Go.Proofs.YtlfhildbjipheaaGreatDoor
