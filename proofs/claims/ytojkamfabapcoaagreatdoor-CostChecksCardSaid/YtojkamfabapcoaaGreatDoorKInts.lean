import Derived.Test.YtojkamfabapcoaaGreatDoorVecs
set_option linter.unusedSimpArgs false
set_option linter.unusedVariables false
namespace Go.Proofs.YtojkamfabapcoaaGreatDoor
open Go.RowKit

set_option maxRecDepth 100000 in
set_option maxHeartbeats 2000000 in
/-- synoptickeep.Ints at equal lengths. -/
theorem kints_len (p q : Option Addr) (zs ys : List Int) (cz cy : Nat) (w : World) (hV : VecAt w p zs) (hU : VecAt w q ys) (hlen : zs.length = ys.length) (hl : zs.length ≤ 1000000000) :
    Calls Tryz.prog 30 #[.slice p zs.length cz, .slice q zs.length cy] w fun e w' => e = .returned (.bool (decide (zs = ys))) ∧ Below w.heap.size w w' := by
  have HE : Hid ((∀ k (h : k < zs.length) (h2 : k < ys.length), zs[k] = ys[k]) → decide (zs = ys) = true) := Lib.hid (fun h => decide_eq_true (List.ext_getElem hlen (fun k h1 h2 => h k h1 h2)))
  have HF : Hid (∀ k (h : k < zs.length) (h2 : k < ys.length), zs[k] ≠ ys[k] → decide (zs = ys) = false) := Lib.hid (fun k h h2 hne => decide_eq_false (fun e => hne (by subst e; rfl)))
  have HV := Lib.hid (And.intro hV (And.intro hU hlen))
  clear hV hU
  obtain ⟨n, hn⟩ : ∃ n, n = zs.length := ⟨_, rfl⟩
  have hny : n = ys.length := hn.trans hlen
  have HN := Lib.hid (And.intro hn hny)
  rw [← hn] at hl ⊢
  clear hn hny hlen
  go_enter Tryz.func30, Tryz.ntmps30
  go_wp2
  go_loopw [5] (fun i wr => ∃ k : Nat, k ≤ n ∧ i = .int .i64 k ∧ Hid (∀ j (h : j < zs.length) (h2 : j < ys.length), j < k → zs[j] = ys[j]) ∧ Below w.heap.size w wr) (fun i _ => n - (intOf i).toNat)
  case atStart => exact ⟨0, by omega, rfl, Lib.hid (fun j _ _ h => by omega), Below.refl _ _⟩
  case round =>
    obtain ⟨k, hk, rfl, HX, hB⟩ := hrel
    by_cases hlt : k < n
    · have hdk : decide ((k : Int) < (n : Int)) = true := decide_eq_true (by omega)
      have h1 : k < zs.length := by rw [← HN.out.1]; exact hlt
      have h2 : k < ys.length := by rw [← HN.out.2]; exact hlt
      obtain ⟨b, o, rfl, hbl, hcell⟩ := HV.out.1.cell (by omega)
      obtain ⟨c, o2, rfl, hcl, hcell2⟩ := HV.out.2.1.cell (by omega)
      have ck := RX.keep hB (hcell k h1)
      have dk := RX.keep hB (hcell2 k h2)
      have HNE := HF.out k h1 h2
      obtain ⟨x, hx⟩ : ∃ x, x = zs[k] := ⟨_, rfl⟩
      obtain ⟨u, hu⟩ : ∃ u, u = ys[k] := ⟨_, rfl⟩
      rw [← hx] at ck HNE
      rw [← hu] at dk HNE
      have HXU := Lib.hid (And.intro hx hu)
      clear hx hu hcell hcell2
      by_cases he : x = u
      · subst he
        clear HNE
        go_wp2
        refine RX.region RX.fN (fun w' => w' = _) (by kernel_rfl) (by kernel_rfl) rfl (fun OPS HO QR hQR => ?_)
        repeat
          refine RX.step (fun R hR => ?_)
          first
          | (refine RX.one_skip (by first | rfl | (rw [HO.out]; rfl)) (by simp only [RX.put_some, RX.put_none, List.set_cons_zero, List.set_cons_succ]; rfl) ?_
             refine hR _ _ ?_; clear hR R)
          | (refine RX.one_move (by first | rfl | (rw [HO.out]; rfl)) rfl (by first | exact Or.inl rfl | exact Or.inr rfl) (by simp only [RX.eval_tmp, RX.eval_const, List.getD_cons_zero, List.getD_cons_succ]; rfl) (by simp only [RX.put_some, RX.put_none, List.set_cons_zero, List.set_cons_succ]; rfl) ?_
             refine hR _ _ ?_; clear hR R)
          | (refine RX.one_nil (by first | rfl | (rw [HO.out]; rfl)) rfl rfl (by simp only [RX.eval_tmp, RX.eval_const, List.getD_cons_zero, List.getD_cons_succ]; rfl) (by simp only [RX.put_some, RX.put_none, List.set_cons_zero, List.set_cons_succ]; rfl) ?_
             refine hR _ _ ?_; clear hR R)
          | (refine RX.one_float (by first | rfl | (rw [HO.out]; rfl)) rfl rfl rfl ?_
             apply Exists.intro; apply Exists.intro
             refine ⟨fun w' hS K hK => ?_, ?_, ?_⟩
             · subst hS; go_wp2; exact hK _ _ (by simp only [RX.arr_getD, List.getD_cons_zero, List.getD_cons_succ]; first | exact RX.dec_t (by omega) | exact RX.dec_f (by omega) | exact RX.beq_t (by omega) | exact RX.beq_f (by omega) | exact RX.bne_t (by omega) | exact RX.bne_f (by omega) | exact RX.bneB _ | rfl) rfl
             · simp only [RX.put_some, RX.put_none, List.set_cons_zero, List.set_cons_succ]; rfl
             refine hR _ _ ?_; clear hR R)
        refine RX.wpL_nil (hQR _ _ rfl ?_); clear hQR QR HO OPS
        go_wp2
        go_roundw
        case rel => exact ⟨k + 1, by omega, by go_num, Lib.hid (fun j h3 h4 h => by
          by_cases hj : j = k
          · subst hj; rw [← HXU.out.1, ← HXU.out.2]
          · exact HX.out j h3 h4 (by omega)), hB.drew⟩
        case measure => simp [intOf]; omega
      · have hne := HNE he
        have HNE2 := Lib.hid hne
        clear HNE hne
        have hb : (x == u) = false := by rw [beq_eq_false_iff_ne]; exact he
        have hb2 : (x != u) = true := by simp [he]
        go_wp2
        refine RX.region RX.fN (fun w' => w' = _) (by kernel_rfl) (by kernel_rfl) rfl (fun OPS HO QR hQR => ?_)
        repeat
          refine RX.step (fun R hR => ?_)
          first
          | (refine RX.one_skip (by first | rfl | (rw [HO.out]; rfl)) (by simp only [RX.put_some, RX.put_none, List.set_cons_zero, List.set_cons_succ]; rfl) ?_
             refine hR _ _ ?_; clear hR R)
          | (refine RX.one_move (by first | rfl | (rw [HO.out]; rfl)) rfl (by first | exact Or.inl rfl | exact Or.inr rfl) (by simp only [RX.eval_tmp, RX.eval_const, List.getD_cons_zero, List.getD_cons_succ]; rfl) (by simp only [RX.put_some, RX.put_none, List.set_cons_zero, List.set_cons_succ]; rfl) ?_
             refine hR _ _ ?_; clear hR R)
          | (refine RX.one_nil (by first | rfl | (rw [HO.out]; rfl)) rfl rfl (by simp only [RX.eval_tmp, RX.eval_const, List.getD_cons_zero, List.getD_cons_succ]; rfl) (by simp only [RX.put_some, RX.put_none, List.set_cons_zero, List.set_cons_succ]; rfl) ?_
             refine hR _ _ ?_; clear hR R)
          | (refine RX.one_float (by first | rfl | (rw [HO.out]; rfl)) rfl rfl rfl ?_
             apply Exists.intro; apply Exists.intro
             refine ⟨fun w' hS K hK => ?_, ?_, ?_⟩
             · subst hS; go_wp2; exact hK _ _ (by simp only [RX.arr_getD, List.getD_cons_zero, List.getD_cons_succ]; first | exact RX.dec_t (by omega) | exact RX.dec_f (by omega) | exact RX.beq_t (by omega) | exact RX.beq_f (by omega) | exact RX.bne_t (by omega) | exact RX.bne_f (by omega) | exact RX.bneB _ | rfl) rfl
             · simp only [RX.put_some, RX.put_none, List.set_cons_zero, List.set_cons_succ]; rfl
             refine hR _ _ ?_; clear hR R)
        refine RX.wpL_nil (hQR _ _ rfl ?_); clear hQR QR HO OPS
        go_wp2
        go_ret
        rw [HNE2.out]
        exact ⟨rfl, hB.drew⟩
    · have hdk : decide ((k : Int) < (n : Int)) = false := decide_eq_false (by omega)
      obtain rfl : k = n := by omega
      have HT := Lib.hid (HE.out (fun j h h2 => HX.out j h h2 (by rw [HN.out.1]; exact h)))
      go_wp2
      go_ret
      rw [HT.out]
      exact ⟨rfl, hB⟩
end Go.Proofs.YtojkamfabapcoaaGreatDoor
