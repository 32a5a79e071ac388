import Derived.Test.YtlfhildbjipheaaGreatDoorRIns3
import Derived.Test.YtlfhildbjipheaaGreatDoorKRefB
set_option linter.unusedSimpArgs false
set_option linter.unusedVariables false
namespace Go.Proofs.YtlfhildbjipheaaGreatDoor
open Go.RowKit Go.Grid Go.Maps Go.Sort Go.Shelf

/-- The cells so far, ascending. -/
def CInv (w : World) (base : Nat) (v : Value) (R : List (List Int)) : Prop := ∃ C, CeRow w base v C ∧ C.Perm (R.map to3) ∧ C.Pairwise (fun a b => ¬ lt3 b a)
theorem CInv.nil (w : World) (base : Nat) : CInv w base (.slice none 0 0) [] := ⟨[], CeRow.nil _ _, List.Perm.refl _, List.Pairwise.nil⟩
theorem CInv.kept {w w' : World} {base : Nat} {v : Value} {R : List (List Int)} (h : CInv w base v R) (hb : Below w.heap.size w w') : CInv w' base v R := by
  obtain ⟨C, h1, h2⟩ := h; exact ⟨C, h1.kept hb, h2⟩
theorem rins_tri (w : World) (base : Nat) (v : Value) (R : List (List Int)) (L : List Pl) (p q r : Pl) (h : CInv w base v R) (hb0 : base ≤ w.heap.size) (hl : R.length ≤ 90000) :
    Calls Tryz.prog 50 #[v, .agg #[.int .i64 (to3 (tri L p q r)).1, .int .i64 (to3 (tri L p q r)).2.1, .int .i64 (to3 (tri L p q r)).2.2]] w fun e w' => ∃ v', e = .returned v' ∧ CInv w' base v' (R ++ [tri L p q r]) ∧ Below base w w' := by
  obtain ⟨C, h1, h2, h3⟩ := h
  have hlen := h2.length_eq
  rw [List.length_map] at hlen
  refine (rinsert_any w base v C (to3 (tri L p q r)) h1 hb0 h3 (by omega)).mono ?_
  rintro e w' ⟨v', D, rfl, d1, d2, d3, d4⟩
  exact ⟨v', rfl, ⟨D, d1, d2.trans (by rw [List.map_append]; exact h2.append_right _), d3⟩, d4⟩
theorem CInv.fin {w : World} {base : Nat} {v : Value} {n : Nat} (h : CInv w base v (cellsRaw n)) : CeRow w base v (cellsS n) := by
  obtain ⟨C, h1, h2, h3⟩ := h
  have e : C = cellsS n := by
    refine List.Perm.eq_of_pairwise (le := fun a b : I3 => ¬ lt3 b a) (fun a b _ _ k1 k2 => ?_) h3 ?_ (h2.trans (List.mergeSort_perm _ _).symm)
    · unfold lt3 at k1 k2
      obtain ⟨a0, a1, a2⟩ := a
      obtain ⟨b0, b1, b2⟩ := b
      dsimp only at k1 k2
      obtain rfl : a0 = b0 := by omega
      obtain rfl : a1 = b1 := by omega
      obtain rfl : a2 = b2 := by omega
      rfl
    · unfold cellsS sort3
      have := List.pairwise_mergeSort (le := fun x y : I3 => decide (¬ lt3 y x)) (fun a b c h1 h2 => decide_eq_true (by have a1 := of_decide_eq_true h1; have a2 := of_decide_eq_true h2; unfold lt3 at *; omega)) (fun a b => by rcases (show ¬ lt3 b a ∨ ¬ lt3 a b by unfold lt3; omega) with h | h <;> simp [h]) (cells3 n)
      exact this.imp (fun h => by simpa using h)
  rw [← e]; exact h1
theorem rnodes_no (n : Int) (h : ¬ (1 ≤ n ∧ n ≤ 8)) (w : World) : Calls Tryz.prog 10 #[.int .i64 n] w fun e w' => e = .returned (.tuple #[.slice none 0 0, .int .i64 1]) ∧ w = w' := by
  have hc : countI n = 0 := by unfold countI; rw [if_neg h]
  have HCE := Lib.hid hc
  clear hc
  go_enter Tryz.func10, Tryz.ntmps10
  go_wp2_with fail
  refine (rcount_any n _).mono ?_
  rintro e w1 ⟨rfl, rfl⟩
  rw [HCE.out]
  go_wp2
  exact bodyPost_ret (v := .tuple #[.slice none 0 0, .int .i64 1]) (by simp [results, Tryz.results10, go_sem]) rfl ⟨rfl, rfl⟩
theorem rcells_no (n : Int) (h : ¬ (1 ≤ n ∧ n ≤ 8)) (w : World) : Calls Tryz.prog 12 #[.int .i64 n] w fun e w' => e = .returned (.tuple #[.slice none 0 0, .int .i64 1]) ∧ w = w' := by
  go_enter Tryz.func12, Tryz.ntmps12
  go_wp2_with fail
  refine (rnodes_no n h _).mono ?_
  rintro e w1 ⟨rfl, rfl⟩
  go_wp2
  exact bodyPost_ret (v := .tuple #[.slice none 0 0, .int .i64 1]) (by simp [results, Tryz.results12, go_sem]) rfl ⟨rfl, rfl⟩

theorem rcorner (w : World) (n b cap nl : Nat) (h1 : 1 ≤ n) (h8 : n ≤ 8) (q : Pl) (hq : Corner n q) (hat : PlsAt w b (nodesL n)) (hnl : nl = (nodesL n).length) (hcap : nl ≤ cap) (A B : Int) (hA : A = q.a) (hB : B = q.b) :
    Calls Tryz.prog 52 #[.slice (some ⟨b, 0, none⟩) nl cap, .int .i64 q.f, .int .i64 A, .int .i64 B] w fun e w' => e = .returned (.int .i64 (atI (nodesL n) q)) ∧ Below w.heap.size w w' := by
  subst hnl
  exact rat_corner w n b cap h1 h8 q hq hat hcap A B hA hB
theorem rcorner_le {n : Nat} {q : Pl} (hq : Corner n q) : 0 ≤ atI (nodesL n) q ∧ atI (nodesL n) q ≤ 100000 := by
  have := hq.le
  unfold atL at this
  unfold atI
  omega

set_option maxRecDepth 100000 in
set_option maxHeartbeats 4000000 in
/-- ref03.Cells -/
theorem rcells_any (n : Nat) (h1 : 1 ≤ n) (h8 : n ≤ 8) (w : World) : Calls Tryz.prog 12 #[.int .i64 n] w fun e w' => ∃ v, e = .returned (.tuple #[v, .int .i64 0]) ∧ CeRow w' w.heap.size v (cellsS n) ∧ Below w.heap.size w w' := by
  have hn := hh_mul h1 h8
  have hq : (840 : Int).tdiv n = ((hh n : Nat) : Int) := by
    rw [Int.tdiv_eq_ediv_of_nonneg (by omega)]; rfl
  have hn0 : ((n : Int) == 0) = false := by rw [beq_eq_false_iff_ne]; omega
  have hhp : 1 ≤ hh n := hh_pos h1 (by omega)
  have hh1 : hh n ≤ 840 := Nat.div_le_self _ _
  obtain ⟨h, hhe⟩ : ∃ h, h = hh n := ⟨_, rfl⟩
  rw [← hhe] at hq hhp hh1
  have HN : Hid (n * h = 840) := Lib.hid (by rw [hhe]; exact hn)
  have HE := Lib.hid hhe
  have hnl := nodes_fit h1 h8
  have HNL := Lib.hid hnl
  clear hhe hn hnl
  go_enter Tryz.func12, Tryz.ntmps12
  go_wp2_with fail
  refine (rnodes_any n h1 h8 _).mono ?_
  rintro e w1 ⟨v, rfl, hrow, hB1⟩
  obtain ⟨p, cap, b, rfl, hcap, hpos, hat⟩ := hrow.form
  obtain ⟨rfl, hb0, hbl⟩ := hpos HNL.out.1
  have HAT := Lib.hid hat
  have hBs1 := hB1.size
  clear hrow hpos hat
  obtain ⟨nl, hnl⟩ : ∃ nl, nl = (nodesL n).length := ⟨_, rfl⟩
  rw [← hnl] at hcap ⊢
  have HNLE := Lib.hid hnl
  clear hnl
  go_wp2
  clear hq hn0
  go_loopw [7, 8] (fun v i wr => ∃ f : Nat, f ≤ 20 ∧ i = .int .i64 f ∧ CInv wr w1.heap.size v (csofar n f 0 0) ∧ Below w1.heap.size w1 wr) (fun _ i _ => 20 - (intOf i).toNat)
  case atStart => exact ⟨0, by omega, rfl, by rw [csofar_start]; exact CInv.nil _ _, (by repeat (first | (with_reducible assumption) | (with_reducible exact Below.refl _ _) | (with_reducible refine Below.setCell ?_ (by first | omega | (simp; done) | (simp; omega)) _) | (with_reducible refine Below.alloc ?_ (by first | omega | (simp; done) | (simp; omega)) _) | (with_reducible apply Below.drew) | assumption))⟩
  case round =>
    obtain ⟨f, hf, rfl, hrow, hB⟩ := hrel
    by_cases hltf : f < 20
    · have hdf : decide ((f : Int) < 20) = true := decide_eq_true (by omega)
      go_wp2
      go_loopw [7, 9] (fun v i wr => ∃ a : Nat, a ≤ n ∧ AtMul i h a ∧ CInv wr w1.heap.size v (csofar n f a 0) ∧ Below w1.heap.size w1 wr) (fun _ i _ => 1681 - (intOf i).toNat)
      case atStart => exact ⟨0, by omega, AtMul.zero h, hrow, hB⟩
      case round =>
        clear hrow hB
        obtain ⟨a, ha, ⟨x, HX0, rfl⟩, hrow, hB⟩ := hrel
        have HX := Lib.hid HX0
        clear HX0
        by_cases hlta : a < n
        · have hx1 : x + h ≤ 840 := by
            have e := Nat.mul_le_mul_right h (show a + 1 ≤ n by omega)
            rw [HN.out, Nat.succ_mul, ← HX.out] at e; exact e
          have hdx : decide ((x : Int) ≤ 840 - (h : Int)) = true := decide_eq_true (by omega)
          go_wp2
          go_loopw [7, 10] (fun v i wr => ∃ b : Nat, b ≤ n - a ∧ AtMul i h b ∧ CInv wr w1.heap.size v (csofar n f a b) ∧ Below w1.heap.size w1 wr) (fun _ i _ => 1681 - (intOf i).toNat)
          case atStart => exact ⟨0, by omega, AtMul.zero h, hrow, hB⟩
          case round =>
            clear hrow hB
            obtain ⟨j, hj, ⟨y, HY0, rfl⟩, hrow, hB⟩ := hrel
            have HY := Lib.hid HY0
            clear HY0
            by_cases hltb : a + j < n
            · obtain ⟨z, HZ⟩ : ∃ z, Hid (z = (n - 1 - a - j) * h) := ⟨_, Lib.hid rfl⟩
              have hxyz : x + y + z + h = 840 := by
                rw [HX.out, HY.out, HZ.out, ← HN.out, ← Nat.add_mul, ← Nat.add_mul, ← Nat.succ_mul]
                congr 1; omega
              have HYS : AtMul (.int .i64 ((y : Int) + (h : Int))) h (j + 1) := AtMul.next HY.out
              have hdy : decide ((x : Int) + (y : Int) ≤ 840 - (h : Int)) = true := decide_eq_true (by omega)
              have HLEN : Hid ((csofar n f a j).length ≤ 5000) := Lib.hid (len_csofar h8 (by omega) ha (by omega))
              have hup := lat_up hltb f
              rw [← HE.out, ← HX.out, ← HY.out, ← HZ.out] at hup
              obtain ⟨hu0, hu1, hu2⟩ := hup
              have hn' : n * hh n = 840 := by rw [← HE.out]; exact HN.out
              have CO0 : Hid (Corner n ⟨f, x + h, y, z⟩) := Lib.hid (by rw [hu0]; exact corner_lat h1 h8 hn' hltf (by omega))
              have CO1 : Hid (Corner n ⟨f, x, y + h, z⟩) := Lib.hid (by rw [hu1]; exact corner_lat h1 h8 hn' hltf (by omega))
              have CO2 : Hid (Corner n ⟨f, x, y, z + h⟩) := Lib.hid (by rw [hu2]; exact corner_lat h1 h8 hn' hltf (by omega))
              have HNEXT : Hid (∀ v wr', CInv wr' w1.heap.size v (csofar n f a j ++ cellsAt (nodesL n) h ⟨f, x, y, z⟩) → CInv wr' w1.heap.size v (csofar n f a (j + 1))) := Lib.hid (fun v wr' hr => by
                rw [csofar_succ]
                unfold cpos
                rw [← HE.out, ← HX.out, ← HY.out, ← HZ.out]
                exact hr)
              have HDW : Hid (h ≤ z → Corner n ⟨f, x + h, y + h, z - h⟩) := Lib.hid (fun hz => by
                have hd := (down_iff (by rw [← HE.out]; omega) hltb).1 (by rw [← HE.out, ← HZ.out]; exact hz)
                have hld := lat_down hd f
                rw [← HE.out, ← HX.out, ← HY.out, ← HZ.out] at hld
                rw [hld]
                exact corner_lat h1 h8 hn' hltf (by omega))
              clear hu0 hu1 hu2 hn'
              generalize csofar n f a j = R at *
              have HR := Lib.hid hrow
              have hBs := hB.size
              clear hrow
              obtain ⟨u0, hu0⟩ : ∃ u : World, u = wr := ⟨_, rfl⟩
              rw [← hu0] at hB hBs HR ⊢
              clear hu0
              have hB_u0 := hB
              have hBs_u0 := hBs
              have HR_u0 := HR
              clear hB hBs HR
              go_wp2_with fail
              refine (rcorner u0 n b cap nl h1 h8 ⟨f, x + h, y, z⟩ CO0.out (HAT.out.kept (hB_u0.block b hbl)) HNLE.out hcap ((x : Int) + (h : Int)) ((y : Int)) (by simp) (by simp)).mono ?_
              rintro e u1 ⟨rfl, hb⟩
              have hB_u1 := hB_u0.trans (hb.mono hBs_u0)
              have hBs_u1 := hB_u1.size
              have HR_u1 := Lib.hid (HR_u0.out.kept hb)
              clear hb HR_u0
              go_wp2_with fail
              refine (rcorner u1 n b cap nl h1 h8 ⟨f, x, y + h, z⟩ CO1.out (HAT.out.kept (hB_u1.block b hbl)) HNLE.out hcap ((x : Int)) ((y : Int) + (h : Int)) (by simp) (by simp)).mono ?_
              rintro e u2 ⟨rfl, hb⟩
              have hB_u2 := hB_u1.trans (hb.mono hBs_u1)
              have hBs_u2 := hB_u2.size
              have HR_u2 := Lib.hid (HR_u1.out.kept hb)
              clear hb HR_u1
              go_wp2_with fail
              refine (rcorner u2 n b cap nl h1 h8 ⟨f, x, y, z + h⟩ CO2.out (HAT.out.kept (hB_u2.block b hbl)) HNLE.out hcap ((x : Int)) ((y : Int)) (by simp) (by simp)).mono ?_
              rintro e u3 ⟨rfl, hb⟩
              have hB_u3 := hB_u2.trans (hb.mono hBs_u2)
              have hBs_u3 := hB_u3.size
              have HR_u3 := Lib.hid (HR_u2.out.kept hb)
              clear hb HR_u2
              go_wp2_with fail
              refine (rcell_any _ _ _ u3 (rcorner_le CO0.out) (rcorner_le CO1.out) (rcorner_le CO2.out)).mono ?_
              rintro e u4 ⟨rfl, hb⟩
              have hB_u4 := hB_u3.trans (hb.mono hBs_u3)
              have hBs_u4 := hB_u4.size
              have HR_u4 := Lib.hid (HR_u3.out.kept hb)
              clear hb HR_u3
              go_wp2_with fail
              refine (rins_tri u4 w1.heap.size _ R (nodesL n) ⟨f, x + h, y, z⟩ ⟨f, x, y + h, z⟩ ⟨f, x, y, z + h⟩ HR_u4.out hBs_u4 (by have := HLEN.out; omega)).mono ?_
              rintro e u5 ⟨v1, rfl, hr, hb⟩
              have hB_u5 := hB_u4.trans hb
              have hBs_u5 := hB_u5.size
              have HR_u5 := Lib.hid hr
              clear hb hr HR_u4
              by_cases hz : h ≤ z
              · have hd2 : decide ((x : Int) + (y : Int) ≤ 840 - 2 * (h : Int)) = true := decide_eq_true (by omega)
                have CO3 := Lib.hid (HDW.out hz)
                go_wp2_with fail
                refine (rcorner u5 n b cap nl h1 h8 ⟨f, x, y + h, z⟩ CO1.out (HAT.out.kept (hB_u5.block b hbl)) HNLE.out hcap ((x : Int)) ((y : Int) + (h : Int)) (by simp) (by simp)).mono ?_
                rintro e u6 ⟨rfl, hb⟩
                have hB_u6 := hB_u5.trans (hb.mono hBs_u5)
                have hBs_u6 := hB_u6.size
                have HR_u6 := Lib.hid (HR_u5.out.kept hb)
                clear hb HR_u5
                go_wp2_with fail
                refine (rcorner u6 n b cap nl h1 h8 ⟨f, x + h, y, z⟩ CO0.out (HAT.out.kept (hB_u6.block b hbl)) HNLE.out hcap ((x : Int) + (h : Int)) ((y : Int)) (by simp) (by simp)).mono ?_
                rintro e u7 ⟨rfl, hb⟩
                have hB_u7 := hB_u6.trans (hb.mono hBs_u6)
                have hBs_u7 := hB_u7.size
                have HR_u7 := Lib.hid (HR_u6.out.kept hb)
                clear hb HR_u6
                go_wp2_with fail
                refine (rcorner u7 n b cap nl h1 h8 ⟨f, x + h, y + h, z - h⟩ CO3.out (HAT.out.kept (hB_u7.block b hbl)) HNLE.out hcap ((x : Int) + (h : Int)) ((y : Int) + (h : Int)) (by simp) (by simp)).mono ?_
                rintro e u8 ⟨rfl, hb⟩
                have hB_u8 := hB_u7.trans (hb.mono hBs_u7)
                have hBs_u8 := hB_u8.size
                have HR_u8 := Lib.hid (HR_u7.out.kept hb)
                clear hb HR_u7
                go_wp2_with fail
                refine (rcell_any _ _ _ u8 (rcorner_le CO1.out) (rcorner_le CO0.out) (rcorner_le CO3.out)).mono ?_
                rintro e u9 ⟨rfl, hb⟩
                have hB_u9 := hB_u8.trans (hb.mono hBs_u8)
                have hBs_u9 := hB_u9.size
                have HR_u9 := Lib.hid (HR_u8.out.kept hb)
                clear hb HR_u8
                go_wp2_with fail
                refine (rins_tri u9 w1.heap.size _ (R ++ [tri (nodesL n) ⟨f, x + h, y, z⟩ ⟨f, x, y + h, z⟩ ⟨f, x, y, z + h⟩]) (nodesL n) ⟨f, x, y + h, z⟩ ⟨f, x + h, y, z⟩ ⟨f, x + h, y + h, z - h⟩ HR_u9.out hBs_u9 (by have := HLEN.out; rw [List.length_append]; simp; omega)).mono ?_
                rintro e v0 ⟨v2, rfl, hr, hb⟩
                have hB_v0 := hB_u9.trans hb
                have hBs_v0 := hB_v0.size
                have HR_v0 := Lib.hid hr
                clear hb hr HR_u9
                have HFI := Lib.hid (HNEXT.out _ _ (by unfold cellsAt; rw [if_pos hz]; have h9 := HR_v0.out; rw [List.append_assoc] at h9; exact h9))
                go_wp2
                go_roundw
                case rel => first | exact ⟨j + 1, by omega, HYS, HFI.out, hB_v0⟩ | ((repeat apply Exists.intro); exact ⟨⟨j + 1, by omega, HYS, HFI.out, hB_v0⟩, rfl⟩)
                case measure => simp [intOf]; omega
              · have hd2 : decide ((x : Int) + (y : Int) ≤ 840 - 2 * (h : Int)) = false := decide_eq_false (by omega)
                have HFI := Lib.hid (HNEXT.out _ _ (by unfold cellsAt; rw [if_neg hz]; exact HR_u5.out))
                go_wp2
                go_roundw
                case rel => first | exact ⟨j + 1, by omega, HYS, HFI.out, hB_u5⟩ | ((repeat apply Exists.intro); exact ⟨⟨j + 1, by omega, HYS, HFI.out, hB_u5⟩, rfl⟩)
                case measure => simp [intOf]; omega
            · have ej : j = n - a := by omega
              have e : x + y = 840 := by
                rw [HX.out, HY.out, ← HN.out, ← Nat.add_mul]; congr 1; omega
              have hy1 : x + y ≤ 840 := by omega
              have hdy : decide ((x : Int) + (y : Int) ≤ 840 - (h : Int)) = false := decide_eq_false (by omega)
              clear e
              rw [ej, csofar_row] at hrow
              have HR := Lib.hid hrow
              clear ej
              have HXS : AtMul (.int .i64 ((x : Int) + (h : Int))) h (a + 1) := AtMul.next HX.out
              clear hrow
              go_wp2
              go_roundw
              case rel => first | exact ⟨a + 1, by omega, HXS, HR.out, hB⟩ | ((repeat apply Exists.intro); exact ⟨⟨a + 1, by omega, HXS, HR.out, hB⟩, rfl⟩)
              case measure => simp [intOf]; omega
        · have ea : a = n := by omega
          have e : x = 840 := by rw [HX.out, ea, HN.out]
          have hx1 : x ≤ 840 := by omega
          have hdx : decide ((x : Int) ≤ 840 - (h : Int)) = false := decide_eq_false (by omega)
          clear e
          rw [ea, csofar_face] at hrow
          have HR := Lib.hid hrow
          clear hrow ea
          go_wp2
          go_roundw
          case rel => first | exact ⟨f + 1, by omega, rfl, HR.out, hB⟩ | ((repeat apply Exists.intro); exact ⟨⟨f + 1, by omega, rfl, HR.out, hB⟩, rfl⟩)
          case measure => simp [intOf]; omega
    · have ef : f = 20 := by omega
      have hdf : decide ((f : Int) < 20) = false := decide_eq_false (by omega)
      rw [ef, csofar_end] at hrow
      have HR := Lib.hid (CInv.fin hrow)
      clear hrow ef
      go_wp2
      refine bodyPost_ret (v := .tuple #[_, .int .i64 0]) (by simp [results, Tryz.results12, go_sem]) rfl ⟨_, rfl, HR.out.mono hBs1, hB1.trans (hB.mono hBs1)⟩
end Go.Proofs.YtlfhildbjipheaaGreatDoor
