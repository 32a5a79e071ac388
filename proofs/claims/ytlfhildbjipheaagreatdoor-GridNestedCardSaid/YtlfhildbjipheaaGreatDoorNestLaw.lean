import Derived.Test.YtlfhildbjipheaaGreatDoorNestP
import Derived.Test.YtlfhildbjipheaaGreatDoorHops
import Derived.Test.YtlfhildbjipheaaGreatDoorListA
import Derived.Test.YtlfhildbjipheaaGreatDoorKSrc
import Derived.Test.YtlfhildbjipheaaGreatDoorShares
import Derived.Test.YtlfhildbjipheaaGreatDoorAwake03
set_option linter.unusedSimpArgs false
set_option linter.unusedVariables false
namespace Go.Proofs.YtlfhildbjipheaaGreatDoor
open Go.RowKit Go.Grid Go.Maps Go.Sort Go.Shelf

theorem gindex_fine (n k : Nat) (P : Pl) (v : Value) (m : Nat) (hm : m = 2 * n) (h1 : 1 ≤ n) (h4 : n ≤ 4) (hk : k < (nodesL n).length) (hP : P = (nodesL n)[k]) (hv : v = pv P) (w : World) (hT : HasTab w) :
    Calls Tryz.prog 45 #[.int .i64 m, v] w fun e w' => e = .returned (.tuple #[.int .i64 (fine n k : Int), .int .i64 0]) ∧ Below w.heap.size w w' := by
  obtain ⟨f1, f2, f3, f4⟩ := fine_facts h1 h4 hk
  subst hm hv hP
  refine (gindex_any (2 * n) (by omega) (by omega) _ f1 w hT).mono ?_
  rintro e w' ⟨rfl, hb⟩
  refine ⟨?_, hb⟩
  unfold idxErr
  rw [f2]; rfl
theorem glocate_fine (n k : Nat) (P : Pl) (v : Value) (m : Nat) (hm : m = 2 * n) (h1 : 1 ≤ n) (h4 : n ≤ 4) (hk : k < (nodesL n).length) (hP : P = (nodesL n)[k]) (hv : v = pv P) (w : World) (hT : HasTab w) :
    Calls Tryz.prog 37 #[.int .i64 m, v] w fun e w' => ∃ b cap, e = .returned (.tuple #[.slice (some ⟨b, 0, none⟩) 1 cap, .int .i64 0]) ∧ 1 ≤ cap ∧ SharesAt w' b [(fine n k, 840)] ∧ Below w.heap.size w w' := by
  obtain ⟨f1, f2, f3, f4⟩ := fine_facts h1 h4 hk
  subst hm hv hP
  refine (glocate_any (2 * n) (by omega) (by omega) _ f1 w hT).mono ?_
  rintro e w' ⟨b, cap, S, hS, rfl, hc, hat, hb⟩
  have hS1 := hS.1
  rw [f4] at hS1
  obtain rfl := List.perm_singleton.1 hS1
  exact ⟨b, cap, rfl, hc, hat, hb⟩
theorem shares_one (w : World) (p q : Option Addr) (cp cq : Nat) (x : Nat × Nat) (hS : SharesIn w p [x]) (hT : SharesIn w q [x]) (hs : 1 ≤ cp) (ht : 1 ≤ cq) :
    Calls Tryz.prog 40 #[.slice p 1 cp, .slice q 1 cq] w fun e w' => e = .returned (.bool true) ∧ Below w.heap.size w w' := by
  refine (shares_any w p q cp cq [x] [x] hS hT hs ht (by simp) (by simp)).mono ?_
  rintro e w' ⟨rfl, hb⟩
  exact ⟨by rw [show eqB [x] [x] = true from decide_eq_true rfl], hb⟩
set_option maxRecDepth 100000
set_option maxHeartbeats 4000000 in
theorem nested_law (W : World) (q : Option Addr) (cap : Nat) (L : List Int) (hV : VecAt W q L) (hI : I64L L) (hl : L.length ≤ cap) (hc : cap ≤ 9223372036854775807) (hT : HasTab W) :
    Calls Tryz.prog 7 #[.slice q L.length cap] W fun e w' => e = .returned (.bool true) ∧ Below W.heap.size W w' := by
  go_enter Tryz.func7, Tryz.ntmps7
  go_wp2_with fail
  refine (knew_any q cap L W hV hI hl hc).mono ?_
  rintro e w1 ⟨rfl, hb, b0, hblt, hs⟩
  clear hV hI
  generalize min L.length 2000 = N at *
  go_wp2_with fail
  refine (srcRange_any w1 W.heap.size b0 N 0 1 2 hs (by omega) (by omega) (by omega)).mono ?_
  rintro e w2 ⟨ni, rfl, hn1, hn2, hg2, i2, hs2⟩
  obtain ⟨n, rfl⟩ : ∃ n : Nat, ni = n := ⟨ni.toNat, by omega⟩
  replace hb := hb.grown hg2 hb.size (fun k hk => by injection hk with hk; omega)
  clear hg2 hs
  have h1 : 1 ≤ n := by omega
  have h4 : n ≤ 4 := by omega
  have h8 : n ≤ 8 := by omega
  clear hn1 hn2
  go_wp2_with fail
  refine (gnodes_any n h1 h8 w2 (hT.below hb)).mono ?_
  rintro e w3 ⟨b3, c3, rfl, hc3, hown, hb3⟩
  have hM0 : 0 < (nodesL n).length := by rw [nodes_len h1 h8]; omega
  have hE0 := edges_pos h1
  obtain ⟨_, _, b3', e9, _, hq3, hP3⟩ := PlRow.form hown
  injection e9 with e9 _ _
  obtain ⟨h9, h9b, _⟩ := hq3 hM0
  rw [h9] at e9
  injection e9 with e9
  injection e9 with e9
  subst e9
  have hW2 := hb.size
  have hne3 : b3 ≠ W.heap.size := by omega
  replace hs2 := hs2.below hb3
  replace hb := hb.trans (hb3.mono hb.size)
  clear hb3 hown hq3 h9
  go_wp2_with fail
  refine (edges_any n h1 h8 w3 (hT.below hb)).mono ?_
  rintro e w4 ⟨b4, c4, rfl, hc4, hPA, hb4l, hb4⟩
  have hW3 := hb.size
  have hsl := hs2.lt
  have hne4 : b4 ≠ W.heap.size := by omega
  have hP4 : EdsAt w4 b4 (edgesL n) := fun k hk => ⟨hPA.c0 k hk, hPA.c1 k hk⟩
  replace hs2 := hs2.below hb4
  have hP3' : PlsAt w4 b3 (nodesL n) := fun k hk => ⟨RX.keep hb4 (hP3 k hk).1, RX.keep hb4 (hP3 k hk).2.1, RX.keep hb4 (hP3 k hk).2.2.1, RX.keep hb4 (hP3 k hk).2.2.2⟩
  replace hP3 := hP3'
  replace hb := hb.trans (hb4.mono hb.size)
  clear hb4 hPA hP3'
  have hMm := nodes_max h1 h8
  have hEl := edges_len (n := n) h8
  obtain ⟨M, hM⟩ : ∃ M, M = (nodesL n).length := ⟨_, rfl⟩
  obtain ⟨E, hE⟩ : ∃ E, E = (edgesL n).length := ⟨_, rfl⟩
  rw [← hM] at hc3 hM0 hMm
  rw [← hE] at hc4 hE0 hEl
  rw [← hM, ← hE]
  have HM := Lib.hid hM
  have HE := Lib.hid hE
  have HP3 := Lib.hid hP3
  have HP4 := Lib.hid hP4
  clear hM hE hP3 hP4
  have hM00 : ((M : Int) == 0) = false := by rw [beq_eq_false_iff_ne]; omega
  have hE00 : ((E : Int) == 0) = false := by rw [beq_eq_false_iff_ne]; omega
  go_wp2_with fail
  clear hM00 hE00
  refine (srcN_any w4 W.heap.size b0 N i2 M hs2 (by omega) (by omega)).mono ?_
  rintro e w5 ⟨ki, rfl, hk0, hk1, hg5, i5, hs5⟩
  obtain ⟨k, rfl⟩ : ∃ k : Nat, ki = k := ⟨ki.toNat, by omega⟩
  have KEEP5 : Hid (∀ b j v, w4.cell? ⟨b, j, none⟩ = some v → b ≠ W.heap.size → w5.cell? ⟨b, j, none⟩ = some v) := Lib.hid (fun b j v h hne => hg5.cell h (by simp; exact hne))
  replace hb := hb.grown hg5 hb.size (fun k hk => by injection hk with hk; omega)
  clear hg5 hs2
  have hkM : k < (nodesL n).length := by rw [← HM.out]; omega
  obtain ⟨x0, x1, x2, x3⟩ := HP3.out k hkM
  replace x0 := KEEP5.out _ _ _ x0 hne3
  replace x1 := KEEP5.out _ _ _ x1 hne3
  replace x2 := KEEP5.out _ _ _ x2 hne3
  replace x3 := KEEP5.out _ _ _ x3 hne3
  obtain ⟨P, hP⟩ : ∃ P, P = (nodesL n)[k] := ⟨_, rfl⟩
  rw [← hP] at x0 x1 x2 x3
  have HPd := Lib.hid hP
  clear hP
  obtain ⟨m, hm2, hm⟩ : ∃ m : Nat, 2 * (n : Int) = (m : Int) ∧ m = 2 * n := ⟨2 * n, by push_cast; rfl, rfl⟩
  have HM2 := Lib.hid hm
  clear hm
  have hpvP : Hid (pv P = .agg #[.int .i64 P.f, .int .i64 P.a, .int .i64 P.b, .int .i64 P.c]) := Lib.hid rfl
  have HB5 := Lib.hid hb
  clear hb
  go_wp2_with fail
  refine (gindex_fine n k P _ m HM2.out h1 h4 hkM HPd.out hpvP.out.symm w5 (hT.below HB5.out)).mono ?_
  rintro e w6 ⟨rfl, hb6⟩
  replace x0 := RX.keep hb6 x0
  replace x1 := RX.keep hb6 x1
  replace x2 := RX.keep hb6 x2
  replace x3 := RX.keep hb6 x3
  have HB6 := Lib.hid (HB5.out.trans (hb6.mono HB5.out.size))
  have hs6 := hs5.below hb6
  have H56 := Lib.hid hb6
  clear hb6 hs5
  go_wp2_with fail
  refine (glocate_fine n k P _ m HM2.out h1 h4 hkM HPd.out hpvP.out.symm w6 (hT.below HB6.out)).mono ?_
  rintro e w7 ⟨xb, xc, rfl, hxc, hat, hb7⟩
  have HB7 := Lib.hid (HB6.out.trans (hb7.mono HB6.out.size))
  have H57 := Lib.hid (H56.out.trans (hb7.mono H56.out.size))
  have hs7 := hs6.below hb7
  clear hb7 hs6 H56 x0 x1 x2 x3
  obtain ⟨F, hF⟩ : ∃ F, F = fine n k := ⟨_, rfl⟩
  rw [← hF] at hat
  rw [← hF]
  clear hF
  have hSa : SharesAt (w7.alloc (.cells #[.int .i64 F, .int .i64 840] 73)) w7.heap.size [(F, 840)] := fun j hj => by
    have hj0 : j = 0 := by simpa using hj
    subst hj0
    exact ⟨by rw [RX.cell_alloc, if_pos rfl]; rfl, by rw [RX.cell_alloc, if_pos rfl]; rfl⟩
  have hba := (Below.refl w7.heap.size w7).alloc (Nat.le_refl _) (.cells #[.int .i64 F, .int .i64 840] 73)
  have hin1 : SharesIn (w7.alloc (.cells #[.int .i64 F, .int .i64 840] 73)) (some ⟨xb, 0, none⟩) [(F, 840)] := ⟨xb, fun _ => rfl, fun j hj => ⟨RX.keep hba (hat j hj).1, RX.keep hba (hat j hj).2⟩⟩
  have hin2 : SharesIn (w7.alloc (.cells #[.int .i64 F, .int .i64 840] 73)) (some ⟨w7.heap.size, 0, none⟩) [(F, 840)] := ⟨w7.heap.size, fun _ => rfl, hSa⟩
  have hs7a := hs7.below hba
  have HB7a := Lib.hid (HB7.out.trans (hba.mono HB7.out.size))
  have H57a := Lib.hid (H57.out.trans (hba.mono H57.out.size))
  clear hat hSa hba hs7 HB7 H57
  go_wp2_with fail
  refine (shares_one _ _ _ xc 1 (F, 840) hin1 hin2 hxc (Nat.le_refl _)).mono ?_
  rintro e w8 ⟨rfl, hb8⟩
  have hs8 := hs7a.below hb8
  have HB8 := Lib.hid (HB7a.out.trans (hb8.mono HB7a.out.size))
  have H58 := Lib.hid (H57a.out.trans (hb8.mono H57a.out.size))
  clear hb8 hs7a HB7a H57a hin1 hin2
  go_wp2_with fail
  refine (srcN_any w8 W.heap.size b0 N i5 E hs8 (by omega) (by omega)).mono ?_
  rintro e w9 ⟨ti, rfl, ht0, ht1, hg9, i9, hs9⟩
  obtain ⟨t, rfl⟩ : ∃ t : Nat, ti = t := ⟨ti.toNat, by omega⟩
  have htE : t < (edgesL n).length := by rw [← HE.out]; omega
  obtain ⟨y0, y1⟩ := HP4.out t htE
  replace y0 := hg9.cell (RX.keep H58.out (KEEP5.out _ _ _ y0 hne4)) (by simp; exact hne4)
  replace y1 := hg9.cell (RX.keep H58.out (KEEP5.out _ _ _ y1 hne4)) (by simp; exact hne4)
  have HK9 : Hid (∀ j (h : j < (nodesL n).length), w9.cell? ⟨b3, j * 4, none⟩ = some (.int .i64 (nodesL n)[j].f) ∧ w9.cell? ⟨b3, j * 4 + 1, none⟩ = some (.int .i64 (nodesL n)[j].a) ∧ w9.cell? ⟨b3, j * 4 + 2, none⟩ = some (.int .i64 (nodesL n)[j].b) ∧ w9.cell? ⟨b3, j * 4 + 3, none⟩ = some (.int .i64 (nodesL n)[j].c)) := Lib.hid (fun j hj => by
    obtain ⟨z0, z1, z2, z3⟩ := HP3.out j hj
    exact ⟨hg9.cell (RX.keep H58.out (KEEP5.out _ _ _ z0 hne3)) (by simp; exact hne3), hg9.cell (RX.keep H58.out (KEEP5.out _ _ _ z1 hne3)) (by simp; exact hne3), hg9.cell (RX.keep H58.out (KEEP5.out _ _ _ z2 hne3)) (by simp; exact hne3), hg9.cell (RX.keep H58.out (KEEP5.out _ _ _ z3 hne3)) (by simp; exact hne3)⟩)
  have HB9 := Lib.hid (HB8.out.grown hg9 HB8.out.size (fun k hk => by injection hk with hk; omega))
  clear hg9 hs8 hs9 HB8 H58
  obtain ⟨g1, g2, g3, g4⟩ := edges_in h1 h8 (edgesL n)[t] (List.getElem_mem _)
  have HED := Lib.hid (List.getElem_mem (l := edgesL n) htE)
  obtain ⟨e, he⟩ : ∃ e, e = (edgesL n)[t] := ⟨_, rfl⟩
  rw [← he] at y0 y1 g1 g2 g3 g4 HED
  clear he
  obtain ⟨eA, eB⟩ := e
  dsimp only at y0 y1 g1 g2 g3 g4
  obtain ⟨A, rfl⟩ : ∃ A : Nat, eA = A := ⟨eA.toNat, by omega⟩
  obtain ⟨B, rfl⟩ : ∃ B : Nat, eB = B := ⟨eB.toNat, by omega⟩
  rw [← HM.out] at g2 g4
  have hAM : A < (nodesL n).length := by rw [← HM.out]; omega
  have hBM : B < (nodesL n).length := by rw [← HM.out]; omega
  obtain ⟨a0, a1, a2, a3⟩ := HK9.out A hAM
  obtain ⟨PA, hPA⟩ : ∃ P, P = (nodesL n)[A] := ⟨_, rfl⟩
  rw [← hPA] at a0 a1 a2 a3
  have HPA := Lib.hid hPA
  obtain ⟨PB, hPB⟩ : ∃ P, P = (nodesL n)[B] := ⟨_, rfl⟩
  have HPB := Lib.hid hPB
  clear hPA hPB
  have hpvA : Hid (pv PA = .agg #[.int .i64 PA.f, .int .i64 PA.a, .int .i64 PA.b, .int .i64 PA.c]) := Lib.hid rfl
  have hpvB : Hid (pv PB = .agg #[.int .i64 PB.f, .int .i64 PB.a, .int .i64 PB.b, .int .i64 PB.c]) := Lib.hid rfl
  have hl9 : b3 < w9.heap.size := World.block_lt_of_cell? _ _ a0
  have hn9 : ¬ (b3 = w9.heap.size) := by omega
  have hba := (Below.refl w9.heap.size w9).alloc (Nat.le_refl _) (.cells #[.int .i64 A, .int .i64 B] 39)
  have HBa := Lib.hid (HB9.out.trans (hba.mono HB9.out.size))
  have yA : (w9.alloc (.cells #[.int .i64 A, .int .i64 B] 39)).cell? ⟨w9.heap.size, 0, none⟩ = some (.int .i64 A) := (by simp [RX.cell_drew, RX.cell_alloc, Nat.add_assoc])
  have yB : (w9.alloc (.cells #[.int .i64 A, .int .i64 B] 39)).cell? ⟨w9.heap.size, 1, none⟩ = some (.int .i64 B) := (by simp [RX.cell_drew, RX.cell_alloc, Nat.add_assoc])
  have HKa : Hid (∀ p v, w9.cell? p = some v → (w9.alloc (.cells #[.int .i64 A, .int .i64 B] 39)).cell? p = some v) := Lib.hid (fun p v h => RX.keep hba h)
  have hsa : w9.heap.size < (w9.alloc (.cells #[.int .i64 A, .int .i64 B] 39)).heap.size := by simp
  clear hba
  go_wp2_with fail
  clear y0 y1
  replace a0 := HKa.out _ _ a0
  replace a1 := HKa.out _ _ a1
  replace a2 := HKa.out _ _ a2
  replace a3 := HKa.out _ _ a3
  generalize (w9.alloc (.cells #[.int .i64 A, .int .i64 B] 39)) = wa at *
  refine (gindex_fine n A PA _ m HM2.out h1 h4 hAM HPA.out hpvA.out.symm wa (hT.below HBa.out)).mono ?_
  rintro e wb ⟨rfl, hbb⟩
  replace yB := RX.keep hbb yB
  obtain ⟨d0, d1, d2, d3⟩ := HK9.out B hBM
  rw [← HPB.out] at d0 d1 d2 d3
  replace d0 := RX.keep hbb (HKa.out _ _ d0)
  replace d1 := RX.keep hbb (HKa.out _ _ d1)
  replace d2 := RX.keep hbb (HKa.out _ _ d2)
  replace d3 := RX.keep hbb (HKa.out _ _ d3)
  have HBb := Lib.hid (HBa.out.trans (hbb.mono HBa.out.size))
  clear hbb a0 a1 a2 a3 yA HBa
  go_wp2_with fail
  refine (gindex_fine n B PB _ m HM2.out h1 h4 hBM HPB.out hpvB.out.symm wb (hT.below HBb.out)).mono ?_
  rintro e wc ⟨rfl, hbc⟩
  have HBc := Lib.hid (HBb.out.trans (hbc.mono HBb.out.size))
  clear hbc d0 d1 d2 d3 yB HBb
  obtain ⟨_, _, fa, _⟩ := fine_facts h1 h4 hAM
  obtain ⟨_, _, fb, _⟩ := fine_facts h1 h4 hBM
  have hm2n := HM2.out
  have HFI : Hid (∀ hS : Searched m (fine n A), hop m (fine n A) (fine n B) = 2) := Lib.hid (fun hS => by
    have h9 := hop_two h1 h4 HED.out (by rw [hm2n] at hS; exact hS)
    rw [hm2n]; exact h9)
  rw [← hm2n] at fa fb
  obtain ⟨fA, hfA⟩ : ∃ x, x = fine n A := ⟨_, rfl⟩
  obtain ⟨fB, hfB⟩ : ∃ x, x = fine n B := ⟨_, rfl⟩
  rw [← hfA] at fa HFI
  rw [← hfB] at fb HFI
  rw [← hfA, ← hfB]
  have hm1 : 1 ≤ m := by omega
  have hm8 : m ≤ 8 := by omega
  clear hfA hfB hm2n
  go_wp2_with fail
  refine (ghops_at m fA fB hm1 hm8 fa fb wc (hT.below HBc.out)).mono ?_
  rintro e wd ⟨rfl, hS, hbd⟩
  rw [HFI.out hS]
  have HBd := Lib.hid (HBc.out.trans (hbd.mono HBc.out.size))
  clear hbd hS HBc
  go_wp2_with fail
  refine (awake03_any wd (hT.below HBd.out)).mono ?_
  rintro e we ⟨rfl, hbe⟩
  have HBe := Lib.hid (HBd.out.trans (hbe.mono HBd.out.size))
  clear hbe
  go_wp2
  go_ret
  exact ⟨rfl, HBe.out⟩
end Go.Proofs.YtlfhildbjipheaaGreatDoor
