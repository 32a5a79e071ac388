import Derived.Test.YtlfhildbjipheaaGreatDoorREnergy
import Derived.Test.YtlfhildbjipheaaGreatDoorEnergy
set_option linter.unusedSimpArgs false
set_option linter.unusedVariables false
namespace Go.Proofs.YtlfhildbjipheaaGreatDoor
open Go.RowKit Go.Grid Go.Maps Go.Sort Go.Shelf

/-! Apply and Energy, on both sides, for any precision and any vector. -/
def applyV (f s a : Int) (zs : List Int) : List Int := if VecOk f s a zs then applyL s a zs (edgesL f.toNat) else []
def energyV (f s a : Int) (zs : List Int) : Int := if VecOk f s a zs then energyL s a zs (edgesL f.toNat) else 0
theorem RdI.ints {w : World} {N : Nat} {zs : List Int} {n : Nat} (h : IntsAt w N 0 zs) (hn : zs.length = n) : RdI w (.slice (some ⟨N, 0, none⟩) n n) zs := by
  subst hn
  exact ⟨_, _, rfl, Nat.le_refl _, N, 0, fun _ => rfl, fun j hj => (h j hj).1⟩
theorem vecOk_len {f s a : Int} {zs : List Int} (h : VecOk f s a zs) : 1 ≤ zs.length ∧ zs.length ≤ 1000 := by
  obtain ⟨⟨hf1, hf8, _⟩, hlen, _⟩ := h
  have h1 : 0 ≤ 10 * f * f := Int.mul_nonneg (by omega) (by omega)
  have h2 := Int.mul_le_mul (show 10 * f ≤ 80 by omega) hf8 (by omega) (by omega)
  omega
theorem applyV_len (f s a : Int) (zs : List Int) : (applyV f s a zs).length ≤ 1000 := by
  unfold applyV
  split
  · rename_i h; rw [applyL_len]; exact (vecOk_len h).2
  · simp
theorem vecErr_yes {f s a : Int} {zs : List Int} (h : VecOk f s a zs) : vecErr f s a zs = 0 := if_pos h
theorem vecErr_no {f s a : Int} {zs : List Int} (h : ¬ VecOk f s a zs) : vecErr f s a zs = 1 := if_neg h
set_option maxRecDepth 100000
set_option maxHeartbeats 1000000
theorem applyA (f s a : Int) (v : Value) (zs : List Int) (w : World) (hR : RdI w v zs) (hl : zs.length ≤ 1000000000) (hT : HasTab w) :
    Calls Tryz.prog 26 #[prv f s a, v] w fun e w' => ∃ u, e = .returned (.tuple #[u, .int .i64 (vecErr f s a zs)]) ∧ RdI w' u (applyV f s a zs) ∧ Below w.heap.size w w' := by
  obtain ⟨p, cap, rfl, hcap, hV⟩ := hR
  by_cases h : VecOk f s a zs
  · rw [vecErr_yes h, show applyV f s a zs = applyL s a zs (edgesL f.toNat) from if_pos h]
    obtain ⟨n, rfl⟩ : ∃ n : Nat, f = n := ⟨f.toNat, by have := h.1.1; omega⟩
    rw [Int.toNat_natCast]
    refine (apply_ok n s a p zs cap w hT hV h).mono ?_
    rintro e w' ⟨N, rfl, hI, _, hb⟩
    exact ⟨_, rfl, RdI.ints hI (applyL_len _ _ _ _), hb⟩
  · rw [vecErr_no h, show applyV f s a zs = [] from if_neg h]
    refine (apply_no f s a p zs cap w hV hl h).mono ?_
    rintro e w' ⟨rfl, hb⟩
    exact ⟨_, rfl, RdI.nil _, hb⟩
theorem rapplyA (f s a : Int) (v : Value) (zs : List Int) (w : World) (hR : RdI w v zs) (hl : zs.length ≤ 1000000000) (hI : I64L zs) :
    Calls Tryz.prog 27 #[prv f s a, v] w fun e w' => ∃ u, e = .returned (.tuple #[u, .int .i64 (vecErr f s a zs)]) ∧ RdI w' u (applyV f s a zs) ∧ Below w.heap.size w w' := by
  obtain ⟨p, cap, rfl, hcap, hV⟩ := hR
  have hpv : Hid (prv f s a = .agg #[.int .i64 f, .int .i64 s, .int .i64 a]) := Lib.hid rfl
  by_cases h : VecOk f s a zs
  · have HE := Lib.hid (vecErr_yes h)
    have HA : Hid (applyV f s a zs = applyL s a zs (edgesL f.toNat)) := Lib.hid (if_pos h)
    obtain ⟨n, rfl⟩ : ∃ n : Nat, f = n := ⟨f.toNat, by have := h.1.1; omega⟩
    rw [Int.toNat_natCast] at HA
    have hln := vecOk_len h
    obtain ⟨⟨hf1, hf8, hs0, hs1, ha0, ha1⟩, hlen, hsm⟩ := h
    have hM : ((nodesL n).length : Int) = (zs.length : Int) := by
      rw [nodes_len (by omega) (by omega), hlen]; simp
    have hDin := edges_in (n := n) (by omega) (by omega)
    rw [hM] at hDin
    have hDl := edges_len (n := n) (by omega)
    rw [hpv.out]
    go_enter Tryz.func27, Tryz.ntmps27
    go_wp2_with fail
    have hb0 := (Below.refl w.heap.size w).alloc (Nat.le_refl _) (.cells #[.int .i64 n, .int .i64 s, .int .i64 a] 47)
    have c0 : (w.alloc (.cells #[.int .i64 n, .int .i64 s, .int .i64 a] 47)).cell? ⟨w.heap.size, 0, none⟩ = some (.int .i64 n) := (by simp [RX.cell_drew, RX.cell_alloc, Nat.add_assoc])
    have c1 : (w.alloc (.cells #[.int .i64 n, .int .i64 s, .int .i64 a] 47)).cell? ⟨w.heap.size, 1, none⟩ = some (.int .i64 s) := (by simp [RX.cell_drew, RX.cell_alloc, Nat.add_assoc])
    have c2 : (w.alloc (.cells #[.int .i64 n, .int .i64 s, .int .i64 a] 47)).cell? ⟨w.heap.size, 2, none⟩ = some (.int .i64 a) := (by simp [RX.cell_drew, RX.cell_alloc, Nat.add_assoc])
    generalize (w.alloc (.cells #[.int .i64 n, .int .i64 s, .int .i64 a] 47)) = w0 at *
    rw [← hpv.out]
    refine (rvector_any n s a p zs cap w0 (hV.below hb0) hl hI).mono ?_
    rintro e w1 ⟨rfl, hb1⟩
    rw [HE.out]
    replace c0 := RX.keep hb1 c0
    replace c1 := RX.keep hb1 c1
    replace c2 := RX.keep hb1 c2
    replace hb1 := hb0.trans (hb1.mono hb0.size)
    have HB1 := Lib.hid hb1
    clear hb1 hb0
    clear w0
    go_wp2_with fail
    refine (redges_any n (by omega) (by omega) w1).mono ?_
    rintro e w2 ⟨ve, rfl, hrow, hb2⟩
    obtain ⟨pe, ce, b5, rfl, hce, hpe, hP⟩ := hrow.form
    replace c0 := RX.keep hb2 c0
    replace c1 := RX.keep hb2 c1
    replace c2 := RX.keep hb2 c2
    have HB2 := Lib.hid (HB1.out.trans (hb2.mono HB1.out.size))
    clear hb2 HB1 hrow
    have hV2 := hV.below HB2.out
    obtain ⟨D, hD⟩ : ∃ D, D = edgesL n := ⟨_, rfl⟩
    rw [← hD] at hP hce hpe hDin hDl HA ⊢
    have HDD := Lib.hid (And.intro hP (And.intro hpe (And.intro hDin hV2)))
    have HSM := Lib.hid hsm
    clear hD hP hpe hDin hV hV2 hsm hI
    go_wp2_with fail
    rw [← hpv.out]
    refine (rover_any n s a pe ce b5 D p zs cap w2 (fun h => (HDD.out.2.1 h).1) HDD.out.1 hce HDD.out.2.2.1 hDl HDD.out.2.2.2 hs0 hs1 ha0 ha1 HSM.out hln.1 hln.2).mono ?_
    rintro e w3 ⟨N, rfl, hIn, _, hb3⟩
    have HB3 := Lib.hid (HB2.out.trans (hb3.mono HB2.out.size))
    have HIN := Lib.hid hIn
    clear hb3 hIn
    go_wp2
    go_ret2
    refine ⟨.slice (some ⟨N, 0, none⟩) zs.length zs.length, by rw [HE.out]; rfl, ?_, HB3.out⟩
    rw [HA.out]
    exact RdI.ints HIN.out (applyL_len _ _ _ _)
  · have HE := Lib.hid (vecErr_no h)
    have HA : Hid (applyV f s a zs = []) := Lib.hid (if_neg h)
    rw [hpv.out]
    go_enter Tryz.func27, Tryz.ntmps27
    go_wp2_with fail
    have hb0 := (Below.refl w.heap.size w).alloc (Nat.le_refl _) (.cells #[.int .i64 f, .int .i64 s, .int .i64 a] 47)
    generalize (w.alloc (.cells #[.int .i64 f, .int .i64 s, .int .i64 a] 47)) = w0 at *
    rw [← hpv.out]
    refine (rvector_any f s a p zs cap w0 (hV.below hb0) hl hI).mono ?_
    rintro e w1 ⟨rfl, hb1⟩
    rw [HE.out]
    have HB1 := Lib.hid (hb0.trans (hb1.mono hb0.size))
    clear hb1 hb0
    go_wp2
    refine bodyPost_ret (v := .tuple #[.slice none 0 0, .int .i64 1]) (by simp [results, Tryz.results27, go_sem]) rfl ?_
    exact ⟨_, by rw [HE.out], by rw [HA.out]; exact RdI.nil _, HB1.out⟩
theorem genergyA (f s a : Int) (v : Value) (zs : List Int) (w : World) (hR : RdI w v zs) (hl : zs.length ≤ 1000000000) (hT : HasTab w) :
    Calls Tryz.prog 28 #[prv f s a, v] w fun e w' => e = .returned (.tuple #[wv (energyV f s a zs), .int .i64 (vecErr f s a zs)]) ∧ Below w.heap.size w w' := by
  obtain ⟨p, cap, rfl, hcap, hV⟩ := hR
  have hpv : Hid (prv f s a = .agg #[.int .i64 f, .int .i64 s, .int .i64 a]) := Lib.hid rfl
  by_cases h : VecOk f s a zs
  · rw [vecErr_yes h, show energyV f s a zs = energyL s a zs (edgesL f.toNat) from if_pos h]
    obtain ⟨n, rfl⟩ : ∃ n : Nat, f = n := ⟨f.toNat, by have := h.1.1; omega⟩
    rw [Int.toNat_natCast]
    exact energy_at n s a p zs cap zs.length w rfl hT hV h
  · rw [show energyV f s a zs = 0 from if_neg h, vecErr_no h]
    have HE := Lib.hid (vecErr_no h)
    rw [hpv.out, ← wv_zero]
    go_enter Tryz.func28, Tryz.ntmps28
    go_wp2_with fail
    have hb0 : Below w.heap.size w ((w.alloc (.cells #[.int .i64 f, .int .i64 s, .int .i64 a] 47)).alloc (.cells #[.int .i64 0, .int .u64 0] 59)) := (by repeat (first | (with_reducible assumption) | (with_reducible exact Below.refl _ _) | (with_reducible refine Below.setCell ?_ (by first | omega | (simp; done) | (simp; omega)) _) | (with_reducible refine Below.alloc ?_ (by first | omega | (simp; done) | (simp; omega)) _) | (with_reducible apply Below.drew) | assumption))
    have hR := SumAt.new (w.alloc (.cells #[.int .i64 f, .int .i64 s, .int .i64 a] 47))
    rw [show (w.alloc (.cells #[.int .i64 f, .int .i64 s, .int .i64 a] 47)).heap.size = w.heap.size + 1 by simp] at hR
    generalize ((w.alloc (.cells #[.int .i64 f, .int .i64 s, .int .i64 a] 47)).alloc (.cells #[.int .i64 0, .int .u64 0] 59)) = W0 at *
    rw [← hpv.out]
    refine (vector_any f s a p zs cap W0 (hV.below hb0) hl).mono ?_
    rintro e w1 ⟨rfl, hb1⟩
    rw [HE.out]
    replace hR := hR.below hb1
    have HB1 := Lib.hid (hb0.trans (hb1.mono hb0.size))
    clear hb1 hb0
    obtain ⟨x0, x1, z0, z1⟩ := hR
    go_wp2
    refine bodyPost_ret (v := .tuple #[.agg #[.int .i64 0, .int .u64 0], .int .i64 1]) ?_ rfl ⟨rfl, (HB1.out.setCell (by simp) _).setCell (by simp) _⟩
    generalize hgg : ((w1.setCell ⟨w.heap.size + 1, 0, none⟩ (.int .i64 0)).setCell ⟨w.heap.size + 1, 1, none⟩ (.int .u64 0)) = W at *
    have q0 : W.cell? ⟨w.heap.size + 1, 0, none⟩ = some (.int .i64 0) := by rw [← hgg]; exact (World.cell?_setCell_other _ _ _ _ (by simp)).trans (World.cell?_setCell_same' _ _ _ (by rw [x0]; rfl))
    have q1 : W.cell? ⟨w.heap.size + 1, 1, none⟩ = some (.int .u64 0) := by rw [← hgg]; exact World.cell?_setCell_same' _ _ _ (by rw [World.cell?_setCell_other _ _ _ _ (by simp), x1]; rfl)
    simp [results, Tryz.results28, go_sem, q0, q1]
theorem renergyA (f s a : Int) (v : Value) (zs : List Int) (w : World) (hR : RdI w v zs) (hl : zs.length ≤ 1000000000) (hI : I64L zs) :
    Calls Tryz.prog 29 #[prv f s a, v] w fun e w' => e = .returned (.tuple #[wv (energyV f s a zs), .int .i64 (vecErr f s a zs)]) ∧ Below w.heap.size w w' := by
  obtain ⟨p, cap, rfl, hcap, hV⟩ := hR
  have hpv : Hid (prv f s a = .agg #[.int .i64 f, .int .i64 s, .int .i64 a]) := Lib.hid rfl
  by_cases h : VecOk f s a zs
  · rw [vecErr_yes h, show energyV f s a zs = energyL s a zs (edgesL f.toNat) from if_pos h]
    obtain ⟨n, rfl⟩ : ∃ n : Nat, f = n := ⟨f.toNat, by have := h.1.1; omega⟩
    rw [Int.toNat_natCast]
    exact renergy_ok n s a p zs cap w hV h
  · rw [show energyV f s a zs = 0 from if_neg h, vecErr_no h]
    have HE := Lib.hid (vecErr_no h)
    rw [hpv.out, ← wv_zero]
    go_enter Tryz.func29, Tryz.ntmps29
    go_wp2_with fail
    have hb0 : Below w.heap.size w ((w.alloc (.cells #[.int .i64 f, .int .i64 s, .int .i64 a] 47)).alloc (.cells #[.int .i64 0, .int .u64 0] 59)) := (by repeat (first | (with_reducible assumption) | (with_reducible exact Below.refl _ _) | (with_reducible refine Below.setCell ?_ (by first | omega | (simp; done) | (simp; omega)) _) | (with_reducible refine Below.alloc ?_ (by first | omega | (simp; done) | (simp; omega)) _) | (with_reducible apply Below.drew) | assumption))
    have hR := SumAt.new (w.alloc (.cells #[.int .i64 f, .int .i64 s, .int .i64 a] 47))
    rw [show (w.alloc (.cells #[.int .i64 f, .int .i64 s, .int .i64 a] 47)).heap.size = w.heap.size + 1 by simp] at hR
    generalize ((w.alloc (.cells #[.int .i64 f, .int .i64 s, .int .i64 a] 47)).alloc (.cells #[.int .i64 0, .int .u64 0] 59)) = W0 at *
    rw [← hpv.out]
    refine (rvector_any f s a p zs cap W0 (hV.below hb0) hl hI).mono ?_
    rintro e w1 ⟨rfl, hb1⟩
    rw [HE.out]
    replace hR := hR.below hb1
    have HB1 := Lib.hid (hb0.trans (hb1.mono hb0.size))
    clear hb1 hb0
    obtain ⟨x0, x1, z0, z1⟩ := hR
    go_wp2
    refine bodyPost_ret (v := .tuple #[.agg #[.int .i64 0, .int .u64 0], .int .i64 1]) ?_ rfl ⟨rfl, (HB1.out.setCell (by simp) _).setCell (by simp) _⟩
    generalize hgg : ((w1.setCell ⟨w.heap.size + 1, 0, none⟩ (.int .i64 0)).setCell ⟨w.heap.size + 1, 1, none⟩ (.int .u64 0)) = W at *
    have q0 : W.cell? ⟨w.heap.size + 1, 0, none⟩ = some (.int .i64 0) := by rw [← hgg]; exact (World.cell?_setCell_other _ _ _ _ (by simp)).trans (World.cell?_setCell_same' _ _ _ (by rw [x0]; rfl))
    have q1 : W.cell? ⟨w.heap.size + 1, 1, none⟩ = some (.int .u64 0) := by rw [← hgg]; exact World.cell?_setCell_same' _ _ _ (by rw [World.cell?_setCell_other _ _ _ _ (by simp), x1]; rfl)
    simp [results, Tryz.results29, go_sem, q0, q1]
end Go.Proofs.YtlfhildbjipheaaGreatDoor
