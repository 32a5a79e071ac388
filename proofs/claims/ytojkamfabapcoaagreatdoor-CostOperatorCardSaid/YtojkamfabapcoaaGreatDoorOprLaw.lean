import Derived.Test.YtojkamfabapcoaaGreatDoorKOpr
import Derived.Test.YtojkamfabapcoaaGreatDoorKLaw23
set_option linter.unusedSimpArgs false
set_option linter.unusedVariables false
namespace Go.Proofs.YtojkamfabapcoaaGreatDoor
open Go.RowKit Go.Grid Go.Shelf

/-! CostOperator. -/
theorem spread_addL : ∀ (T : List (Int × Int)) (A Z : List Int), A.length = Z.length → spread (addL A Z) T = addL A (spread Z T)
  | [], A, Z, _ => rfl
  | c :: T, A, Z, h => by
    have e : addT (addL A Z) c = addL A (addT Z c) := by
      unfold addT
      rw [addL_getD h, Int.add_assoc]
      apply List.ext_getElem
      · simp [addL]
      · intro i h1 h2
        simp only [addL, List.getElem_set, List.getElem_zipWith]
        by_cases hi : c.1.toNat = i
        · subst hi
          have hA : c.1.toNat < A.length := by simp [addL] at h1; omega
          simp only [if_true]
          rw [i64_get hA]
        · simp only [hi, if_false]
    rw [show spread (addL A Z) (c :: T) = spread (addT (addL A Z) c) T from rfl, e, spread_addL T A (addT Z c) (by rw [addT_len]; exact h)]
    rfl
theorem addL_zero : ∀ A : List Int, addL A (List.replicate A.length 0) = A
  | [] => rfl
  | a :: A => by
    have ih := addL_zero A
    simp only [List.length_cons, List.replicate_succ, addL, List.zipWith_cons_cons] at ih ⊢
    rw [ih]; simp
/-- The numbers that are carried back. -/
def backL (R : List Rw) (x : List Int) : List Int := R.map (fun r => valL r.sh x * r.weight)
theorem backL_len (R : List Rw) (x : List Int) : (backL R x).length = R.length := by simp [backL]
def mulTo (R : List Rw) (x : List Int) (k : Nat) : List Int := (backL R x).take k ++ (valsL R x).drop k
theorem mulTo_len {R : List Rw} {x : List Int} {k : Nat} (hk : k ≤ R.length) : (mulTo R x k).length = R.length := by simp [mulTo, backL, valsL]; omega
theorem mulTo_get {R : List Rw} {x : List Int} {k : Nat} (hk : k < R.length) : (mulTo R x k)[k]'(by rw [mulTo_len (by omega)]; exact hk) = valL R[k].sh x := by
  unfold mulTo
  rw [List.getElem_append_right (by rw [List.length_take]; omega)]
  have e : ((backL R x).take k).length = k := by simp [backL]; omega
  simp only [e, Nat.sub_self, List.getElem_drop, Nat.add_zero]
  simp [valsL]
theorem mulTo_succ {R : List Rw} {x : List Int} {k : Nat} (hk : k < R.length) : mulTo R x (k + 1) = (mulTo R x k).set k (valL R[k].sh x * R[k].weight) := by
  unfold mulTo
  have e : ((backL R x).take k).length = k := by simp [backL]; omega
  rw [List.set_append_right _ _ (by omega), e, Nat.sub_self, List.take_succ_eq_append_getElem (by rw [backL_len]; exact hk), List.append_assoc]
  congr 1
  rw [show (valsL R x).drop k = (valsL R x)[k]'(by simp [valsL]; exact hk) :: (valsL R x).drop (k + 1) from (List.drop_eq_getElem_cons (by simp [valsL]; exact hk)), List.set_cons_zero]
  simp [backL]
theorem mulTo_end {R : List Rw} {x : List Int} : mulTo R x R.length = backL R x := by
  unfold mulTo
  rw [List.take_of_length_le (by rw [backL_len]; omega), List.drop_of_length_le (by simp [valsL]), List.append_nil]
theorem terms_eq (x : List Int) : ∀ R : List Rw, (R.map (fun r => (r, valL r.sh x))).flatMap rowT = (R.zip (backL R x)).flatMap rowW
  | [] => rfl
  | r :: R => by
    have ih := terms_eq x R
    have e : rowT (r, valL r.sh x) = rowW (r, valL r.sh x * r.weight) := by
      unfold rowT rowW
      simp only [Int.mul_comm r.weight]
    have e2 : backL (r :: R) x = (valL r.sh x * r.weight) :: backL R x := rfl
    rw [e2, List.zip_cons_cons, List.map_cons, List.flatMap_cons, List.flatMap_cons, ih, e]
theorem mult_split {S : Sy} {x : List Int} : multL S x = addL (applyL S.s S.a x (edgesL S.f.toNat)) (transL x.length S.rows (backL S.rows x)) := by
  have hT : tAll (rfM S x) = (S.rows.zip (backL S.rows x)).flatMap rowW := terms_eq x S.rows
  unfold multL transL
  rw [hT]
  have h1 := spread_addL ((S.rows.zip (backL S.rows x)).flatMap rowW) (applyL S.s S.a x (edgesL S.f.toNat)) (List.replicate x.length 0) (by rw [apL_len, List.length_replicate])
  rw [← h1, ← apL_len S.s S.a x (edgesL S.f.toNat), addL_zero]

set_option maxRecDepth 100000 in
set_option maxHeartbeats 6000000 in
theorem opr_law (W : World) (q0 : Option Addr) (cap0 cb co : Nat) (L : List Int) (hp : 0 < L.length → q0 = some ⟨cb, co, none⟩) (hl : L.length ≤ cap0) (hc : cap0 ≤ 9223372036854775807)
    (hcell : ∀ k (h : k < L.length), W.cell? ⟨cb, co + k, none⟩ = some (.int .u8 L[k]) ∧ 0 ≤ L[k] ∧ L[k] < 256) (hT : HasTab W) :
    Calls Tryz.prog 4 #[.slice q0 L.length cap0] W fun e w' => e = .returned (.bool true) ∧ Below W.heap.size W w' := by
  have HIN := Lib.hid (And.intro hp hcell)
  clear hp hcell
  go_enter Tryz.func4, Tryz.ntmps4
  go_wp2_with fail
  refine (awake23_any W hT).mono ?_
  rintro e w1 ⟨rfl, hB⟩
  go_wp2_with fail
  refine (start_any W q0 cap0 cb co 240 L w1 (by omega) HIN.out.1 hl hc HIN.out.2 hB).mono ?_
  rintro e w2 ⟨g, b, M, rfl, hg, hb2, hbM, hC⟩
  have hgW : W.heap.size ≤ g := by have := hB.size; omega
  replace hB := hB.trans (hb2.mono hB.size)
  have hgl := hC.lt
  have hbg : 0 < M.length → b < g := fun h0 => by have := hbM h0; omega
  clear hb2 hbM hg HIN hl hc
  clear w1
  go_wp2_with fail
  refine (cprec_any w2 g b M 0 hC).mono ?_
  rintro e w1 ⟨f, s, a, rfl, hP, hg1, i1, hC1⟩
  replace hB := hB.grown hg1 hB.size (fun k hk => by injection hk with hk; omega)
  have hgl1 : g < w1.heap.size := by have := hg1.size; omega
  have hf1 := hP.1.1
  have hf2 := hP.1.2
  obtain ⟨n, rfl⟩ : ∃ n : Nat, f = (n : Int) := ⟨f.toNat, by omega⟩
  have hpv : Hid (prv n s a = .agg #[.int .i64 n, .int .i64 s, .int .i64 a]) := Lib.hid rfl
  rw [hpv.out]
  have HP := Lib.hid hP
  clear hg1 hP hC hgl
  clear w2
  go_wp2_with fail
  have d0 : (w1.alloc (.cells #[.int .i64 n, .int .i64 s, .int .i64 a] 23)).cell? ⟨w1.heap.size, 0, none⟩ = some (.int .i64 n) := (by simp [RX.cell_drew, RX.cell_alloc, Nat.add_assoc])
  have d1 : (w1.alloc (.cells #[.int .i64 n, .int .i64 s, .int .i64 a] 23)).cell? ⟨w1.heap.size, 1, none⟩ = some (.int .i64 s) := (by simp [RX.cell_drew, RX.cell_alloc, Nat.add_assoc])
  have d2 : (w1.alloc (.cells #[.int .i64 n, .int .i64 s, .int .i64 a] 23)).cell? ⟨w1.heap.size, 2, none⟩ = some (.int .i64 a) := (by simp [RX.cell_drew, RX.cell_alloc, Nat.add_assoc])
  have hb4 := (Below.refl w1.heap.size w1).alloc (Nat.le_refl _) (.cells #[.int .i64 n, .int .i64 s, .int .i64 a] 23)
  replace hB := hB.trans (hb4.mono hB.size)
  have hC2 := hC1.below hb4
  have hsz : (w1.alloc (.cells #[.int .i64 n, .int .i64 s, .int .i64 a] 23)).heap.size = w1.heap.size + 1 := by simp
  obtain ⟨P, hPe⟩ : ∃ P, P = w1.heap.size := ⟨_, rfl⟩
  rw [← hPe] at d0 d1 d2 hgl1 hsz ⊢
  clear hC1 hb4 hPe
  generalize (w1.alloc (.cells #[.int .i64 n, .int .i64 s, .int .i64 a] 23)) = W2 at *
  clear w1
  refine (crows_any W2 g b M i1 n 6 hC2 (by omega) (by omega) (by omega)).mono ?_
  rintro e w3 ⟨rv, X, bz, cz, zs, rfl, hXm, hRX, hGX, hzl, hzc, hbz, hzi, hzb, hg3, i3, hC3⟩
  replace hB := hB.grown hg3 hB.size (fun k hk => by injection hk with hk; omega)
  have hgP : P ≠ g := by omega
  obtain ⟨base, hbase⟩ : ∃ base, base = W2.heap.size := ⟨_, rfl⟩
  rw [← hbase] at hRX hGX hbz
  have hPb : P < base := by omega
  have hgb : g < base := by omega
  have hb3 : base ≤ w3.heap.size := by have := hg3.size; omega
  replace d0 := hg3.cell d0 (by simpa using hgP)
  replace d1 := hg3.cell d1 (by simpa using hgP)
  replace d2 := hg3.cell d2 (by simpa using hgP)
  obtain ⟨p1, cp1, bX, rfl, hXc, hXp, hXat⟩ := hRX.form
  obtain ⟨NN, hNN⟩ : ∃ NN : Nat, 10 * (n : Int) * n + 2 = NN := ⟨(10 * (n : Int) * n + 2).toNat, by
    have := Int.mul_nonneg (show (0 : Int) ≤ 10 * n by omega) (show (0 : Int) ≤ n by omega); omega⟩
  have hn2 : NN ≤ 642 := by
    have := Int.mul_le_mul (show 10 * (n : Int) ≤ 20 by omega) hf2 (by omega) (by omega)
    omega
  have hn12 : 12 ≤ NN := by
    have := Int.mul_le_mul (show 10 ≤ 10 * (n : Int) by omega) hf1 (by omega) (by omega)
    omega
  rw [hNN] at hGX hzl
  have HNN := Lib.hid hNN
  have hzl2 : zs.length = NN := by omega
  have HR : Hid (RwIn w3 p1 (X.map (·.1))) := Lib.hid (RosAt.rwin hXat (fun h0 => (hXp h0).1) hGX)
  have HRG : Hid (∀ r ∈ X.map (·.1), RowG NN r) := Lib.hid (fun r hr => by
    obtain ⟨x, hx, rfl⟩ := List.mem_map.1 hr
    exact (hGX x hx).1)
  have HX := Lib.hid hXat
  have HXP := Lib.hid hXp
  have HG := Lib.hid hGX
  have HZB := Lib.hid hzb
  have HZL := Lib.hid hzl2
  have HXC := Lib.hid hXc
  have HVZ : Hid (VecAt w3 (some ⟨bz, 0, none⟩) zs) := Lib.hid (vec_of_ints hzi)
  have HXL : Hid ((X.map (·.1)).length = X.length) := Lib.hid (by simp)
  have hC4 := hC3
  have hgl3 : g < w3.heap.size := hC3.lt
  have hPl : P < w3.heap.size := World.block_lt_of_cell? _ _ d0
  rw [hzl2]
  clear hRX hXat hXp hGX hzi hzb hzl hzl2 hXc hg3 hC2 hC3 hNN hsz hbase
  clear W2
  go_wp2_with fail
  have hbzs : Hid (Bd 1099511627776 zs) := Lib.hid (fun y hy => by have := HZB.out y hy; omega)
  refine (oapply_ok p1 (some ⟨bz, 0, none⟩) (X.map (·.1)) zs cp1 cz X.length NN _ HXL.out (HR.out.below (by repeat (first | (with_reducible assumption) | (with_reducible exact Below.refl _ _) | (with_reducible refine Below.setCell ?_ (by first | omega | (simp; done) | (simp; omega)) _) | (with_reducible refine Below.alloc ?_ (by first | omega | (simp; done) | (simp; omega)) _) | (with_reducible apply Below.drew) | assumption))) (by omega) HRG.out HZL.out hn2 (HVZ.out.below (by repeat (first | (with_reducible assumption) | (with_reducible exact Below.refl _ _) | (with_reducible refine Below.setCell ?_ (by first | omega | (simp; done) | (simp; omega)) _) | (with_reducible refine Below.alloc ?_ (by first | omega | (simp; done) | (simp; omega)) _) | (with_reducible apply Below.drew) | assumption))) hbzs.out).mono ?_
  rintro e w4 ⟨vv, rfl, hvr, hb4⟩
  have s0 : w4.cell? ⟨w3.heap.size, 0, none⟩ = some (.int .i64 n) := RX.keep hb4 (by simp [RX.cell_drew, RX.cell_alloc, Nat.add_assoc])
  have s1 : w4.cell? ⟨w3.heap.size, 1, none⟩ = some (.int .i64 s) := RX.keep hb4 (by simp [RX.cell_drew, RX.cell_alloc, Nat.add_assoc])
  have s2 : w4.cell? ⟨w3.heap.size, 2, none⟩ = some (.int .i64 a) := RX.keep hb4 (by simp [RX.cell_drew, RX.cell_alloc, Nat.add_assoc])
  have s3 : w4.cell? ⟨w3.heap.size, 3, none⟩ = some (.slice p1 X.length cp1) := RX.keep hb4 (by simp [RX.cell_drew, RX.cell_alloc, Nat.add_assoc])
  have s4 : w4.cell? ⟨w3.heap.size, 4, none⟩ = some (.slice none 0 0) := RX.keep hb4 (by simp [RX.cell_drew, RX.cell_alloc, Nat.add_assoc])
  have sf : w4.frozen? ⟨w3.heap.size, 4, none⟩ = false := by rw [World.frozen?_of_block (hb4.block _ (by simp))]; simp
  have HB34 : Hid (Below w3.heap.size w3 w4) := Lib.hid (Below.trans (by repeat (first | (with_reducible assumption) | (with_reducible exact Below.refl _ _) | (with_reducible refine Below.setCell ?_ (by first | omega | (simp; done) | (simp; omega)) _) | (with_reducible refine Below.alloc ?_ (by first | omega | (simp; done) | (simp; omega)) _) | (with_reducible apply Below.drew) | assumption)) (hb4.mono (by simp <;> omega)))
  simp only [World.size_alloc] at hvr
  obtain ⟨Sb, hSb⟩ : ∃ Sb, Sb = w3.heap.size := ⟨_, rfl⟩
  rw [← hSb] at s0 s1 s2 s3 s4 sf hvr ⊢
  have HSB := Lib.hid hSb
  obtain ⟨pv, cv, bv, rfl, hvc, hvp, hvi⟩ := hvr.form
  have hvl : (valsL (X.map (·.1)) zs).length = X.length := by simp [valsL]
  rw [hvl] at hvc hvp ⊢
  have HVI := Lib.hid hvi
  have HVP := Lib.hid hvp
  have HVL := Lib.hid hvl
  obtain ⟨A, hA⟩ : ∃ A, A = w4.heap.size := ⟨_, rfl⟩
  have HA4 := Lib.hid hA
  have hSA : Sb < A := by rw [hA]; exact World.block_lt_of_cell? _ _ s0
  have hPS : P < Sb := by omega
  have hgS : g < Sb := by omega
  have hbzS : base ≤ bz := hbz
  clear hb4 hvr hvi hvp hvl hvc hSb hA
  go_wp2
  go_loopw [46] (fun i wr => ∃ (k : Nat) (tv : Value), k ≤ X.length ∧ i = .int .i64 k ∧ wr.cell? ⟨Sb, 4, none⟩ = some tv ∧ RowV wr A tv ((X.take k).map (fun x => tgt zs x.1)) ∧ w4.grownBy wr (some Sb) ∧ wr.frozen? ⟨Sb, 4, none⟩ = false ∧ (∀ j v, j < 4 → w4.cell? ⟨Sb, j, none⟩ = some v → wr.cell? ⟨Sb, j, none⟩ = some v)) (fun i _ => X.length - (intOf i).toNat)
  case atStart => exact ⟨0, _, Nat.zero_le _, rfl, s4, by rw [List.take_zero]; exact RowV.nil _ _, grw_refl _ _, sf, fun j v _ e => e⟩
  case round =>
    clear s4 sf
    obtain ⟨k, tv, hk, rfl, ct, hrow, hgr, hfr, hkeep⟩ := hrel
    by_cases hlt : k < X.length
    · have hdk : decide ((k : Int) < (X.length : Int)) = true := decide_eq_true (by omega)
      obtain ⟨rfl, hbX1, hbX2⟩ := HXP.out (by omega)
      have hbXS : bX < Sb := by have := HSB.out; omega
      have hbXne : ¬ (bX = Sb) := by omega
      have hgr3 : w3.grownBy wr (some Sb) := (grw_below HB34.out _).trans hgr
      have hb3r : Below w3.heap.size w3 wr := (Below.refl _ _).grown hgr3 (Nat.le_refl _) (fun k hk => by injection hk with hk; have := HSB.out; omega)
      have kc : ∀ j, j < 4 → wr.cell? ⟨bX, k * 4 + j, none⟩ = (encR X[k])[j]? := fun j hj => by
        have e1 := RosAt.cellsOf HX.out (w' := wr) (fun o v e => RX.keep hb3r e) k hlt j hj
        exact e1
      have k0 := kc 0 (by omega)
      have k1 := kc 1 (by omega)
      have k2 := kc 2 (by omega)
      have k3 := kc 3 (by omega)
      simp only [encR, Nat.add_zero, List.getElem?_cons_zero, List.getElem?_cons_succ] at k0 k1 k2 k3
      obtain ⟨g1, g2, g3⟩ := HG.out X[k] (List.getElem_mem _)
      have hlen := g1.len (by omega)
      have HTK : Hid ((X.take (k + 1)).map (fun x => tgt zs x.1) = (X.take k).map (fun x => tgt zs x.1) ++ [tgt zs X[k].1]) := Lib.hid (by
        rw [List.take_succ_eq_append_getElem hlt, List.map_append]; rfl)
      obtain ⟨rfl, hbv1, hbv2⟩ := HVP.out (by omega)
      have hbvA : bv < A := by rw [HA4.out]; exact hbv2
      have hbvne : ¬ (bv = Sb) := by omega
      have vk := hgr.cell ((HVI.out k (by rw [HVL.out]; exact hlt)).1) (by simp; exact hbvne)
      rw [Nat.zero_add] at vk
      have hve : (valsL (X.map (·.1)) zs)[k]'(by rw [HVL.out]; exact hlt) = valL X[k].1.sh zs := by simp [valsL]
      rw [hve] at vk
      obtain ⟨x, hx⟩ : ∃ x, x = X[k] := ⟨_, rfl⟩
      rw [← hx] at k0 k1 k2 k3 g1 g2 g3 hlen HTK vk
      obtain ⟨r, q, cap⟩ := x
      dsimp only at k0 k1 k2 k3 g1 g2 g3 hlen HTK vk
      have hvr := g1.2.2.2.2.1
      have HSW := Lib.hid g1.shw
      have HSI := Lib.hid (g3.shin.below hb3r)
      have HVZr := Lib.hid (HVZ.out.below hb3r)
      have HTG := Lib.hid (g1.target HZB.out)
      have hrw : Hid (rwv r q cap = .agg #[.slice q r.sh.length cap, .int .i64 r.value, .int .i64 r.weight, .int .i64 r.report]) := Lib.hid rfl
      obtain ⟨T, hT⟩ : ∃ T, T = (X.take k).map (fun x => tgt zs x.1) := ⟨_, rfl⟩
      rw [← hT] at hrow HTK
      have hTl : T.length = k := by rw [hT]; simp; omega
      have HTL := Lib.hid hTl
      obtain ⟨pt, cc, rfl, hcc⟩ := own_slice hrow
      rw [hTl] at ct
      have hk0 : (0 : Int) ≤ (k : Int) := by omega
      have hkI : (k : Int) < (X.length : Int) := by omega
      have HROW := Lib.hid hrow
      have HKEEP := Lib.hid hkeep
      have HGRW := Lib.hid hgr
      have hSbr : Sb < wr.heap.size := World.block_lt_of_cell? _ _ ct
      have hsw4 : A ≤ wr.heap.size := by rw [HA4.out]; exact hgr.size
      have hbXr : bX < wr.heap.size := by omega
      have hbvr : bv < wr.heap.size := by omega
      have hCT : Hid (∀ w', ShIn w' q r.sh → VecAt w' (some ⟨bz, 0, none⟩) zs → Calls Tryz.prog 17 #[.slice (some ⟨bz, 0, none⟩) NN cz, .agg #[.slice q r.sh.length cap, .int .i64 r.value, .int .i64 r.weight, .int .i64 r.report]] w' fun e w'' => e = .returned (.int .i64 (215040 * r.value - valL r.sh zs)) ∧ Below w'.heap.size w' w'') := Lib.hid (fun w' h1 h2 => by
        have h := ctarget_any r q cap zs (some ⟨bz, 0, none⟩) cz w' h1 g2 (by omega) HSW.out h2 hbzs.out (by rw [HZL.out]; omega) (by omega)
        rw [HZL.out] at h; exact h)
      have hvb := HSW.out.val_all hbzs.out (by omega)
      obtain ⟨vz, hvz⟩ : ∃ vz, vz = valL r.sh zs := ⟨_, rfl⟩
      rw [← hvz] at vk hCT hvb
      have HTQ : Hid (tgt zs r = 215040 * r.value - vz) := Lib.hid (by rw [hvz]; rfl)
      clear hx g1 g3 hgr3 hb3r hT hTl hrow kc hkeep hgr hve hvz
      go_wp2
      obtain ⟨Rb, hRb⟩ : ∃ Rb, Rb = wr.heap.size := ⟨_, rfl⟩
      refine absW (F := fun w' => w'.cell? ⟨Sb, 4, none⟩ = some (.slice pt k cc) ∧ w'.cell? ⟨wr.heap.size, 0, none⟩ = some (.slice q r.sh.length cap) ∧ w'.cell? ⟨wr.heap.size, 1, none⟩ = some (.int .i64 r.value) ∧ w'.cell? ⟨wr.heap.size, 2, none⟩ = some (.int .i64 r.weight) ∧ w'.cell? ⟨wr.heap.size, 3, none⟩ = some (.int .i64 r.report) ∧ w'.cell? ⟨bv, k, none⟩ = some (.int .i64 vz) ∧ Below wr.heap.size wr w') ⟨(by (try have hLt := World.block_lt_of_cell? _ _ ct); (try simp only at hLt); (repeat first | rw [RX.cell_drew] | rw [World.cell?_setCell_other _ _ _ _ (by first | (simp; done) | (simp; omega) | omega)] | rw [RX.cell_alloc, if_neg (by first | (simp; done) | (simp; omega) | omega)]); first | exact ct | (rw [RX.cell_alloc, if_pos (by first | (simp; done) | omega)]; exact ct)), (by simp [RX.cell_drew, RX.cell_alloc, Nat.add_assoc]), (by simp [RX.cell_drew, RX.cell_alloc, Nat.add_assoc]), (by simp [RX.cell_drew, RX.cell_alloc, Nat.add_assoc]), (by simp [RX.cell_drew, RX.cell_alloc, Nat.add_assoc]), (by (try have hLt := World.block_lt_of_cell? _ _ vk); (try simp only at hLt); (repeat first | rw [RX.cell_drew] | rw [World.cell?_setCell_other _ _ _ _ (by first | (simp; done) | (simp; omega) | omega)] | rw [RX.cell_alloc, if_neg (by first | (simp; done) | (simp; omega) | omega)]); first | exact vk | (rw [RX.cell_alloc, if_pos (by first | (simp; done) | omega)]; exact vk)), (by repeat (first | (with_reducible assumption) | (with_reducible exact Below.refl _ _) | (with_reducible refine Below.setCell ?_ (by first | omega | (simp; done) | (simp; omega)) _) | (with_reducible refine Below.alloc ?_ (by first | omega | (simp; done) | (simp; omega)) _) | (with_reducible apply Below.drew) | assumption))⟩ ?_
      rintro W5 ⟨a0, a1, a2, a3, a4, vk5, hb5⟩
      rw [← hRb] at a1 a2 a3 a4 ⊢
      have hRbne : ¬ (Sb = Rb) := by omega
      have HB5 := Lib.hid hb5
      have HRB := Lib.hid hRb
      clear hb5 ct k0 k1 k2 k3 vk hRb
      refine RY.region RX.fN (fun w' => w'.cell? ⟨Sb, 4, none⟩ = some (.slice pt k cc) ∧ w'.cell? ⟨Rb, 0, none⟩ = some (.slice q r.sh.length cap) ∧ w'.cell? ⟨Rb, 1, none⟩ = some (.int .i64 r.value) ∧ w'.cell? ⟨Rb, 2, none⟩ = some (.int .i64 r.weight) ∧ w'.cell? ⟨Rb, 3, none⟩ = some (.int .i64 r.report)) (by kernel_rfl) (by kernel_rfl) (⟨a0, a1, a2, a3, a4⟩) (fun OPS HO QR hQR => ?_)
      repeat
        refine RY.step (fun R hR => ?_)
        first
        | (refine RY.one_skip (by first | rfl | (rw [HO.out]; rfl)) (by simp only [RX.put_some, RX.put_none, List.set_cons_zero, List.set_cons_succ]; rfl) ?_
           refine hR _ _ ?_; clear hR R)
        | (refine RY.one_move (by first | rfl | (rw [HO.out]; rfl)) rfl (by first | exact Or.inl rfl | exact Or.inr rfl) (by simp only [RX.eval_tmp, RX.eval_const, List.getD_cons_zero, List.getD_cons_succ]; rfl) (by simp only [RX.put_some, RX.put_none, List.set_cons_zero, List.set_cons_succ]; rfl) ?_
           refine hR _ _ ?_; clear hR R)
        | (refine RY.one_nil (by first | rfl | (rw [HO.out]; rfl)) rfl rfl (by simp only [RX.eval_tmp, RX.eval_const, List.getD_cons_zero, List.getD_cons_succ]; rfl) (by simp only [RX.put_some, RX.put_none, List.set_cons_zero, List.set_cons_succ]; rfl) ?_
           refine hR _ _ ?_; clear hR R)
        | (refine RY.one_float (by first | rfl | (rw [HO.out]; rfl)) rfl rfl rfl ?_
           apply Exists.intro; apply Exists.intro
           refine ⟨fun w' hS K hK => ?_, ?_, ?_⟩
           · obtain ⟨hS1, hS2, hS3, hS4, hS5⟩ := hS; go_wp2; exact hK _ _ (by simp only [RX.arr_getD, List.getD_cons_zero, List.getD_cons_succ]; first | exact RX.dec_t (by omega) | exact RX.dec_f (by omega) | exact RX.beq_t (by omega) | exact RX.beq_f (by omega) | exact RX.bne_t (by omega) | exact RX.bne_f (by omega) | exact RX.bneB _ | rfl) rfl
           · simp only [RX.put_some, RX.put_none, List.set_cons_zero, List.set_cons_succ]; rfl
           refine hR _ _ ?_; clear hR R)
      refine RY.step (fun R hR => ?_)
      refine RY.one_chain (by first | rfl | (rw [HO.out]; rfl)) rfl (fun K hK => ?_)
      go_wp2_with fail
      refine (hCT.out _ ((HSI.out.below HB5.out).below (by repeat (first | (with_reducible assumption) | (with_reducible exact Below.refl _ _) | (with_reducible refine Below.setCell ?_ (by first | omega | (simp; done) | (simp; omega)) _) | (with_reducible refine Below.alloc ?_ (by first | omega | (simp; done) | (simp; omega)) _) | (with_reducible apply Below.drew) | assumption))) ((HVZr.out.below HB5.out).below (by repeat (first | (with_reducible assumption) | (with_reducible exact Below.refl _ _) | (with_reducible refine Below.setCell ?_ (by first | omega | (simp; done) | (simp; omega)) _) | (with_reducible refine Below.alloc ?_ (by first | omega | (simp; done) | (simp; omega)) _) | (with_reducible apply Below.drew) | assumption)))).mono ?_
      rintro e w6 ⟨rfl, hb6⟩
      replace hb6 : Below W5.heap.size W5 w6 := ⟨hb6.os, hb6.tape, hb6.output, hb6.size, hb6.block⟩
      have z0 := RX.keep hb6 a0
      have z1 := RX.keep hb6 a1
      have z2 := RX.keep hb6 a2
      have z3 := RX.keep hb6 a3
      have z4 := RX.keep hb6 a4
      have vk6 := RX.keep hb6 vk5
      have HB6 : Hid (Below wr.heap.size wr w6) := Lib.hid (HB5.out.trans (hb6.mono HB5.out.size))
      have hown := own_below HROW.out HB6.out
      obtain ⟨tg, htg⟩ : ∃ tg, tg = 215040 * r.value - vz := ⟨_, rfl⟩
      have HTG2 := Lib.hid htg
      have htgb : -10000000000000000 ≤ tg ∧ tg ≤ 10000000000000000 := by omega
      rw [← htg]
      clear hb6 a0 a1 a2 a3 a4 vk5 htg
      refine hK _ _ ⟨.inr (⟨z0, z1, z2, z3, z4⟩), hR _ _ ?_⟩; clear hK K hR R
      repeat
        refine RY.step (fun R hR => ?_)
        first
        | (refine RY.one_skip (by first | rfl | (rw [HO.out]; rfl)) (by simp only [RX.put_some, RX.put_none, List.set_cons_zero, List.set_cons_succ]; rfl) ?_
           refine hR _ _ ?_; clear hR R)
        | (refine RY.one_move (by first | rfl | (rw [HO.out]; rfl)) rfl (by first | exact Or.inl rfl | exact Or.inr rfl) (by simp only [RX.eval_tmp, RX.eval_const, List.getD_cons_zero, List.getD_cons_succ]; rfl) (by simp only [RX.put_some, RX.put_none, List.set_cons_zero, List.set_cons_succ]; rfl) ?_
           refine hR _ _ ?_; clear hR R)
        | (refine RY.one_nil (by first | rfl | (rw [HO.out]; rfl)) rfl rfl (by simp only [RX.eval_tmp, RX.eval_const, List.getD_cons_zero, List.getD_cons_succ]; rfl) (by simp only [RX.put_some, RX.put_none, List.set_cons_zero, List.set_cons_succ]; rfl) ?_
           refine hR _ _ ?_; clear hR R)
        | (refine RY.one_float (by first | rfl | (rw [HO.out]; rfl)) rfl rfl rfl ?_
           apply Exists.intro; apply Exists.intro
           refine ⟨fun w' hS K hK => ?_, ?_, ?_⟩
           · obtain ⟨hS1, hS2, hS3, hS4, hS5⟩ := hS; go_wp2; exact hK _ _ (by simp only [RX.arr_getD, List.getD_cons_zero, List.getD_cons_succ]; first | exact RX.dec_t (by omega) | exact RX.dec_f (by omega) | exact RX.beq_t (by omega) | exact RX.beq_f (by omega) | exact RX.bne_t (by omega) | exact RX.bne_f (by omega) | exact RX.bneB _ | rfl) rfl
           · simp only [RX.put_some, RX.put_none, List.set_cons_zero, List.set_cons_succ]; rfl
           refine hR _ _ ?_; clear hR R)
      refine RY.step (fun R hR => ?_)
      refine RY.one_chain (by first | rfl | (rw [HO.out]; rfl)) rfl (fun K hK => ?_)
      go_wp2
      refine ⟨.inr (⟨(by (try have hLt := World.block_lt_of_cell? _ _ z0); (try simp only at hLt); (repeat first | rw [RX.cell_drew] | rw [World.cell?_setCell_other _ _ _ _ (by first | (simp; done) | (simp; omega) | omega)] | rw [RX.cell_alloc, if_neg (by first | (simp; done) | (simp; omega) | omega)]); first | exact z0 | (rw [RX.cell_alloc, if_pos (by first | (simp; done) | omega)]; exact z0)), (by (try have hLt := World.block_lt_of_cell? _ _ z1); (try simp only at hLt); (repeat first | rw [RX.cell_drew] | rw [World.cell?_setCell_other _ _ _ _ (by first | (simp; done) | (simp; omega) | omega)] | rw [RX.cell_alloc, if_neg (by first | (simp; done) | (simp; omega) | omega)]); first | exact z1 | (rw [RX.cell_alloc, if_pos (by first | (simp; done) | omega)]; exact z1)), (by (try have hLt := World.block_lt_of_cell? _ _ z2); (try simp only at hLt); (repeat first | rw [RX.cell_drew] | rw [World.cell?_setCell_other _ _ _ _ (by first | (simp; done) | (simp; omega) | omega)] | rw [RX.cell_alloc, if_neg (by first | (simp; done) | (simp; omega) | omega)]); first | exact z2 | (rw [RX.cell_alloc, if_pos (by first | (simp; done) | omega)]; exact z2)), (by (try have hLt := World.block_lt_of_cell? _ _ z3); (try simp only at hLt); (repeat first | rw [RX.cell_drew] | rw [World.cell?_setCell_other _ _ _ _ (by first | (simp; done) | (simp; omega) | omega)] | rw [RX.cell_alloc, if_neg (by first | (simp; done) | (simp; omega) | omega)]); first | exact z3 | (rw [RX.cell_alloc, if_pos (by first | (simp; done) | omega)]; exact z3)), (by (try have hLt := World.block_lt_of_cell? _ _ z4); (try simp only at hLt); (repeat first | rw [RX.cell_drew] | rw [World.cell?_setCell_other _ _ _ _ (by first | (simp; done) | (simp; omega) | omega)] | rw [RX.cell_alloc, if_neg (by first | (simp; done) | (simp; omega) | omega)]); first | exact z4 | (rw [RX.cell_alloc, if_pos (by first | (simp; done) | omega)]; exact z4))⟩), hR _ _ ?_⟩; clear hR R
      repeat
        refine RY.step (fun R hR => ?_)
        first
        | (refine RY.one_skip (by first | rfl | (rw [HO.out]; rfl)) (by simp only [RX.put_some, RX.put_none, List.set_cons_zero, List.set_cons_succ]; rfl) ?_
           refine hR _ _ ?_; clear hR R)
        | (refine RY.one_move (by first | rfl | (rw [HO.out]; rfl)) rfl (by first | exact Or.inl rfl | exact Or.inr rfl) (by simp only [RX.eval_tmp, RX.eval_const, List.getD_cons_zero, List.getD_cons_succ]; rfl) (by simp only [RX.put_some, RX.put_none, List.set_cons_zero, List.set_cons_succ]; rfl) ?_
           refine hR _ _ ?_; clear hR R)
        | (refine RY.one_nil (by first | rfl | (rw [HO.out]; rfl)) rfl rfl (by simp only [RX.eval_tmp, RX.eval_const, List.getD_cons_zero, List.getD_cons_succ]; rfl) (by simp only [RX.put_some, RX.put_none, List.set_cons_zero, List.set_cons_succ]; rfl) ?_
           refine hR _ _ ?_; clear hR R)
        | (refine RY.one_float (by first | rfl | (rw [HO.out]; rfl)) rfl rfl rfl ?_
           apply Exists.intro; apply Exists.intro
           refine ⟨fun w' hS K hK => ?_, ?_, ?_⟩
           · obtain ⟨hS1, hS2, hS3, hS4, hS5⟩ := hS; go_wp2; exact hK _ _ (by simp only [RX.arr_getD, List.getD_cons_zero, List.getD_cons_succ]; first | exact RX.dec_t (by omega) | exact RX.dec_f (by omega) | exact RX.beq_t (by omega) | exact RX.beq_f (by omega) | exact RX.bne_t (by omega) | exact RX.bne_f (by omega) | exact RX.bneB _ | rfl) rfl
           · simp only [RX.put_some, RX.put_none, List.set_cons_zero, List.set_cons_succ]; rfl
           refine hR _ _ ?_; clear hR R)
      refine RY.step (fun R hR => ?_)
      refine RY.one_chain (by first | rfl | (rw [HO.out]; rfl)) rfl (fun K hK => ?_)
      refine RX.wp_app elInt _ _ rfl A _ _ _ (World.ownsRow.alloc hown _) (by simp only [RX.eval_tmp, RX.eval_const, List.getD_cons_zero, List.getD_cons_succ, HTL.out]) w6.heap.size _ 1 (by simp only [RX.eval_tmp, RX.eval_const, List.getD_cons_zero, List.getD_cons_succ]) (heap_alloc_new _ _) rfl (by simp [Value.oneCell']) (by have := HTL.out; omega) (by have := HTL.out; omega) (by have := HB6.out.size; simp; omega) (fun v5 w7 hown5 hb7 hg7 hat7 => ?_)
      have hg67 : w6.grownBy w7 (Value.slice pt T.length cc).ownBlock := (World.grownBy_alloc w6 _ _).trans hg7
      have hlow : ∀ q, (Value.slice pt T.length cc).ownBlock = some q → A ≤ q ∧ q < Rb := fun q hq => ⟨(World.ownsRow.lt hown q hq).1, by rw [HRB.out]; exact (World.ownsRow.lt HROW.out q hq).2⟩
      have hnb : ∀ b, b < A ∨ Rb ≤ b → some b ≠ (Value.slice pt T.length cc).ownBlock := fun b hb e => by have := hlow b e.symm; omega
      have y0 := hg67.cell z0 (hnb _ (.inl hSA))
      have y1 := hg67.cell z1 (hnb _ (.inr (Nat.le_refl _)))
      have y2 := hg67.cell z2 (hnb _ (.inr (Nat.le_refl _)))
      have y3 := hg67.cell z3 (hnb _ (.inr (Nat.le_refl _)))
      have y4 := hg67.cell z4 (hnb _ (.inr (Nat.le_refl _)))
      have vk7 := hg67.cell vk6 (hnb _ (.inl hbvA))
      have hwr7 : wr.grownBy w7 (Value.slice pt T.length cc).ownBlock := (grw_below HB6.out _).trans hg67
      have y5 : w7.frozen? ⟨Sb, 4, none⟩ = false := (World.frozen?_of_block (hwr7.block Sb hSbr (hnb _ (.inl hSA)))).trans hfr
      have HW7 : Hid (w4.grownBy w7 (some Sb)) := Lib.hid (grw_own HGRW.out hwr7 (fun q hq => by have := hlow q hq; have := HA4.out; omega))
      have HK7 : Hid (∀ j v, j < 4 → w4.cell? ⟨Sb, j, none⟩ = some v → w7.cell? ⟨Sb, j, none⟩ = some v) := Lib.hid (fun j v hj e => hwr7.cell (HKEEP.out j v hj e) (hnb _ (.inl hSA)))
      have hrow5 : RowV w7 A v5 (T ++ [tg]) := RowV.snoc hown5
      obtain ⟨p5, c5, b5, rfl, hc5, hp5, hi5⟩ := hrow5.form
      have hTl1 : (T ++ [tg]).length = k + 1 := by rw [List.length_append, HTL.out]; rfl
      rw [hTl1] at hc5 hp5
      obtain ⟨rfl, hb51, hb52⟩ := hp5 (by omega)
      have tk := (hi5 k (by rw [hTl1]; omega)).1
      rw [Nat.zero_add, show (T ++ [tg])[k]'(by rw [hTl1]; omega) = tg by simp [HTL.out]] at tk
      have hb5S : ¬ (b5 = Sb) := by omega
      have HOWN := Lib.hid hrow5
      rw [hTl1]
      clear z0 z1 z2 z3 z4 hg7 hb7 hat7 hg67 hwr7 hown hown5 hi5 hp5 hrow5 vk6
      refine hK _ _ ⟨.inr (⟨y0, y1, y2, y3, y4⟩), ?_⟩; clear hK K; refine RY.at_ (by simp only [RX.put_some, RX.put_none, List.set_cons_zero, List.set_cons_succ]; rfl) (hR _ _ ?_); clear hR R
      repeat
        refine RY.step (fun R hR => ?_)
        first
        | (refine RY.one_skip (by first | rfl | (rw [HO.out]; rfl)) (by simp only [RX.put_some, RX.put_none, List.set_cons_zero, List.set_cons_succ]; rfl) ?_
           refine hR _ _ ?_; clear hR R)
        | (refine RY.one_move (by first | rfl | (rw [HO.out]; rfl)) rfl (by first | exact Or.inl rfl | exact Or.inr rfl) (by simp only [RX.eval_tmp, RX.eval_const, List.getD_cons_zero, List.getD_cons_succ]; rfl) (by simp only [RX.put_some, RX.put_none, List.set_cons_zero, List.set_cons_succ]; rfl) ?_
           refine hR _ _ ?_; clear hR R)
        | (refine RY.one_nil (by first | rfl | (rw [HO.out]; rfl)) rfl rfl (by simp only [RX.eval_tmp, RX.eval_const, List.getD_cons_zero, List.getD_cons_succ]; rfl) (by simp only [RX.put_some, RX.put_none, List.set_cons_zero, List.set_cons_succ]; rfl) ?_
           refine hR _ _ ?_; clear hR R)
        | (refine RY.one_float (by first | rfl | (rw [HO.out]; rfl)) rfl rfl rfl ?_
           apply Exists.intro; apply Exists.intro
           refine ⟨fun w' hS K hK => ?_, ?_, ?_⟩
           · obtain ⟨hS1, hS2, hS3, hS4, hS5⟩ := hS; go_wp2; exact hK _ _ (by simp only [RX.arr_getD, List.getD_cons_zero, List.getD_cons_succ]; first | exact RX.dec_t (by omega) | exact RX.dec_f (by omega) | exact RX.beq_t (by omega) | exact RX.beq_f (by omega) | exact RX.bne_t (by omega) | exact RX.bne_f (by omega) | exact RX.bneB _ | rfl) rfl
           · simp only [RX.put_some, RX.put_none, List.set_cons_zero, List.set_cons_succ]; rfl
           refine hR _ _ ?_; clear hR R)
      refine RY.step (fun R hR => ?_)
      refine RY.one_chain (by first | rfl | (rw [HO.out]; rfl)) rfl (fun K hK => ?_)
      go_wp2
      first | refine ⟨(by first | exact .inl rfl | exact .inl trivial | trivial), hR _ _ (RY.wpL_nil (hQR _ _ ?_))⟩ | refine hR _ _ (RY.wpL_nil (hQR _ _ ?_)) | refine hQR _ _ ?_
      (try clear hR); (try clear R); clear hQR QR HO OPS
      have u0 : (w7.setCell ⟨Sb, 4, none⟩ (.slice (some ⟨b5, 0, none⟩) (k + 1) c5)).cell? ⟨Sb, 4, none⟩ = some (.slice (some ⟨b5, 0, none⟩) (k + 1) c5) := World.cell?_setCell_same' _ _ _ (by rw [y0]; rfl)
      have u2 : (w7.setCell ⟨Sb, 4, none⟩ (.slice (some ⟨b5, 0, none⟩) (k + 1) c5)).cell? ⟨Rb, 1, none⟩ = some (.int .i64 r.value) := by rw [World.cell?_setCell_other _ _ _ _ (by simp <;> omega)]; exact y2
      have uv : (w7.setCell ⟨Sb, 4, none⟩ (.slice (some ⟨b5, 0, none⟩) (k + 1) c5)).cell? ⟨bv, k, none⟩ = some (.int .i64 vz) := by rw [World.cell?_setCell_other _ _ _ _ (by simp <;> omega)]; exact vk7
      have ut : (w7.setCell ⟨Sb, 4, none⟩ (.slice (some ⟨b5, 0, none⟩) (k + 1) c5)).cell? ⟨b5, k, none⟩ = some (.int .i64 tg) := by rw [World.cell?_setCell_other _ _ _ _ (by simp <;> omega)]; exact tk
      have HRW : Hid (RowV (w7.setCell ⟨Sb, 4, none⟩ (.slice (some ⟨b5, 0, none⟩) (k + 1) c5)) A (.slice (some ⟨b5, 0, none⟩) (k + 1) c5) (T ++ [tg])) := Lib.hid (by
        have h := RowV.kept HOWN.out (grownBy_setCell w7 Sb 4 (.slice (some ⟨b5, 0, none⟩) (k + 1) c5)) (fun k hk => by injection hk with hk; omega)
        rw [hTl1] at h; exact h)
      have HGW : Hid (w4.grownBy (w7.setCell ⟨Sb, 4, none⟩ (.slice (some ⟨b5, 0, none⟩) (k + 1) c5)) (some Sb)) := Lib.hid (grw_set HW7.out (.inl rfl))
      have HFZ : Hid ((w7.setCell ⟨Sb, 4, none⟩ (.slice (some ⟨b5, 0, none⟩) (k + 1) c5)).frozen? ⟨Sb, 4, none⟩ = false) := Lib.hid (by rw [World.frozen?_setCell]; exact y5)
      have HKP : Hid (∀ j v, j < 4 → w4.cell? ⟨Sb, j, none⟩ = some v → (w7.setCell ⟨Sb, 4, none⟩ (.slice (some ⟨b5, 0, none⟩) (k + 1) c5)).cell? ⟨Sb, j, none⟩ = some v) := Lib.hid (fun j v hj e => by
          rw [World.cell?_setCell_other _ _ _ _ (by first | (simp; done) | (simp; omega))]; exact HK7.out j v hj e)
      clear y0 y1 y2 y3 y4 y5 vk7 tk
      generalize w7.setCell ⟨Sb, 4, none⟩ (.slice (some ⟨b5, 0, none⟩) (k + 1) c5) = W8 at *
      have htgv : 215040 * r.value - vz = tg := HTG2.out.symm
      have hkk0 : (0 : Int) ≤ (k : Int) := by omega
      have hkkI : (k : Int) < (k : Int) + 1 := by omega
      go_wp2
      refine RX.region RX.fN (fun w' => w' = _) (by kernel_rfl) (by kernel_rfl) rfl (fun OPS HO QR hQR => ?_)
      repeat
        refine RX.step (fun R hR => ?_)
        first
        | (refine RX.one_skip (by first | rfl | (rw [HO.out]; rfl)) (by simp only [RX.put_some, RX.put_none, List.set_cons_zero, List.set_cons_succ]; rfl) ?_
           refine hR _ _ ?_; clear hR R)
        | (refine RX.one_move (by first | rfl | (rw [HO.out]; rfl)) rfl (by first | exact Or.inl rfl | exact Or.inr rfl) (by simp only [RX.eval_tmp, RX.eval_const, List.getD_cons_zero, List.getD_cons_succ]; rfl) (by simp only [RX.put_some, RX.put_none, List.set_cons_zero, List.set_cons_succ]; rfl) ?_
           refine hR _ _ ?_; clear hR R)
        | (refine RX.one_nil (by first | rfl | (rw [HO.out]; rfl)) rfl rfl (by simp only [RX.eval_tmp, RX.eval_const, List.getD_cons_zero, List.getD_cons_succ]; rfl) (by simp only [RX.put_some, RX.put_none, List.set_cons_zero, List.set_cons_succ]; rfl) ?_
           refine hR _ _ ?_; clear hR R)
        | (refine RX.one_float (by first | rfl | (rw [HO.out]; rfl)) rfl rfl rfl ?_
           apply Exists.intro; apply Exists.intro
           refine ⟨fun w' hS K hK => ?_, ?_, ?_⟩
           · subst hS; go_wp2; exact hK _ _ (by simp only [RX.arr_getD, List.getD_cons_zero, List.getD_cons_succ]; first | exact RX.dec_t (by omega) | exact RX.dec_f (by omega) | exact RX.beq_t (by omega) | exact RX.beq_f (by omega) | exact RX.bne_t (by omega) | exact RX.bne_f (by omega) | exact RX.bneB _ | rfl) rfl
           · simp only [RX.put_some, RX.put_none, List.set_cons_zero, List.set_cons_succ]; rfl
           refine hR _ _ ?_; clear hR R)
      refine RX.wpL_nil (hQR _ _ rfl ?_); clear hQR QR HO OPS
      go_wp2
      go_roundw
      case rel => exact ⟨k + 1, _, by omega, by go_num, u0, by rw [HTK.out, HTQ.out, htgv]; exact HRW.out, grown_drew HGW.out, HFZ.out, HKP.out⟩
      case measure => simp [intOf]; omega
    · have hdk : decide ((k : Int) < (X.length : Int)) = false := decide_eq_false (by omega)
      obtain rfl : k = X.length := by omega
      have s0' := hkeep 0 _ (by omega) s0
      have s1' := hkeep 1 _ (by omega) s1
      have s2' := hkeep 2 _ (by omega) s2
      have s3' := hkeep 3 _ (by omega) s3
      have hrow2 := hrow
      rw [List.take_length] at hrow2
      obtain ⟨pt, cc, bt, rfl, hcc, hpt, hti⟩ := hrow2.form
      rw [List.length_map] at ct hpt hcc
      have hw3 : w3.grownBy wr (some Sb) := (grw_below HB34.out _).trans hgr
      have hb3r : Below w3.heap.size w3 wr := (Below.refl _ _).grown hw3 (Nat.le_refl _) (fun k hk => by injection hk with hk; have := HSB.out; omega)
      obtain ⟨S, hS⟩ : ∃ S : Sy, S = ⟨n, s, a, X.map (·.1), X.map (fun x => tgt zs x.1)⟩ := ⟨_, rfl⟩
      have HSok : Hid (SyOk S) := Lib.hid (by
        rw [hS]
        exact ⟨prOk_of HP.out, by simp; omega, by simp, fun i h1 h2 => by
          simp only [List.length_map] at h1
          have h9 := (HG.out X[i] (List.getElem_mem h1)).1
          simp only [List.getElem_map]
          have h8 : (⟨n, s, a, X.map (·.1), X.map (fun x => tgt zs x.1)⟩ : Sy).n = NN := by
            have := HNN.out
            show (10 * (n : Int) * n + 2).toNat = NN
            omega
          have h10 := h9.target HZB.out
          exact ⟨h9.1, by first | (rw [h8]; exact h10) | (have e : (10 * (n : Int) * n + 2) = (NN : Int) := HNN.out; rw [e]; exact h10) | exact h10⟩⟩)
      have hSO : SysOwn wr base (.agg #[.int .i64 n, .int .i64 s, .int .i64 a, .slice p1 X.length cp1, .slice pt X.length cc]) S := by
        rw [hS]
        have hq := hb3r.size
        have hA4 := HA4.out
        have hw4 := hgr.size
        have hSb := HSB.out
        refine ⟨p1, cp1, pt, cc, X, bX, bt, by simp, rfl, by simpa using HXC.out, by simpa using hcc, fun h0 => ?_, ?_, fun x hx => ?_, fun h0 => ?_, hti⟩
        · obtain ⟨e1, e2, e3⟩ := HXP.out (by simpa using h0)
          exact ⟨e1, e2, by omega⟩
        · exact HX.out.cellsOf (fun o v e => RX.keep hb3r e)
        · obtain ⟨e1, e2, e3⟩ := HG.out x hx
          exact ⟨e2, e3.below hb3r⟩
        · obtain ⟨e1, e2, e3⟩ := hpt (by simpa using h0)
          exact ⟨e1, by omega, e3⟩
      have hSrl : Hid (S.rows = X.map (·.1) ∧ S.f = n ∧ S.s = s ∧ S.a = a) := Lib.hid (by rw [hS]; exact ⟨rfl, rfl, rfl, rfl⟩)
      have hSn : Hid (S.n = NN) := Lib.hid (by
        have := HNN.out
        rw [hS]; show (10 * (n : Int) * n + 2).toNat = NN
        omega)
      replace d0 := RX.keep hb3r d0
      replace d1 := RX.keep hb3r d1
      replace d2 := RX.keep hb3r d2
      have hC5 := hC4.below hb3r
      replace hB := hB.trans (hb3r.mono hB.size)
      have HR5 := HR.out.below hb3r
      have hFive : Five wr Sb n s a (.slice p1 X.length cp1) (.slice pt X.length cc) := ⟨s0', s1', s2', s3', ct⟩
      have hbw : 0 < M.length → b < wr.heap.size := fun h0 => hC5.ltb h0
      have HSX := Lib.hid hS
      clear hrow hrow2 hkeep hgr hfr hw3 hb3r s0 s1 s2 s3 s0' s1' s2' s3' ct hpt hti hcc hC4 hS
      have HFOR : Hid (Calls Tryz.prog 18 #[.pointer (some ⟨g, 0, none⟩), .agg #[.int .i64 n, .int .i64 s, .int .i64 a]] wr fun e w' => ∃ v zs, e = .returned v ∧ (zs.length : Int) = 10 * (n : Int) * n + 2 ∧ Within 1048576 zs ∧ RowV w' wr.heap.size v zs ∧ wr.grownBy w' (some g) ∧ ∃ j, CodesAt w' g b M j) := Lib.hid (by
        have h := cfor_any wr g b M i3 n s a hC5 hbw HP.out
        rw [hpv.out] at h; exact h)
      go_wp2_with fail
      refine HFOR.out.mono ?_
      rintro e w5 ⟨vx, x, rfl, hxl, hxw, hxr, hg5, -⟩
      replace hB := hB.grown hg5 hB.size (fun k hk => by injection hk with hk; omega)
      have hSO5 := hSO.grown hg5 (fun k hk => by injection hk with hk; omega)
      have hFive5 := hFive.turn hg5 (by omega)
      replace d0 := hg5.cell d0 (by simpa using hgP)
      replace d1 := hg5.cell d1 (by simpa using hgP)
      replace d2 := hg5.cell d2 (by simpa using hgP)
      obtain ⟨px, cx, rfl, hVx⟩ := hxr.vec
      have hxl2 : x.length = NN := by have := HNN.out; omega
      have HXW := Lib.hid hxw
      have HXLN := Lib.hid hxl2
      rw [hxl2]
      have hSI5 := hSO5.sysin
      have HSI5 : Hid (∃ w, w = w5) := Lib.hid ⟨_, rfl⟩
      have HRR : Hid (RwIn w5 p1 (X.map (·.1))) := Lib.hid (by
        obtain ⟨q1, e1, q2, e2, hv, -, -, h3, -⟩ := hSI5
        simp only [Value.agg.injEq, Array.mk.injEq, List.cons.injEq, Value.slice.injEq] at hv
        rw [hSrl.out.1] at h3
        rw [hv.2.2.2.1.1]; exact h3)
      clear hxl hxl2 hxw hxr hg5 hC5 hFive hSO HFOR hSO5 hbw
      have hxb : Hid (Bd 1099511627776 x) := Lib.hid (fun z hz => by have := HXW.out z hz; omega)
      obtain ⟨R, hR⟩ : ∃ R, R = X.map (·.1) := ⟨_, rfl⟩
      rw [← hR] at HRR HRG HXL hSrl
      have hRX : Hid (R = X.map (·.1)) := Lib.hid hR
      clear hR
      go_wp2_with fail
      refine (oapply_ok p1 px R x cp1 cx X.length NN _ HXL.out HRR.out (by omega) HRG.out HXLN.out hn2 hVx hxb.out).mono ?_
      rintro e w6 ⟨v6, rfl, hr6, hb6⟩
      obtain ⟨p6, c6, b0, rfl, hc6, hp6, hi6⟩ := hr6.form
      have hvl6 : (valsL R x).length = X.length := by simp [valsL]; exact HXL.out
      rw [hvl6] at hc6 hp6 ⊢
      obtain ⟨b6, hb61, hb62, hb63⟩ : ∃ b6, (0 < X.length → p6 = some ⟨b6, 0, none⟩) ∧ w5.heap.size ≤ b6 ∧ IntsAt w6 b6 0 (valsL R x) := by
        by_cases h0 : 0 < X.length
        · exact ⟨b0, fun _ => (hp6 h0).1, (hp6 h0).2.1, hi6⟩
        · exact ⟨w5.heap.size, fun h => absurd h h0, Nat.le_refl _, fun j hj => by rw [hvl6] at hj; omega⟩
      have HI6 : Hid (IntsAt w6 b6 0 (mulTo R x 0)) := Lib.hid (by simpa [mulTo] using hb63)
      have HP6 := Lib.hid hb61
      have HB56 := Lib.hid hb6
      have hlm : ((X.length : Int) != (X.length : Int)) = false := by simp
      clear hr6 hp6 hi6 hb63 hb61 hb6 hvl6
      go_wp2
      go_loopw [98] (fun i wr => ∃ k : Nat, k ≤ X.length ∧ i = .int .i64 k ∧ Hid (IntsAt wr b6 0 (mulTo R x k)) ∧ w6.grownBy wr (some b6)) (fun i _ => X.length - (intOf i).toNat)
      case atStart => exact ⟨0, Nat.zero_le _, rfl, HI6, grw_refl _ _⟩
      case round =>
        obtain ⟨k, hk, rfl, HI, hg⟩ := hrel
        have hb5r : Below w5.heap.size w5 wr := HB56.out.grown hg HB56.out.size (fun k hk => by injection hk with hk; omega)
        by_cases hlt : k < X.length
        · have hdk : decide ((k : Int) < (X.length : Int)) = true := decide_eq_true (by omega)
          have hkR : k < R.length := by rw [HXL.out]; exact hlt
          obtain rfl := HP6.out (by omega)
          obtain ⟨bR, oR, rfl, hbR, hcR⟩ := HRR.out.get (by omega)
          obtain ⟨qr, cr, -, -, -, -, gw, -⟩ := hcR k hkR
          replace gw := RX.keep hb5r gw
          obtain ⟨k1, k2⟩ := HI.out k (by rw [mulTo_len (by omega)]; exact hkR)
          rw [Nat.zero_add] at k1 k2
          rw [mulTo_get hkR] at k1
          have HSU := Lib.hid (mulTo_succ (x := x) hkR)
          have hrg := HRG.out _ (List.getElem_mem hkR)
          have hvb := hrg.shw.val_all (x := x) (B := 1048576) (fun z hz => by have := HXW.out z hz; omega) (by omega)
          have hwb := hrg.2.2.2.1
          obtain ⟨vk, hvk⟩ : ∃ vk, vk = valL R[k].sh x := ⟨_, rfl⟩
          obtain ⟨wt, hwt⟩ : ∃ wt, wt = R[k].weight := ⟨_, rfl⟩
          rw [← hvk] at k1 HSU hvb
          rw [← hwt] at gw HSU hwb
          have hpb := fprod_bd (a := wt) (b := vk) (A := 100) (B := 880803840) (by omega) hwb.2 (by omega) (by omega) (by omega)
          rw [Int.mul_comm wt vk] at hpb
          have hk0 : (0 : Int) ≤ (k : Int) := by omega
          have hkI : (k : Int) < (X.length : Int) := by omega
          have hbRne : ¬ (bR = b6) := by omega
          clear hvk hwt hrg hcR hkR hb5r
          go_wp2
          refine RY.region RX.fN (fun w' => w'.cell? ⟨b6, k, none⟩ = some (.int .i64 vk) ∧ w'.cell? ⟨bR, oR + k * 4 + 2, none⟩ = some (.int .i64 wt)) (by kernel_rfl) (by kernel_rfl) (⟨k1, gw⟩) (fun OPS HO QR hQR => ?_)
          repeat
            refine RY.step (fun R hR => ?_)
            first
            | (refine RY.one_skip (by first | rfl | (rw [HO.out]; rfl)) (by simp only [RX.put_some, RX.put_none, List.set_cons_zero, List.set_cons_succ]; rfl) ?_
               refine hR _ _ ?_; clear hR R)
            | (refine RY.one_move (by first | rfl | (rw [HO.out]; rfl)) rfl (by first | exact Or.inl rfl | exact Or.inr rfl) (by simp only [RX.eval_tmp, RX.eval_const, List.getD_cons_zero, List.getD_cons_succ]; rfl) (by simp only [RX.put_some, RX.put_none, List.set_cons_zero, List.set_cons_succ]; rfl) ?_
               refine hR _ _ ?_; clear hR R)
            | (refine RY.one_nil (by first | rfl | (rw [HO.out]; rfl)) rfl rfl (by simp only [RX.eval_tmp, RX.eval_const, List.getD_cons_zero, List.getD_cons_succ]; rfl) (by simp only [RX.put_some, RX.put_none, List.set_cons_zero, List.set_cons_succ]; rfl) ?_
               refine hR _ _ ?_; clear hR R)
            | (refine RY.one_float (by first | rfl | (rw [HO.out]; rfl)) rfl rfl rfl ?_
               apply Exists.intro; apply Exists.intro
               refine ⟨fun w' hS K hK => ?_, ?_, ?_⟩
               · obtain ⟨hS1, hS2⟩ := hS; go_wp2; exact hK _ _ (by simp only [RX.arr_getD, List.getD_cons_zero, List.getD_cons_succ]; first | exact RX.dec_t (by omega) | exact RX.dec_f (by omega) | exact RX.beq_t (by omega) | exact RX.beq_f (by omega) | exact RX.bne_t (by omega) | exact RX.bne_f (by omega) | exact RX.bneB _ | rfl) rfl
               · simp only [RX.put_some, RX.put_none, List.set_cons_zero, List.set_cons_succ]; rfl
               refine hR _ _ ?_; clear hR R)
          refine RY.step (fun R hR => ?_)
          refine RY.one_chain (by first | rfl | (rw [HO.out]; rfl)) rfl (fun K hK => ?_)
          go_wp2
          first | refine ⟨(by first | exact .inl rfl | exact .inl trivial | trivial), hR _ _ (RY.wpL_nil (hQR _ _ ?_))⟩ | refine hR _ _ (RY.wpL_nil (hQR _ _ ?_)) | refine hQR _ _ ?_
          (try clear hR); (try clear R); clear hQR QR HO OPS
          go_wp2
          go_roundw
          case rel => exact ⟨k + 1, by omega, by go_num, Lib.hid (by rw [HSU.out]; have := HI.out.set k (vk * wt); rwa [Nat.zero_add] at this), grown_drew (hg.trans (grownBy_setCell _ _ _ _))⟩
          case measure => simp [intOf]; omega
        · have hdk : decide ((k : Int) < (X.length : Int)) = false := decide_eq_false (by omega)
          obtain rfl : k = X.length := by omega
          have HE : Hid (mulTo R x X.length = backL R x) := Lib.hid (by rw [← HXL.out]; exact mulTo_end)
          have hVB : VecAt wr p6 (backL R x) := ⟨b6, 0, fun h0 => HP6.out (by rw [backL_len, HXL.out] at h0; exact h0), fun j hj => by
            have h := HI.out
            rw [HE.out] at h
            exact (h j hj).1⟩
          have hbk : Hid (Bd 1099511627776 (backL R x)) := Lib.hid (fun z hz => by
            unfold backL at hz
            obtain ⟨r, hr, rfl⟩ := List.mem_map.1 hz
            have h1 := HRG.out r hr
            have h2 := h1.shw.val_all (x := x) (B := 1048576) (fun z hz => by have := HXW.out z hz; omega) (by omega)
            have h3 := fprod_bd (a := r.weight) (b := valL r.sh x) (A := 100) (B := 880803840) (by have := h1.2.2.2.1; omega) h1.2.2.2.1.2 (by omega) (by omega) (by omega)
            rw [Int.mul_comm r.weight] at h3
            omega)
          replace hB := hB.trans (hb5r.mono hB.size)
          have hRR := HRR.out.below hb5r
          replace hVx := hVx.below hb5r
          replace hSI5 := hSI5.below hb5r
          have hFive6 := hFive5.below hb5r
          replace d0 := RX.keep hb5r d0
          replace d1 := RX.keep hb5r d1
          replace d2 := RX.keep hb5r d2
          clear hb5r hg HI HP6 HB56 HI6 hFive5
          go_wp2_with fail
          refine (otrans_ok p1 p6 R (backL R x) cp1 c6 X.length NN _ HXL.out hRR (by omega) HRG.out (by rw [backL_len, HXL.out]) hn2 (by omega) hVB hbk.out).mono ?_
          rintro e w7 ⟨N1, rfl, hi7, hb7⟩
          have hV1 : VecAt w7 (some ⟨N1, 0, none⟩) (transL NN R (backL R x)) := vec_of_ints hi7
          have HTB : Hid (Bd 200000000000000000 (transL NN R (backL R x))) := Lib.hid (transL_bd HRG.out hbk.out (by rw [HXL.out]; omega))
          replace hB := hB.trans (hb7.mono hB.size)
          replace hVx := hVx.below hb7
          replace hSI5 := hSI5.below hb7
          replace hFive6 := hFive6.below hb7
          replace d0 := RX.keep hb7 d0
          replace d1 := RX.keep hb7 d1
          replace d2 := RX.keep hb7 d2
          clear hb7 hi7 hVB hRR
          have HVO : Hid (VecOk (n : Int) s a x) := Lib.hid ⟨prOk_of HP.out, by rw [HXLN.out]; have := HNN.out; omega, small_within HXW.out⟩
          have HAP : Hid (∀ w', HasTab w' → VecAt w' px x → Calls Tryz.prog 20 #[.agg #[.int .i64 n, .int .i64 s, .int .i64 a], .slice px NN cx] w' fun e w'' => ∃ N, e = .returned (.tuple #[.slice (some ⟨N, 0, none⟩) NN NN, .int .i64 0]) ∧ VecAt w'' (some ⟨N, 0, none⟩) (applyL s a x (edgesL n)) ∧ Below w'.heap.size w' w'') := Lib.hid (fun w' h1 h2 => by
            have h := apply_at n s a px x cx NN w' HXLN.out h1 h2 HVO.out
            rw [hpv.out] at h; exact h)
          have HAB : Hid (Bd 63000000000000000 (applyL s a x (edgesL n))) := Lib.hid (applyL_bd HVO.out)
          go_wp2_with fail
          refine (HAP.out _ (hT.below hB) hVx).mono ?_
          rintro e w8 ⟨N2, rfl, hV2, hb8⟩
          replace hB := hB.trans (hb8.mono hB.size)
          replace hVx := hVx.below hb8
          replace hSI5 := hSI5.below hb8
          replace hFive6 := hFive6.below hb8
          replace hV1 := hV1.below hb8
          clear hb8 d0 d1 d2
          have HMU : Hid (∀ w', HasTab w' → SysIn w' (.agg #[.int .i64 n, .int .i64 s, .int .i64 a, .slice p1 X.length cp1, .slice pt X.length cc]) S → VecAt w' px x → Calls Tryz.prog 21 #[.agg #[.int .i64 n, .int .i64 s, .int .i64 a, .slice p1 X.length cp1, .slice pt X.length cc], .slice px NN cx] w' fun e w'' => ∃ N, e = .returned (.tuple #[.slice (some ⟨N, 0, none⟩) NN NN, .int .i64 0]) ∧ VecAt w'' (some ⟨N, 0, none⟩) (addL (applyL s a x (edgesL n)) (transL NN R (backL R x))) ∧ Below w'.heap.size w' w'') := Lib.hid (fun w' h1 h2 h3 => by
            have hvo : VecOk S.f S.s S.a x := by rw [hSrl.out.2.1, hSrl.out.2.2.1, hSrl.out.2.2.2]; exact HVO.out
            have h := cmult_ok S _ px x cx w' h1 h2 HSok.out h3 hvo
            rw [HXLN.out, hSn.out] at h
            refine h.mono ?_
            rintro e w'' ⟨N, rfl, hI, _, hb⟩
            have hm := mult_split (S := S) (x := x)
            rw [hSrl.out.1, hSrl.out.2.1, hSrl.out.2.2.1, hSrl.out.2.2.2, HXLN.out, Int.toNat_natCast] at hm
            rw [hm] at hI
            exact ⟨N, rfl, vec_of_ints hI, hb⟩)
          obtain ⟨k0, k1, k2, k3, k4⟩ := hFive6
          go_wp2_with fail
          refine (HMU.out _ (hT.below hB) hSI5 hVx).mono ?_
          rintro e w9 ⟨N3, rfl, hV3, hb9⟩
          replace hB := hB.trans (hb9.mono hB.size)
          replace hV1 := hV1.below hb9
          replace hV2 := hV2.below hb9
          have hnn : ((NN : Int) != (NN : Int)) = false := by simp
          have HV := Lib.hid (And.intro hV1 (And.intro hV2 hV3))
          have hl1 : (transL NN R (backL R x)).length = NN := by unfold transL; rw [spread_len, List.length_replicate]
          have hl2 : (applyL s a x (edgesL n)).length = NN := by rw [apL_len, HXLN.out]
          have HL1 := Lib.hid hl1
          have HL2 := Lib.hid hl2
          have HL3 : Hid ((addL (applyL s a x (edgesL n)) (transL NN R (backL R x))).length = NN) := Lib.hid (by rw [addL_len (by rw [hl1, hl2]), hl2])
          have HBZ := Lib.hid hB
          clear hb9 k0 k1 k2 k3 k4 hV1 hV2 hV3 hVx hSI5 hB hl1 hl2
          go_wp2
          go_loopw [176] (fun i wr => ∃ j : Nat, j ≤ NN ∧ i = .int .i64 j ∧ Below w9.heap.size w9 wr) (fun i _ => NN - (intOf i).toNat)
          case atStart => exact ⟨0, Nat.zero_le _, rfl, Below.refl _ _⟩
          case round =>
            obtain ⟨j, hj, rfl, hbr⟩ := hrel
            by_cases hltj : j < NN
            · have hdj : decide ((j : Int) < (NN : Int)) = true := decide_eq_true (by omega)
              have hT9 := RX.keep hbr (HV.out.1.at0 (k := j) (by rw [HL1.out]; exact hltj))
              have hA9 := RX.keep hbr (HV.out.2.1.at0 (k := j) (by rw [HL2.out]; exact hltj))
              have hM9 := RX.keep hbr (HV.out.2.2.at0 (k := j) (by rw [HL3.out]; exact hltj))
              have hae : (addL (applyL s a x (edgesL n)) (transL NN R (backL R x)))[j]'(by rw [HL3.out]; exact hltj) = (applyL s a x (edgesL n))[j]'(by rw [HL2.out]; exact hltj) + (transL NN R (backL R x))[j]'(by rw [HL1.out]; exact hltj) := by simp [addL]
              rw [hae] at hM9
              have hab := HAB.out _ (List.getElem_mem (show j < (applyL s a x (edgesL n)).length by rw [HL2.out]; exact hltj))
              have hbb := HTB.out _ (List.getElem_mem (show j < (transL NN R (backL R x)).length by rw [HL1.out]; exact hltj))
              obtain ⟨aa, haa⟩ : ∃ aa, aa = (applyL s a x (edgesL n))[j]'(by rw [HL2.out]; exact hltj) := ⟨_, rfl⟩
              obtain ⟨bb, hbb2⟩ : ∃ bb, bb = (transL NN R (backL R x))[j]'(by rw [HL1.out]; exact hltj) := ⟨_, rfl⟩
              rw [← haa] at hA9 hM9 hab
              rw [← hbb2] at hT9 hM9 hbb
              have hj0 : (0 : Int) ≤ (j : Int) := by omega
              have hjI : (j : Int) < (NN : Int) := by omega
              have hne : ((aa + bb) != (aa + bb)) = false := by simp
              clear hae haa hbb2
              go_wp2
              refine RX.region RX.fN (fun w' => w' = _) (by kernel_rfl) (by kernel_rfl) rfl (fun OPS HO QR hQR => ?_)
              repeat
                refine RX.step (fun R hR => ?_)
                first
                | (refine RX.one_skip (by first | rfl | (rw [HO.out]; rfl)) (by simp only [RX.put_some, RX.put_none, List.set_cons_zero, List.set_cons_succ]; rfl) ?_
                   refine hR _ _ ?_; clear hR R)
                | (refine RX.one_move (by first | rfl | (rw [HO.out]; rfl)) rfl (by first | exact Or.inl rfl | exact Or.inr rfl) (by simp only [RX.eval_tmp, RX.eval_const, List.getD_cons_zero, List.getD_cons_succ]; rfl) (by simp only [RX.put_some, RX.put_none, List.set_cons_zero, List.set_cons_succ]; rfl) ?_
                   refine hR _ _ ?_; clear hR R)
                | (refine RX.one_nil (by first | rfl | (rw [HO.out]; rfl)) rfl rfl (by simp only [RX.eval_tmp, RX.eval_const, List.getD_cons_zero, List.getD_cons_succ]; rfl) (by simp only [RX.put_some, RX.put_none, List.set_cons_zero, List.set_cons_succ]; rfl) ?_
                   refine hR _ _ ?_; clear hR R)
                | (refine RX.one_float (by first | rfl | (rw [HO.out]; rfl)) rfl rfl rfl ?_
                   apply Exists.intro; apply Exists.intro
                   refine ⟨fun w' hS K hK => ?_, ?_, ?_⟩
                   · subst hS; go_wp2; exact hK _ _ (by simp only [RX.arr_getD, List.getD_cons_zero, List.getD_cons_succ]; first | exact RX.dec_t (by omega) | exact RX.dec_f (by omega) | exact RX.beq_t (by omega) | exact RX.beq_f (by omega) | exact RX.bne_t (by omega) | exact RX.bne_f (by omega) | exact RX.bneB _ | rfl) rfl
                   · simp only [RX.put_some, RX.put_none, List.set_cons_zero, List.set_cons_succ]; rfl
                   refine hR _ _ ?_; clear hR R)
              refine RX.wpL_nil (hQR _ _ rfl ?_); clear hQR QR HO OPS
              go_wp2
              go_roundw
              case rel => exact ⟨j + 1, by omega, by go_num, hbr.drew⟩
              case measure => simp [intOf]; omega
            · have hdj : decide ((j : Int) < (NN : Int)) = false := decide_eq_false (by omega)
              have HBY := Lib.hid (HBZ.out.trans (hbr.mono HBZ.out.size))
              clear hbr
              go_wp2
              go_ret
              exact ⟨rfl, HBY.out⟩
end Go.Proofs.YtojkamfabapcoaaGreatDoor
