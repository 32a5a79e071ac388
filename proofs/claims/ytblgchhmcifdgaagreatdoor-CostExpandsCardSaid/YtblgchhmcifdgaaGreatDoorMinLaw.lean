import Derived.Test.YtblgchhmcifdgaaGreatDoorKLaw23
import Derived.Test.YtblgchhmcifdgaaGreatDoorKCost
set_option linter.unusedSimpArgs false
set_option linter.unusedVariables false
namespace Go.Proofs.YtblgchhmcifdgaaGreatDoor
open Go.RowKit Go.Grid Go.Shelf

theorem cost_bd {S : Sy} (h : SyOk S) {x : List Int} (hx : x.length = S.n) (hv : VecOk S.f S.s S.a x) : 0 ≤ costL S x ∧ costL S x ≤ 85070591730234615865843651857942052864 := by
  have hp := h.1
  unfold PrOk at hp
  have h1 := energy_bd (s := S.s) (a := S.a) (D := edgesL S.f.toNat) ⟨hp.2.2.1, hp.2.2.2.1⟩ ⟨hp.2.2.2.2.1, hp.2.2.2.2.2⟩ hv.2.2 (by have := h.nodes; omega) (edges_len (by omega))
  have hb : Bd 1048576 x := hv.2.2
  have key : ∀ P : List (Rw × Int), (∀ p ∈ P, p ∈ S.rows.zip S.targets) → 0 ≤ qc P x ∧ qc P x ≤ 7378697629483820646400 * P.length := by
    intro P
    induction P with
    | nil => intro _; simp [qc]
    | cons p P ih =>
      intro h0
      have i := ih (fun q hq => h0 q (by simp [hq]))
      obtain ⟨r, t⟩ := p
      have hm := List.of_mem_zip (h0 _ (List.mem_cons_self ..))
      have hr := h.row hm.1
      have ht := h.target hm.2
      have hvb := hr.2.2.1.val_all hb (by omega)
      rw [valL_dot (fun c hc => by rw [hx]; exact hr.1 c hc)] at hvb
      obtain ⟨m, hme⟩ : ∃ m, t - dotT r.sh x = m := ⟨_, rfl⟩
      have h2 := sq_nn m
      have h3 := mul_abs_le (x := m) (B := 8589934592) (by omega) (by omega)
      have h4 := fprod_bd (a := r.weight) (b := m * m) (A := 100) (B := 73786976294838206464) (by omega) hr.2.1.2 (by omega) (by omega) (by omega)
      have h5 := Int.mul_nonneg (show 0 ≤ r.weight by omega) h2
      simp only [qc, List.map_cons, List.sum_cons, List.length_cons] at i ⊢
      rw [hme, Int.mul_assoc]
      omega
  have k2 := key _ (fun p hp => hp)
  have hl : (S.rows.zip S.targets).length ≤ 200 := by rw [List.length_zip]; have := h.2.1; omega
  rw [costL_eq h hx]
  have e : energyL S.s S.a x (edgesL S.f.toNat) = S.a * dotL x x + S.s * qf x x (edgesL S.f.toNat) := rfl
  rw [e]; omega
set_option maxRecDepth 100000 in
set_option maxHeartbeats 4000000 in
theorem min_law (W : World) (q : Option Addr) (cap cb co : Nat) (L : List Int) (hp : 0 < L.length → q = some ⟨cb, co, none⟩) (hl : L.length ≤ cap) (hc : cap ≤ 9223372036854775807)
    (hcell : ∀ k (h : k < L.length), W.cell? ⟨cb, co + k, none⟩ = some (.int .u8 L[k]) ∧ 0 ≤ L[k] ∧ L[k] < 256) (hT : HasTab W) :
    Calls Tryz.prog 7 #[.slice q L.length cap] W fun e w' => e = .returned (.bool true) ∧ Below W.heap.size W w' := by
  have HIN := Lib.hid (And.intro hp hcell)
  clear hp hcell
  go_enter Tryz.func7, Tryz.ntmps7
  go_wp2_with fail
  refine (awake23_any W hT).mono ?_
  rintro e w1 ⟨rfl, hB⟩
  go_wp2_with fail
  refine (start_any W q cap cb co 240 L w1 (by omega) HIN.out.1 hl hc HIN.out.2 hB).mono ?_
  rintro e w2 ⟨g, b, M, rfl, hg, hb2, hbM, hC⟩
  have hgW : W.heap.size ≤ g := by have := hB.size; omega
  replace hB := hB.trans (hb2.mono hB.size)
  have hgl := hC.lt
  have hbg : 0 < M.length → b < g := fun h0 => by have := hbM h0; omega
  clear hb2 hbM hg HIN hl hc
  clear w1
  go_wp2_with fail
  refine (csys_any w2 g b M 0 5 hC (by omega)).mono ?_
  rintro e w3 ⟨v, S, rfl, hSO, hOk, hPC, hSr, hg3, j3, hC3⟩
  replace hB := hB.grown hg3 hB.size (fun k hk => by injection hk with hk; omega)
  have hs3 := hg3.size
  have hb0 := hOk.nodes
  obtain ⟨hn1, hn2, hn3⟩ := hb0
  have hf := hPC.1
  clear hC hg3 hPC hSr
  have HSI := Lib.hid hSO.sysin
  obtain ⟨p1, d1, p2, d2, rfl, -⟩ := hSO.sysin
  go_wp2_with fail
  have hP : Five (w3.alloc (.cells #[.int .i64 S.f, .int .i64 S.s, .int .i64 S.a, .slice p1 S.rows.length d1, .slice p2 S.targets.length d2] 27)) w3.heap.size S.f S.s S.a (.slice p1 S.rows.length d1) (.slice p2 S.targets.length d2) := ⟨(by simp [RX.cell_drew, RX.cell_alloc, Nat.add_assoc]), (by simp [RX.cell_drew, RX.cell_alloc, Nat.add_assoc]), (by simp [RX.cell_drew, RX.cell_alloc, Nat.add_assoc]), (by simp [RX.cell_drew, RX.cell_alloc, Nat.add_assoc]), (by simp [RX.cell_drew, RX.cell_alloc, Nat.add_assoc])⟩
  have hb4 := (Below.refl w3.heap.size w3).alloc (Nat.le_refl _) (.cells #[.int .i64 S.f, .int .i64 S.s, .int .i64 S.a, .slice p1 S.rows.length d1, .slice p2 S.targets.length d2] 27)
  replace hB := hB.trans (hb4.mono hB.size)
  replace hSO := hSO.grown (grw_below hb4 none) (fun k hk => by cases hk)
  have hC4 := hC3.below hb4
  have hs4 : w3.heap.size < (w3.alloc (.cells #[.int .i64 S.f, .int .i64 S.s, .int .i64 S.a, .slice p1 S.rows.length d1, .slice p2 S.targets.length d2] 27)).heap.size := by simp
  obtain ⟨P, hPe⟩ : ∃ P, P = w3.heap.size := ⟨_, rfl⟩
  have hgP : g < P := by omega
  have hgP2 : P ≠ g := by omega
  rw [← hPe] at hP hs4 ⊢
  clear hC3 hb4 hPe hs3 HSI
  generalize (w3.alloc (.cells #[.int .i64 S.f, .int .i64 S.s, .int .i64 S.a, .slice p1 S.rows.length d1, .slice p2 S.targets.length d2] 27)) = W4 at *
  clear w3
  have HVV : Hid ((.agg #[.int .i64 S.f, .int .i64 S.s, .int .i64 S.a, .slice p1 S.rows.length d1, .slice p2 S.targets.length d2] : Value) = .agg #[.int .i64 S.f, .int .i64 S.s, .int .i64 S.a, .slice p1 S.rows.length d1, .slice p2 S.targets.length d2]) := Lib.hid rfl
  refine (r22nodes_any S.f _ (by omega) (by omega)).mono ?_
  rintro e wq ⟨rfl, rfl⟩
  rw [← hn1]
  obtain ⟨n, hn⟩ : ∃ n, n = S.n := ⟨_, rfl⟩
  have HN := Lib.hid hn
  rw [← hn] at hn1 hn2 hn3 ⊢
  have HOK := Lib.hid hOk
  have HPR : Hid (∀ zs : List Int, zs.length = n → Within 1048576 zs → VecOk S.f S.s S.a zs) := Lib.hid (fun zs h1 h2 => ⟨HOK.out.1, by rw [h1]; exact hn1, small_within h2⟩)
  clear hn hn1 hOk hf
  go_wp2_with fail
  refine (cvec_any _ g b M j3 n 500 hC4 (fun h0 => by have := hbg h0; omega) (by omega) (by omega)).mono ?_
  rintro e w5 ⟨vx, x, rfl, hxl, hxw, hxr, hg5, j5, hC5⟩
  replace hB := hB.grown hg5 hB.size (fun k hk => by injection hk with hk; omega)
  replace hP := hP.turn hg5 hgP2
  replace hSO := hSO.grown hg5 (fun k hk => by injection hk with hk; omega)
  have hs5 := hg5.size
  obtain ⟨px, cx, rfl, hVx⟩ := hxr.vec
  clear hC4 hg5 hVx
  go_wp2_with fail
  refine (cvec_any _ g b M j5 n 500 hC5 (fun h0 => by have := hbg h0; omega) (by omega) (by omega)).mono ?_
  rintro e w6 ⟨vy, y, rfl, hyl, hyw, hyr, hg6, j6, hC6⟩
  replace hB := hB.grown hg6 hB.size (fun k hk => by injection hk with hk; omega)
  replace hP := hP.turn hg6 hgP2
  replace hSO := hSO.grown hg6 (fun k hk => by injection hk with hk; omega)
  replace hxr := hxr.kept hg6 (fun k hk => by injection hk with hk; omega)
  obtain ⟨py, cy, rfl, hVy⟩ := hyr.vec
  have hVx : VecAt w6 px x := hxr.vecAt
  have hSI := hSO.sysin
  clear hC5 hC6 hg6 hxr hyr hSO hs5 hs4 hgl hbg hgP hgP2 hgW
  have HXW : Hid (Within 500 x) := Lib.hid hxw
  have HYW : Hid (Within 500 y) := Lib.hid hyw
  try rw [hxl]
  try rw [hyl]
  have HXL := Lib.hid hxl
  have HYL := Lib.hid hyl
  clear hxw hyw hxl hyl
  have HRE : Hid (∀ (p : Option Addr) (xc : Nat) (z : List Int) (w' : World), HasTab w' → SysIn w' (.agg #[.int .i64 S.f, .int .i64 S.s, .int .i64 S.a, .slice p1 S.rows.length d1, .slice p2 S.targets.length d2]) S → VecAt w' p z → z.length = n → Within 1048576 z → Calls Tryz.prog 25 #[.agg #[.int .i64 S.f, .int .i64 S.s, .int .i64 S.a, .slice p1 S.rows.length d1, .slice p2 S.targets.length d2], .slice p n xc] w' fun e w'' => ∃ N, e = .returned (.tuple #[.slice (some ⟨N, 0, none⟩) n n, .int .i64 0]) ∧ VecAt w'' (some ⟨N, 0, none⟩) (resL S z) ∧ Below w'.heap.size w' w'') := Lib.hid (fun p xc z w' h1 h2 h3 h4 h5 => by
    have h := cresid_ok S _ p z xc w' h1 h2 HOK.out h3 (HPR.out z h4 h5)
    rw [h4, ← HN.out] at h
    refine h.mono ?_
    rintro e w'' ⟨N, rfl, hI, _, hb⟩
    exact ⟨N, rfl, vec_of_ints hI, hb⟩)
  have HCO : Hid (∀ (p : Option Addr) (xc : Nat) (z : List Int) (w' : World), HasTab w' → SysIn w' (.agg #[.int .i64 S.f, .int .i64 S.s, .int .i64 S.a, .slice p1 S.rows.length d1, .slice p2 S.targets.length d2]) S → VecAt w' p z → z.length = n → Within 1048576 z → Calls Tryz.prog 21 #[.agg #[.int .i64 S.f, .int .i64 S.s, .int .i64 S.a, .slice p1 S.rows.length d1, .slice p2 S.targets.length d2], .slice p n xc] w' fun e w'' => e = .returned (.tuple #[wv (costL S z), .int .i64 0]) ∧ Below w'.heap.size w' w'') := Lib.hid (fun p xc z w' h1 h2 h3 h4 h5 => by
    have h := ccost_ok S _ p z xc w' h1 h2 HOK.out h3 (HPR.out z h4 h5)
    rw [h4] at h
    exact h)
  obtain ⟨k0, k1, k2, k3, k4⟩ := hP
  go_wp2_with fail
  refine (HRE.out px cx x _ (hT.below hB) hSI hVx HXL.out (HXW.out.mono (by omega))).mono ?_
  rintro e w7 ⟨A, rfl, hVA, hbm⟩
  have hP : Five _ P S.f S.s S.a (.slice p1 S.rows.length d1) (.slice p2 S.targets.length d2) := ⟨k0, k1, k2, k3, k4⟩
  clear k0 k1 k2 k3 k4
  replace hB := hB.trans (hbm.mono hB.size)
  replace hP := hP.below hbm
  replace hSI := hSI.below hbm
  replace hVx := hVx.below hbm
  replace hVy := hVy.below hbm
  clear hbm
  obtain ⟨k0, k1, k2, k3, k4⟩ := hP
  go_wp2_with fail
  refine (HRE.out py cy y _ (hT.below hB) hSI hVy HYL.out (HYW.out.mono (by omega))).mono ?_
  rintro e w8 ⟨B, rfl, hVB, hbm⟩
  have hP : Five _ P S.f S.s S.a (.slice p1 S.rows.length d1) (.slice p2 S.targets.length d2) := ⟨k0, k1, k2, k3, k4⟩
  clear k0 k1 k2 k3 k4
  replace hB := hB.trans (hbm.mono hB.size)
  replace hP := hP.below hbm
  replace hSI := hSI.below hbm
  replace hVx := hVx.below hbm
  replace hVy := hVy.below hbm
  replace hVA := hVA.below hbm
  clear hbm
  obtain ⟨k0, k1, k2, k3, k4⟩ := hP
  go_wp2_with fail
  refine (HCO.out px cx x _ (hT.below hB) hSI hVx HXL.out (HXW.out.mono (by omega))).mono ?_
  rintro e w9 ⟨rfl, hbm⟩
  have hP : Five _ P S.f S.s S.a (.slice p1 S.rows.length d1) (.slice p2 S.targets.length d2) := ⟨k0, k1, k2, k3, k4⟩
  clear k0 k1 k2 k3 k4
  obtain ⟨C1, D1, q1, q2, hS⟩ := wv_parts (costL S x)
  clear q1 q2
  rw [hS]
  have HC1 := Lib.hid hS
  clear hS
  replace hB := hB.trans (hbm.mono hB.size)
  replace hP := hP.below hbm
  replace hSI := hSI.below hbm
  replace hVx := hVx.below hbm
  replace hVy := hVy.below hbm
  replace hVA := hVA.below hbm
  replace hVB := hVB.below hbm
  clear hbm
  have hP9 := hP
  have t1 : Duo (w9.alloc (.cells #[.int .i64 C1, .int .u64 D1] 49)) w9.heap.size C1 D1 := ⟨(by simp [RX.cell_drew, RX.cell_alloc, Nat.add_assoc]), (by simp [RX.cell_drew, RX.cell_alloc, Nat.add_assoc])⟩
  have hbm := (Below.refl w9.heap.size w9).alloc (Nat.le_refl _) (.cells #[.int .i64 C1, .int .u64 D1] 49)
  replace hB := hB.trans (hbm.mono hB.size)
  replace hP := hP.below hbm
  replace hSI := hSI.below hbm
  replace hVx := hVx.below hbm
  replace hVy := hVy.below hbm
  replace hVA := hVA.below hbm
  replace hVB := hVB.below hbm
  clear hbm
  obtain ⟨z0, z1, z2, z3, z4⟩ := hP9
  have hPl : P < w9.heap.size := World.block_lt_of_cell? _ _ z0
  go_wp2_with fail
  clear z0 z1 z2 z3 z4 hPl
  obtain ⟨g1, hgi⟩ : ∃ g, g = w9.heap.size := ⟨_, rfl⟩
  rw [← hgi] at t1 ⊢
  clear hgi
  generalize (w9.alloc (.cells #[.int .i64 C1, .int .u64 D1] 49)) = V9 at *
  clear w9
  refine (HCO.out py cy y _ (hT.below hB) hSI hVy HYL.out (HYW.out.mono (by omega))).mono ?_
  rintro e w10 ⟨rfl, hbm⟩
  obtain ⟨C2, D2, q1, q2, hS⟩ := wv_parts (costL S y)
  clear q1 q2
  rw [hS]
  have HC2 := Lib.hid hS
  clear hS
  replace hB := hB.trans (hbm.mono hB.size)
  replace hP := hP.below hbm
  replace hSI := hSI.below hbm
  replace hVx := hVx.below hbm
  replace hVy := hVy.below hbm
  replace hVA := hVA.below hbm
  replace hVB := hVB.below hbm
  replace t1 := t1.below hbm
  clear hbm
  have t2 : Duo (w10.alloc (.cells #[.int .i64 C2, .int .u64 D2] 49)) w10.heap.size C2 D2 := ⟨(by simp [RX.cell_drew, RX.cell_alloc, Nat.add_assoc]), (by simp [RX.cell_drew, RX.cell_alloc, Nat.add_assoc])⟩
  have hbm := (Below.refl w10.heap.size w10).alloc (Nat.le_refl _) (.cells #[.int .i64 C2, .int .u64 D2] 49)
  replace hB := hB.trans (hbm.mono hB.size)
  replace hP := hP.below hbm
  replace hSI := hSI.below hbm
  replace hVx := hVx.below hbm
  replace hVy := hVy.below hbm
  replace hVA := hVA.below hbm
  replace hVB := hVB.below hbm
  replace t1 := t1.below hbm
  clear hbm
  go_wp2_with fail
  obtain ⟨g2, hgi⟩ : ∃ g, g = w10.heap.size := ⟨_, rfl⟩
  rw [← hgi] at t2 ⊢
  clear hgi
  generalize (w10.alloc (.cells #[.int .i64 C2, .int .u64 D2] 49)) = V10 at *
  clear w10
  have HAL : Hid ((resL S x).length = n) := Lib.hid (by unfold resL; rw [lessL_len (by rw [rightL_len, multL_len, HXL.out, HN.out]), rightL_len, ← HN.out])
  have HBL : Hid ((resL S y).length = n) := Lib.hid (by unfold resL; rw [lessL_len (by rw [rightL_len, multL_len, HYL.out, HN.out]), rightL_len, ← HN.out])
  have HEQ : Hid (decide (resL S x = resL S y) = decide (x = y)) := Lib.hid (by
    rw [decide_eq_decide]
    exact ⟨fun h => res_inj HOK.out (by rw [HXL.out, HN.out]) (by rw [HYL.out, HN.out]) h, fun h => by rw [h]⟩)
  refine (kints_at _ _ (resL S x) (resL S y) n n n _ HAL.out HBL.out hVA hVB (by omega)).mono ?_
  rintro e w11 ⟨rfl, hbm⟩
  rw [HEQ.out]
  obtain ⟨b1, hb1⟩ : ∃ b1, b1 = decide (x = y) := ⟨_, rfl⟩
  rw [← hb1]
  have HB1 := Lib.hid hb1
  clear hb1
  replace hB := hB.trans (hbm.mono hB.size)
  replace hP := hP.below hbm
  replace hSI := hSI.below hbm
  replace hVx := hVx.below hbm
  replace hVy := hVy.below hbm
  replace hVA := hVA.below hbm
  replace hVB := hVB.below hbm
  replace t1 := t1.below hbm
  replace t2 := t2.below hbm
  clear hbm
  clear V10
  go_wp2_with fail
  refine (kints_at px py x y cx cy n _ HXL.out HYL.out hVx hVy (by omega)).mono ?_
  rintro e w12 ⟨rfl, hbm⟩
  rw [← HB1.out]
  have hbb : (b1 != b1) = false := by simp
  replace hB := hB.trans (hbm.mono hB.size)
  replace hP := hP.below hbm
  replace hSI := hSI.below hbm
  replace hVx := hVx.below hbm
  replace hVy := hVy.below hbm
  replace hVA := hVA.below hbm
  replace hVB := hVB.below hbm
  replace t1 := t1.below hbm
  replace t2 := t2.below hbm
  clear hbm
  clear w11
  have hmk := run_make_row' (P := Tryz.prog) 25 3 (.int .i64 0) 8 Tryz.underlying25 (by kernel_rfl) rfl .i64 .i64 n (by omega) (by omega)
  have hbm := (Below.refl w12.heap.size w12).alloc (Nat.le_refl _) (.cells (madeCells #[.int .i64 0] n) 3)
  have hVz : VecAt (w12.alloc (.cells (madeCells #[.int .i64 0] n) 3)) (some ⟨w12.heap.size, 0, none⟩) (List.replicate n 0) := vec_of_ints (IntsAt.made w12 n)
  replace hB := hB.trans (hbm.mono hB.size)
  replace hP := hP.below hbm
  replace hSI := hSI.below hbm
  replace hVx := hVx.below hbm
  replace hVy := hVy.below hbm
  replace hVA := hVA.below hbm
  replace hVB := hVB.below hbm
  replace t1 := t1.below hbm
  replace t2 := t2.below hbm
  clear hbm
  go_wp2_with fail
  refine (kints_at _ _ (resL S x) (List.replicate n 0) n n n _ HAL.out (by simp) hVA hVz (by omega)).mono ?_
  rintro e w13 ⟨rfl, hbm⟩
  replace hB := hB.trans (hbm.mono hB.size)
  replace hP := hP.below hbm
  replace hSI := hSI.below hbm
  replace hVx := hVx.below hbm
  replace hVy := hVy.below hbm
  replace hVA := hVA.below hbm
  replace hVB := hVB.below hbm
  replace t1 := t1.below hbm
  replace t2 := t2.below hbm
  clear hbm hVz hmk
  have HCB : Hid (∀ z : List Int, z.length = n → Within 500 z → 0 ≤ costL S z ∧ costL S z ≤ 85070591730234615865843651857942052864) := Lib.hid (fun z h1 h2 => cost_bd HOK.out (by rw [h1, HN.out]) (HPR.out z h1 (h2.mono (by omega))))
  by_cases hz : resL S x = List.replicate n 0
  · rw [decide_eq_true hz]
    have hle := cost_least HOK.out (y := y) (by rw [HXL.out, HN.out]) (by rw [HYL.out, HN.out]) (fun z hm => by rw [hz] at hm; exact List.eq_of_mem_replicate hm)
    have hcx := HCB.out x HXL.out HXW.out
    have hcy := HCB.out y HYL.out HYW.out
    have hsg : sgn (costL S x) (costL S y) ≤ 0 := by unfold sgn; split <;> (try split) <;> omega
    obtain ⟨sg, hsge⟩ : ∃ sg, sg = sgn (costL S x) (costL S y) := ⟨_, rfl⟩
    have HSG := Lib.hid hsge
    rw [← hsge] at hsg
    obtain ⟨a1, a2⟩ := t1
    obtain ⟨a3, a4⟩ := t2
    clear hsge hz
    go_wp2_with fail
    rw [← HC1.out, ← HC2.out]
    refine (compare_wv _ _ _ (by omega) (by omega) (by omega) (by omega)).mono ?_
    rintro e w14 ⟨rfl, hbm⟩
    rw [← HSG.out]
    have hBZ := hB.trans (hbm.mono hB.size)
    clear hbm
    go_wp2
    go_ret
    exact ⟨rfl, hBZ⟩
  · rw [decide_eq_false hz]
    go_wp2
    go_ret
    exact ⟨rfl, hB⟩
end Go.Proofs.YtblgchhmcifdgaaGreatDoor
