import Derived.Test.YtblgchhmcifdgaaGreatDoorKLaw23
set_option linter.unusedSimpArgs false
set_option linter.unusedVariables false
namespace Go.Proofs.YtblgchhmcifdgaaGreatDoor
open Go.RowKit Go.Grid Go.Shelf

set_option maxRecDepth 100000 in
set_option maxHeartbeats 4000000 in
theorem sym_law (W : World) (q : Option Addr) (cap cb co : Nat) (L : List Int) (hp : 0 < L.length → q = some ⟨cb, co, none⟩) (hl : L.length ≤ cap) (hc : cap ≤ 9223372036854775807)
    (hcell : ∀ k (h : k < L.length), W.cell? ⟨cb, co + k, none⟩ = some (.int .u8 L[k]) ∧ 0 ≤ L[k] ∧ L[k] < 256) (hT : HasTab W) (u : Int) (hu0 : 0 ≤ u) (hu1 : u < 256) :
    Calls Tryz.prog 6 #[.slice q L.length cap, .int .u8 u] W fun e w' => e = .returned (.bool true) ∧ Below W.heap.size W w' := by
  have HIN := Lib.hid (And.intro hp hcell)
  clear hp hcell
  go_enter Tryz.func6, Tryz.ntmps6
  go_wp2_with fail
  refine (awake23_any W hT).mono ?_
  rintro e w1 ⟨rfl, hB⟩
  go_wp2_with fail
  refine (start_any W q cap cb co 240 L w1 (by omega) HIN.out.1 hl hc HIN.out.2 hB).mono ?_
  rintro e w2 ⟨g, b, M, rfl, hg, hb2, hbM, hC⟩
  have hgW : W.heap.size ≤ g := by have := hB.size; omega
  replace hB := hB.trans (hb2.mono hB.size)
  have hgl := hC.lt
  have hbg : 0 < M.length → b < g := fun h0 => by have := hbM h0; omega
  clear hb2 hbM hg HIN hl hc
  clear w1
  go_wp2_with fail
  refine (csys_any w2 g b M 0 6 hC (by omega)).mono ?_
  rintro e w3 ⟨v, S, rfl, hSO, hOk, hPC, hSr, hg3, j3, hC3⟩
  replace hB := hB.grown hg3 hB.size (fun k hk => by injection hk with hk; omega)
  have hs3 := hg3.size
  have hb0 := hOk.nodes
  obtain ⟨hn1, hn2, hn3⟩ := hb0
  have hf := hPC.1
  clear hC hg3 hPC hSr
  have HSI := Lib.hid hSO.sysin
  obtain ⟨p1, d1, p2, d2, rfl, -⟩ := hSO.sysin
  go_wp2_with fail
  have hP : Five (w3.alloc (.cells #[.int .i64 S.f, .int .i64 S.s, .int .i64 S.a, .slice p1 S.rows.length d1, .slice p2 S.targets.length d2] 27)) w3.heap.size S.f S.s S.a (.slice p1 S.rows.length d1) (.slice p2 S.targets.length d2) := ⟨(by simp [RX.cell_drew, RX.cell_alloc, Nat.add_assoc]), (by simp [RX.cell_drew, RX.cell_alloc, Nat.add_assoc]), (by simp [RX.cell_drew, RX.cell_alloc, Nat.add_assoc]), (by simp [RX.cell_drew, RX.cell_alloc, Nat.add_assoc]), (by simp [RX.cell_drew, RX.cell_alloc, Nat.add_assoc])⟩
  have hb4 := (Below.refl w3.heap.size w3).alloc (Nat.le_refl _) (.cells #[.int .i64 S.f, .int .i64 S.s, .int .i64 S.a, .slice p1 S.rows.length d1, .slice p2 S.targets.length d2] 27)
  replace hB := hB.trans (hb4.mono hB.size)
  replace hSO := hSO.grown (grw_below hb4 none) (fun k hk => by cases hk)
  have hC4 := hC3.below hb4
  have hs4 : w3.heap.size < (w3.alloc (.cells #[.int .i64 S.f, .int .i64 S.s, .int .i64 S.a, .slice p1 S.rows.length d1, .slice p2 S.targets.length d2] 27)).heap.size := by simp
  obtain ⟨P, hPe⟩ : ∃ P, P = w3.heap.size := ⟨_, rfl⟩
  have hgP : g < P := by omega
  have hgP2 : P ≠ g := by omega
  rw [← hPe] at hP hs4 ⊢
  clear hC3 hb4 hPe hs3 HSI
  generalize (w3.alloc (.cells #[.int .i64 S.f, .int .i64 S.s, .int .i64 S.a, .slice p1 S.rows.length d1, .slice p2 S.targets.length d2] 27)) = W4 at *
  clear w3
  have HVV : Hid ((.agg #[.int .i64 S.f, .int .i64 S.s, .int .i64 S.a, .slice p1 S.rows.length d1, .slice p2 S.targets.length d2] : Value) = .agg #[.int .i64 S.f, .int .i64 S.s, .int .i64 S.a, .slice p1 S.rows.length d1, .slice p2 S.targets.length d2]) := Lib.hid rfl
  refine (r22nodes_any S.f _ (by omega) (by omega)).mono ?_
  rintro e wq ⟨rfl, rfl⟩
  rw [← hn1]
  obtain ⟨n, hn⟩ : ∃ n, n = S.n := ⟨_, rfl⟩
  have HN := Lib.hid hn
  rw [← hn] at hn1 hn2 hn3 ⊢
  have HOK := Lib.hid hOk
  have HPR : Hid (∀ zs : List Int, zs.length = n → Within 1048576 zs → VecOk S.f S.s S.a zs) := Lib.hid (fun zs h1 h2 => ⟨HOK.out.1, by rw [h1]; exact hn1, small_within h2⟩)
  clear hn hn1 hOk hf
  go_wp2_with fail
  refine (cvec_any _ g b M j3 n 524288 hC4 (fun h0 => by have := hbg h0; omega) (by omega) (by omega)).mono ?_
  rintro e w5 ⟨vx, x, rfl, hxl, hxw, hxr, hg5, j5, hC5⟩
  replace hB := hB.grown hg5 hB.size (fun k hk => by injection hk with hk; omega)
  replace hP := hP.turn hg5 hgP2
  replace hSO := hSO.grown hg5 (fun k hk => by injection hk with hk; omega)
  have hs5 := hg5.size
  obtain ⟨px, cx, rfl, hVx⟩ := hxr.vec
  clear hC4 hg5 hVx
  go_wp2_with fail
  refine (cvec_any _ g b M j5 n 524288 hC5 (fun h0 => by have := hbg h0; omega) (by omega) (by omega)).mono ?_
  rintro e w6 ⟨vy, y, rfl, hyl, hyw, hyr, hg6, j6, hC6⟩
  replace hB := hB.grown hg6 hB.size (fun k hk => by injection hk with hk; omega)
  replace hP := hP.turn hg6 hgP2
  replace hSO := hSO.grown hg6 (fun k hk => by injection hk with hk; omega)
  replace hxr := hxr.kept hg6 (fun k hk => by injection hk with hk; omega)
  obtain ⟨py, cy, rfl, hVy⟩ := hyr.vec
  have hVx : VecAt w6 px x := hxr.vecAt
  have hSI := hSO.sysin
  clear hC5 hC6 hg6 hxr hyr hSO hs5 hs4 hgl hbg hgP hgP2 hgW
  have HXW : Hid (Within 524288 x) := Lib.hid hxw
  have HYW : Hid (Within 524288 y) := Lib.hid hyw
  try rw [hxl]
  try rw [hyl]
  have HXL := Lib.hid hxl
  have HYL := Lib.hid hyl
  clear hxw hyw hxl hyl
  have HM : Hid (∀ (p : Option Addr) (xc : Nat) (z : List Int) (w' : World), HasTab w' → SysIn w' (.agg #[.int .i64 S.f, .int .i64 S.s, .int .i64 S.a, .slice p1 S.rows.length d1, .slice p2 S.targets.length d2]) S → VecAt w' p z → z.length = n → Within 1048576 z → Calls Tryz.prog 23 #[.agg #[.int .i64 S.f, .int .i64 S.s, .int .i64 S.a, .slice p1 S.rows.length d1, .slice p2 S.targets.length d2], .slice p n xc] w' fun e w'' => ∃ N, e = .returned (.tuple #[.slice (some ⟨N, 0, none⟩) n n, .int .i64 0]) ∧ VecAt w'' (some ⟨N, 0, none⟩) (multL S z) ∧ Below w'.heap.size w' w'') := Lib.hid (fun p xc z w' h1 h2 h3 h4 h5 => by
    have h := cmult_ok S _ p z xc w' h1 h2 HOK.out h3 (HPR.out z h4 h5)
    rw [h4, ← HN.out] at h
    refine h.mono ?_
    rintro e w'' ⟨N, rfl, hI, _, hb⟩
    exact ⟨N, rfl, vec_of_ints hI, hb⟩)
  obtain ⟨k0, k1, k2, k3, k4⟩ := hP
  go_wp2_with fail
  refine (HM.out px cx x _ (hT.below hB) hSI hVx HXL.out (HXW.out.mono (by omega))).mono ?_
  rintro e w7 ⟨A, rfl, hVA, hbm⟩
  have hP : Five _ P S.f S.s S.a (.slice p1 S.rows.length d1) (.slice p2 S.targets.length d2) := ⟨k0, k1, k2, k3, k4⟩
  clear k0 k1 k2 k3 k4
  replace hB := hB.trans (hbm.mono hB.size)
  replace hP := hP.below hbm
  replace hSI := hSI.below hbm
  replace hVx := hVx.below hbm
  replace hVy := hVy.below hbm
  clear hbm
  obtain ⟨k0, k1, k2, k3, k4⟩ := hP
  go_wp2_with fail
  refine (HM.out py cy y _ (hT.below hB) hSI hVy HYL.out (HYW.out.mono (by omega))).mono ?_
  rintro e w8 ⟨B, rfl, hVB, hbm⟩
  have hP : Five _ P S.f S.s S.a (.slice p1 S.rows.length d1) (.slice p2 S.targets.length d2) := ⟨k0, k1, k2, k3, k4⟩
  clear k0 k1 k2 k3 k4
  replace hB := hB.trans (hbm.mono hB.size)
  replace hP := hP.below hbm
  replace hSI := hSI.below hbm
  replace hVx := hVx.below hbm
  replace hVy := hVy.below hbm
  replace hVA := hVA.below hbm
  clear hbm
  have HAL : Hid ((multL S x).length = n) := Lib.hid (by rw [multL_len, HXL.out])
  have HBL : Hid ((multL S y).length = n) := Lib.hid (by rw [multL_len, HYL.out])
  have HAB := Lib.hid (multL_bd HOK.out (HPR.out x HXL.out (HXW.out.mono (by omega))))
  have HBB := Lib.hid (multL_bd HOK.out (HPR.out y HYL.out (HYW.out.mono (by omega))))
  have HSYM : Hid (dotL (multL S x) y = dotL x (multL S y)) := Lib.hid (mult_symm HOK.out (by rw [HXL.out, HN.out]) (by rw [HYL.out, HN.out]))
  have HADD : Hid (multL S (addL x y) = addL (multL S x) (multL S y)) := Lib.hid (mult_add HOK.out (by rw [HXL.out, HN.out]) (by rw [HYL.out, HN.out]))
  go_wp2_with fail
  refine (dot_at _ py (multL S x) y n cy n _ HAL.out HYL.out hVA hVy (by omega) (i64_bd HAB.out (by omega)) (i64_within HYW.out (by omega))).mono ?_
  rintro e w9 ⟨rfl, hbm⟩
  obtain ⟨S1, S2, q1, q2, hS⟩ := wv_parts (dotL (multL S x) y)
  clear q1 q2
  rw [hS]
  have HS := Lib.hid hS
  clear hS
  replace hB := hB.trans (hbm.mono hB.size)
  replace hP := hP.below hbm
  replace hSI := hSI.below hbm
  replace hVx := hVx.below hbm
  replace hVy := hVy.below hbm
  replace hVA := hVA.below hbm
  replace hVB := hVB.below hbm
  clear hbm
  go_wp2_with fail
  have t1 : Duo (w9.alloc (.cells #[.int .i64 S1, .int .u64 S2] 49)) w9.heap.size S1 S2 := ⟨(by simp [RX.cell_drew, RX.cell_alloc, Nat.add_assoc]), (by simp [RX.cell_drew, RX.cell_alloc, Nat.add_assoc])⟩
  have hbm := (Below.refl w9.heap.size w9).alloc (Nat.le_refl _) (.cells #[.int .i64 S1, .int .u64 S2] 49)
  obtain ⟨g1, hgi⟩ : ∃ g, g = w9.heap.size := ⟨_, rfl⟩
  rw [← hgi] at t1 ⊢
  clear hgi
  replace hB := hB.trans (hbm.mono hB.size)
  replace hP := hP.below hbm
  replace hSI := hSI.below hbm
  replace hVx := hVx.below hbm
  replace hVy := hVy.below hbm
  replace hVA := hVA.below hbm
  replace hVB := hVB.below hbm
  clear hbm
  generalize (w9.alloc (.cells #[.int .i64 S1, .int .u64 S2] 49)) = V9 at *
  clear w9
  refine (dot_at px _ x (multL S y) cx n n _ HXL.out HBL.out hVx hVB (by omega) (i64_within HXW.out (by omega)) (i64_bd HBB.out (by omega))).mono ?_
  rintro e w10 ⟨rfl, hbm⟩
  rw [← HSYM.out, HS.out]
  replace hB := hB.trans (hbm.mono hB.size)
  replace hP := hP.below hbm
  replace hSI := hSI.below hbm
  replace hVx := hVx.below hbm
  replace hVy := hVy.below hbm
  replace hVA := hVA.below hbm
  replace hVB := hVB.below hbm
  replace t1 := t1.below hbm
  clear hbm
  obtain ⟨k, hrem, hkn⟩ : ∃ k : Nat, u.tmod (n : Int) = k ∧ k < n := by
    have h1 := Int.tmod_eq_emod_of_nonneg (b := (n : Int)) hu0
    have h2 := Int.emod_nonneg u (show (n : Int) ≠ 0 by omega)
    have h3 := Int.emod_lt_of_pos u (show 0 < (n : Int) by omega)
    exact ⟨(u.tmod n).toNat, by omega, by omega⟩
  have hnz : ((n : Int) == 0) = false := by rw [beq_eq_false_iff_ne]; omega
  have hmk := run_make_row' (P := Tryz.prog) 25 3 (.int .i64 0) 8 Tryz.underlying25 (by kernel_rfl) rfl .i64 .i64 n (by omega) (by omega)
  have hP10 := hP
  have hbm := (Below.refl w10.heap.size w10).alloc (Nat.le_refl _) (.cells #[.int .i64 S1, .int .u64 S2] 49)
  have t2 : Duo (w10.alloc (.cells #[.int .i64 S1, .int .u64 S2] 49)) w10.heap.size S1 S2 := ⟨(by simp [RX.cell_drew, RX.cell_alloc, Nat.add_assoc]), (by simp [RX.cell_drew, RX.cell_alloc, Nat.add_assoc])⟩
  replace hB := hB.trans (hbm.mono hB.size)
  replace hP := hP.below hbm
  replace hSI := hSI.below hbm
  replace hVx := hVx.below hbm
  replace hVy := hVy.below hbm
  replace hVA := hVA.below hbm
  replace hVB := hVB.below hbm
  replace t1 := t1.below hbm
  clear hbm
  obtain ⟨z0, z1, z2, z3, z4⟩ := hP10
  have hPl : P < w10.heap.size := World.block_lt_of_cell? _ _ z0
  have hmade := IntsAt.made (w10.alloc (.cells #[.int .i64 S1, .int .u64 S2] 49)) n
  obtain ⟨mk1, mk2⟩ := hmade k (by simpa using hkn)
  rw [Nat.zero_add, List.getElem_replicate] at mk1
  rw [Nat.zero_add] at mk2
  have hmade2 := hmade.set k 1
  rw [Nat.zero_add] at hmade2
  have hbm := ((Below.refl (w10.alloc (.cells #[.int .i64 S1, .int .u64 S2] 49)).heap.size (w10.alloc (.cells #[.int .i64 S1, .int .u64 S2] 49))).alloc (Nat.le_refl _) (.cells (madeCells #[.int .i64 0] n) 3)).setCell (p := ⟨(w10.alloc (.cells #[.int .i64 S1, .int .u64 S2] 49)).heap.size, k, none⟩) (Nat.le_refl _) (.int .i64 1)
  rw [World.setCell_alloc_new] at hmade2 hbm
  have hk0 : (0 : Int) ≤ (k : Int) := by omega
  have hkI : (k : Int) < (n : Int) := by omega
  have HMADE := Lib.hid (show VecAt _ (some ⟨_, 0, none⟩) (unitL n k) from vec_of_ints hmade2)
  have HBM := Lib.hid hbm
  clear hmade hmade2 hbm
  simp only [World.size_alloc] at mk1 mk2
  go_wp2_with fail
  have hVu := HMADE.out
  have hbm := HBM.out
  simp only [World.size_alloc] at hVu
  obtain ⟨WU, hWU⟩ : ∃ WU, WU = (w10.alloc (.cells #[.int .i64 S1, .int .u64 S2] 49)).alloc (.cells ((madeCells #[.int .i64 0] n).setIfInBounds k (.int .i64 1)) 3) := ⟨_, rfl⟩
  rw [← hWU] at hVu hbm ⊢
  replace hB := hB.trans (hbm.mono hB.size)
  replace hP := hP.below hbm
  replace hSI := hSI.below hbm
  replace hVx := hVx.below hbm
  replace hVy := hVy.below hbm
  replace hVA := hVA.below hbm
  replace hVB := hVB.below hbm
  replace t1 := t1.below hbm
  replace t2 := t2.below hbm
  clear hbm hWU HMADE HBM mk1 mk2 hmk z0 z1 z2 z3 z4 hPl
  obtain ⟨g2, hg2⟩ : ∃ g, g = w10.heap.size := ⟨_, rfl⟩
  rw [← hg2] at t2 ⊢
  rw [← hg2] at hVu
  clear hg2
  clear w10
  refine (HM.out _ n (unitL n k) _ (hT.below hB) hSI hVu (unitL_len n k) (fun z hz => by
    obtain ⟨i, hi, rfl⟩ := List.getElem_of_mem hz
    rw [unitL_len] at hi
    have h9 := unit_get hi hkn
    rw [i64_get (by rw [unitL_len]; exact hi)] at h9
    rw [h9]; split <;> omega)).mono ?_
  rintro e w11 ⟨C, rfl, hVC, hbm⟩
  replace hB := hB.trans (hbm.mono hB.size)
  replace hP := hP.below hbm
  replace hSI := hSI.below hbm
  replace hVx := hVx.below hbm
  replace hVy := hVy.below hbm
  replace hVA := hVA.below hbm
  replace hVB := hVB.below hbm
  replace t1 := t1.below hbm
  replace t2 := t2.below hbm
  replace hVu := hVu.below hbm
  clear hbm
  clear WU
  have HDI : Hid (∀ (w' : World), HasTab w' → SysIn w' (.agg #[.int .i64 S.f, .int .i64 S.s, .int .i64 S.a, .slice p1 S.rows.length d1, .slice p2 S.targets.length d2]) S → Calls Tryz.prog 30 #[.agg #[.int .i64 S.f, .int .i64 S.s, .int .i64 S.a, .slice p1 S.rows.length d1, .slice p2 S.targets.length d2]] w' fun e w'' => ∃ N, e = .returned (.tuple #[.slice (some ⟨N, 0, none⟩) n n, .int .i64 0]) ∧ VecAt w'' (some ⟨N, 0, none⟩) (diagL S) ∧ Below w'.heap.size w' w'') := Lib.hid (fun w' h1 h2 => by
    have h := cdiag_ok S _ w' h1 h2 HOK.out
    rw [← HN.out] at h
    refine h.mono ?_
    rintro e w'' ⟨N, rfl, hI, _, hb⟩
    exact ⟨N, rfl, vec_of_ints hI, hb⟩)
  obtain ⟨k0, k1, k2, k3, k4⟩ := hP
  go_wp2_with fail
  refine (HDI.out _ (hT.below hB) hSI).mono ?_
  rintro e w12 ⟨D, rfl, hVD, hbm⟩
  have hP : Five _ P S.f S.s S.a (.slice p1 S.rows.length d1) (.slice p2 S.targets.length d2) := ⟨k0, k1, k2, k3, k4⟩
  clear k0 k1 k2 k3 k4
  replace hB := hB.trans (hbm.mono hB.size)
  replace hP := hP.below hbm
  replace hSI := hSI.below hbm
  replace hVx := hVx.below hbm
  replace hVy := hVy.below hbm
  replace hVA := hVA.below hbm
  replace hVB := hVB.below hbm
  replace t1 := t1.below hbm
  replace t2 := t2.below hbm
  replace hVu := hVu.below hbm
  replace hVC := hVC.below hbm
  clear hbm
  clear w11
  have HBAG := Lib.hid (And.intro hP (And.intro hSI (And.intro hVx (And.intro hVy (And.intro hVA (And.intro hVB (And.intro t1 (And.intro t2 (And.intro hVC hVD)))))))))
  have HB := Lib.hid hB
  clear hP hSI hVx hVy hVA hVB t1 t2 hVC hVD hB hVu
  go_wp2
  go_loopw [23, 89] (fun v i wr => ∃ (j : Nat) (T : List Int), j ≤ n ∧ i = .int .i64 j ∧ T.length = j ∧ Hid (T = addL (x.take j) (y.take j)) ∧ RowV wr w12.heap.size v T ∧ Below w12.heap.size w12 wr) (fun v i _ => n - (intOf i).toNat)
  case atStart => exact ⟨0, [], by omega, rfl, rfl, Lib.hid rfl, RowV.nil _ _, Below.refl _ _⟩
  case round =>
    obtain ⟨_, xs, hj, rfl, rfl, HX, hrow, hB⟩ := hrel
    by_cases hlt : xs.length < n
    · have hdk : decide ((xs.length : Int) < (n : Int)) = true := decide_eq_true (by omega)
      have hltx : xs.length < x.length := by rw [HXL.out]; exact hlt
      have hlty : xs.length < y.length := by rw [HYL.out]; exact hlt
      obtain ⟨b1, o1, rfl, hbl, hcell⟩ := HBAG.out.2.2.1.cell (by omega)
      obtain ⟨c1, o2, rfl, hcl, hcell2⟩ := HBAG.out.2.2.2.1.cell (by omega)
      have ck := RX.keep hB (hcell xs.length hltx)
      have dk := RX.keep hB (hcell2 xs.length hlty)
      have hbz := HXW.out x[xs.length] (List.getElem_mem _)
      have hby := HYW.out y[xs.length] (List.getElem_mem _)
      obtain ⟨a1, hx⟩ : ∃ a1, a1 = x[xs.length] := ⟨_, rfl⟩
      rw [← hx] at ck hbz
      obtain ⟨a2, hu⟩ : ∃ a2, a2 = y[xs.length] := ⟨_, rfl⟩
      rw [← hu] at dk hby
      have hstep : Hid (xs ++ [a1 + a2] = addL (x.take (xs.length + 1)) (y.take (xs.length + 1))) := Lib.hid (by
        rw [List.take_succ_eq_append_getElem hltx, List.take_succ_eq_append_getElem hlty, ← hx, ← hu]
        have e := HX.out
        unfold addL at e ⊢
        rw [List.zipWith_append (by simp; omega), ← e]; rfl)
      obtain ⟨yy, hy⟩ : ∃ yy, a1 + a2 = yy := ⟨_, rfl⟩
      rw [hy] at hstep
      clear hx hu hcell hcell2
      obtain ⟨p8, c8, rfl, hc8⟩ := own_slice hrow
      have hs1 := hB.size
      have hown := World.ownsRow.alloc hrow (.cells #[.int .i64 yy] 3)
      clear hrow
      have HB1 := Lib.hid hB
      clear hB
      have hxy : -4611686018427387904 ≤ yy ∧ yy ≤ 4611686018427387904 := by omega
      have hjx0 : (0 : Int) ≤ (xs.length : Int) := by omega
      have hjxI : (xs.length : Int) < (n : Int) := by omega
      go_wp2
      refine RY.region RX.fL (fun w' => w'.cell? ⟨b1, o1 + xs.length, none⟩ = some (.int .i64 a1) ∧ w'.cell? ⟨c1, o2 + xs.length, none⟩ = some (.int .i64 a2)) (by kernel_rfl) (by kernel_rfl) (⟨ck, dk⟩) (fun OPS HO QR hQR => ?_)
      repeat
        refine RY.step (fun R hR => ?_)
        first
        | (refine RY.one_skip (by first | rfl | (rw [HO.out]; rfl)) (by simp only [RX.put_some, RX.put_none, List.set_cons_zero, List.set_cons_succ]; rfl) ?_
           refine hR _ _ ?_; clear hR R)
        | (refine RY.one_move (by first | rfl | (rw [HO.out]; rfl)) rfl (by first | exact Or.inl rfl | exact Or.inr rfl) (by simp only [RX.eval_tmp, RX.eval_const, List.getD_cons_zero, List.getD_cons_succ]; rfl) (by simp only [RX.put_some, RX.put_none, List.set_cons_zero, List.set_cons_succ]; rfl) ?_
           refine hR _ _ ?_; clear hR R)
        | (refine RY.one_nil (by first | rfl | (rw [HO.out]; rfl)) rfl rfl (by simp only [RX.eval_tmp, RX.eval_const, List.getD_cons_zero, List.getD_cons_succ]; rfl) (by simp only [RX.put_some, RX.put_none, List.set_cons_zero, List.set_cons_succ]; rfl) ?_
           refine hR _ _ ?_; clear hR R)
        | (refine RY.one_float (by first | rfl | (rw [HO.out]; rfl)) rfl rfl rfl ?_
           apply Exists.intro; apply Exists.intro
           refine ⟨fun w' hS K hK => ?_, ?_, ?_⟩
           · obtain ⟨hS1, hS2⟩ := hS; go_wp2; exact hK _ _ (by simp only [RX.arr_getD, List.getD_cons_zero, List.getD_cons_succ]; first | exact RX.dec_t (by omega) | exact RX.dec_f (by omega) | exact RX.beq_t (by omega) | exact RX.beq_f (by omega) | exact RX.bne_t (by omega) | exact RX.bne_f (by omega) | exact RX.bneB _ | rfl) rfl
           · simp only [RX.put_some, RX.put_none, List.set_cons_zero, List.set_cons_succ]; rfl
           refine hR _ _ ?_; clear hR R)
      refine RY.step (fun R hR => ?_)
      refine RY.one_chain (by first | rfl | (rw [HO.out]; rfl)) rfl (fun K hK => ?_)
      go_wp2
      refine ⟨.inr (⟨(by (try have hLt := World.block_lt_of_cell? _ _ ck); (try simp only at hLt); (repeat first | rw [RX.cell_drew] | rw [World.cell?_setCell_other _ _ _ _ (by first | (simp; done) | (simp; omega) | omega)] | rw [RX.cell_alloc, if_neg (by first | (simp; done) | (simp; omega) | omega)]); first | exact ck | (rw [RX.cell_alloc, if_pos (by first | (simp; done) | omega)]; exact ck)), (by (try have hLt := World.block_lt_of_cell? _ _ dk); (try simp only at hLt); (repeat first | rw [RX.cell_drew] | rw [World.cell?_setCell_other _ _ _ _ (by first | (simp; done) | (simp; omega) | omega)] | rw [RX.cell_alloc, if_neg (by first | (simp; done) | (simp; omega) | omega)]); first | exact dk | (rw [RX.cell_alloc, if_pos (by first | (simp; done) | omega)]; exact dk))⟩), hR _ _ ?_⟩; clear hR R
      repeat
        refine RY.step (fun R hR => ?_)
        first
        | (refine RY.one_skip (by first | rfl | (rw [HO.out]; rfl)) (by simp only [RX.put_some, RX.put_none, List.set_cons_zero, List.set_cons_succ]; rfl) ?_
           refine hR _ _ ?_; clear hR R)
        | (refine RY.one_move (by first | rfl | (rw [HO.out]; rfl)) rfl (by first | exact Or.inl rfl | exact Or.inr rfl) (by simp only [RX.eval_tmp, RX.eval_const, List.getD_cons_zero, List.getD_cons_succ]; rfl) (by simp only [RX.put_some, RX.put_none, List.set_cons_zero, List.set_cons_succ]; rfl) ?_
           refine hR _ _ ?_; clear hR R)
        | (refine RY.one_nil (by first | rfl | (rw [HO.out]; rfl)) rfl rfl (by simp only [RX.eval_tmp, RX.eval_const, List.getD_cons_zero, List.getD_cons_succ]; rfl) (by simp only [RX.put_some, RX.put_none, List.set_cons_zero, List.set_cons_succ]; rfl) ?_
           refine hR _ _ ?_; clear hR R)
        | (refine RY.one_float (by first | rfl | (rw [HO.out]; rfl)) rfl rfl rfl ?_
           apply Exists.intro; apply Exists.intro
           refine ⟨fun w' hS K hK => ?_, ?_, ?_⟩
           · obtain ⟨hS1, hS2⟩ := hS; go_wp2; exact hK _ _ (by simp only [RX.arr_getD, List.getD_cons_zero, List.getD_cons_succ]; first | exact RX.dec_t (by omega) | exact RX.dec_f (by omega) | exact RX.beq_t (by omega) | exact RX.beq_f (by omega) | exact RX.bne_t (by omega) | exact RX.bne_f (by omega) | exact RX.bneB _ | rfl) rfl
           · simp only [RX.put_some, RX.put_none, List.set_cons_zero, List.set_cons_succ]; rfl
           refine hR _ _ ?_; clear hR R)
      refine RY.step (fun R hR => ?_)
      refine RY.one_chain (by first | rfl | (rw [HO.out]; rfl)) rfl (fun K hK => ?_)
      refine RX.wp_app elInt _ _ rfl w12.heap.size _ _ _ (hown.drew) (by simp only [RX.eval_tmp, RX.eval_const, List.getD_cons_zero, List.getD_cons_succ]) wr.heap.size _ 1 (by simp only [RX.eval_tmp, RX.eval_const, List.getD_cons_zero, List.getD_cons_succ]) (heap_alloc_new _ _) rfl (by simp [Value.oneCell']) (by omega) (by omega) (by simp; omega) (fun v' w2 hown2 hb2 hg2 hat2 => ?_)
      have hlow : ∀ q, (Value.slice p8 xs.length c8).ownBlock = some q → w12.heap.size ≤ q := fun q hq => (World.ownsRow.lt hown q hq).1
      have HB2 : Hid (Below w12.heap.size w12 w2) := Lib.hid ((HB1.out.alloc (by omega) _).drew.grown hg2 (by simp; omega) hlow)
      have HR2 : Hid (RowV w2 w12.heap.size v' (xs ++ [yy])) := Lib.hid (RowV.snoc hown2)
      have x2 : w2.cell? ⟨b1, o1 + xs.length, none⟩ = some (.int .i64 a1) := hg2.cell (a := ⟨b1, o1 + xs.length, none⟩) (by (try have hLt := World.block_lt_of_cell? _ _ ck); (try simp only at hLt); (repeat first | rw [RX.cell_drew] | rw [World.cell?_setCell_other _ _ _ _ (by first | (simp; done) | (simp; omega) | omega)] | rw [RX.cell_alloc, if_neg (by first | (simp; done) | (simp; omega) | omega)]); first | exact ck | (rw [RX.cell_alloc, if_pos (by first | (simp; done) | omega)]; exact ck)) (fun e => by have := hlow b1 e.symm; omega)
      have y2 : w2.cell? ⟨c1, o2 + xs.length, none⟩ = some (.int .i64 a2) := hg2.cell (a := ⟨c1, o2 + xs.length, none⟩) (by (try have hLt := World.block_lt_of_cell? _ _ dk); (try simp only at hLt); (repeat first | rw [RX.cell_drew] | rw [World.cell?_setCell_other _ _ _ _ (by first | (simp; done) | (simp; omega) | omega)] | rw [RX.cell_alloc, if_neg (by first | (simp; done) | (simp; omega) | omega)]); first | exact dk | (rw [RX.cell_alloc, if_pos (by first | (simp; done) | omega)]; exact dk)) (fun e => by have := hlow c1 e.symm; omega)
      refine hK _ _ ⟨.inr (⟨x2, y2⟩), ?_⟩; clear hK K; refine RY.at_ (by simp only [RX.put_some, RX.put_none, List.set_cons_zero, List.set_cons_succ]; rfl) (hR _ _ ?_); clear hR R
      repeat
        refine RY.step (fun R hR => ?_)
        first
        | (refine RY.one_skip (by first | rfl | (rw [HO.out]; rfl)) (by simp only [RX.put_some, RX.put_none, List.set_cons_zero, List.set_cons_succ]; rfl) ?_
           refine hR _ _ ?_; clear hR R)
        | (refine RY.one_move (by first | rfl | (rw [HO.out]; rfl)) rfl (by first | exact Or.inl rfl | exact Or.inr rfl) (by simp only [RX.eval_tmp, RX.eval_const, List.getD_cons_zero, List.getD_cons_succ]; rfl) (by simp only [RX.put_some, RX.put_none, List.set_cons_zero, List.set_cons_succ]; rfl) ?_
           refine hR _ _ ?_; clear hR R)
        | (refine RY.one_nil (by first | rfl | (rw [HO.out]; rfl)) rfl rfl (by simp only [RX.eval_tmp, RX.eval_const, List.getD_cons_zero, List.getD_cons_succ]; rfl) (by simp only [RX.put_some, RX.put_none, List.set_cons_zero, List.set_cons_succ]; rfl) ?_
           refine hR _ _ ?_; clear hR R)
        | (refine RY.one_float (by first | rfl | (rw [HO.out]; rfl)) rfl rfl rfl ?_
           apply Exists.intro; apply Exists.intro
           refine ⟨fun w' hS K hK => ?_, ?_, ?_⟩
           · obtain ⟨hS1, hS2⟩ := hS; go_wp2; exact hK _ _ (by simp only [RX.arr_getD, List.getD_cons_zero, List.getD_cons_succ]; first | exact RX.dec_t (by omega) | exact RX.dec_f (by omega) | exact RX.beq_t (by omega) | exact RX.beq_f (by omega) | exact RX.bne_t (by omega) | exact RX.bne_f (by omega) | exact RX.bneB _ | rfl) rfl
           · simp only [RX.put_some, RX.put_none, List.set_cons_zero, List.set_cons_succ]; rfl
           refine hR _ _ ?_; clear hR R)
      refine RY.wpL_nil (hQR _ _ ?_); clear hQR QR HO OPS
      go_wp2
      go_roundw
      case rel => exact ⟨xs.length + 1, xs ++ [yy], by omega, by go_num, by simp, hstep, HR2.out, HB2.out⟩
      case measure => simp [intOf]; omega
    · have hdk : decide ((xs.length : Int) < (n : Int)) = false := decide_eq_false (by omega)
      have he : xs.length = n := by omega
      have HE : Hid (xs = addL x y) := Lib.hid (by rw [HX.out, he, List.take_of_length_le (by rw [HXL.out]; omega), List.take_of_length_le (by rw [HYL.out]; omega)])
      obtain ⟨pz, cz, rfl, hcz⟩ := own_slice hrow
      have hVz : VecAt wr pz xs := hrow.vecAt
      have hb12 := hB
      have hBW := HB.out.trans (hB.mono HB.out.size)
      have HXS := Lib.hid he
      obtain ⟨hP, hSI, hVx, hVy, hVA, hVB, t1, t2, hVC, hVD⟩ := HBAG.out
      replace hP := hP.below hb12
      replace hSI := hSI.below hb12
      replace hVx := hVx.below hb12
      replace hVy := hVy.below hb12
      replace hVA := hVA.below hb12
      replace hVB := hVB.below hb12
      replace t1 := t1.below hb12
      replace t2 := t2.below hb12
      replace hVC := hVC.below hb12
      replace hVD := hVD.below hb12
      rw [he]
      clear hb12 hB hrow HX HBAG HB he
      obtain ⟨k0, k1, k2, k3, k4⟩ := hP
      go_wp2_with fail
      refine (HM.out pz cz xs _ (hT.below hBW) hSI hVz HXS.out (by rw [HE.out]; exact (addL_within HXW.out HYW.out).mono (by omega))).mono ?_
      rintro e w13 ⟨E, rfl, hVE, hbm⟩
      rw [HE.out, HADD.out] at hVE
      have hBX := Lib.hid (hBW.trans (hbm.mono hBW.size))
      replace hVA := hVA.below hbm
      replace hVB := hVB.below hbm
      replace t1 := t1.below hbm
      replace t2 := t2.below hbm
      replace hVC := hVC.below hbm
      replace hVD := hVD.below hbm
      have HCK : Hid (∃ z, w13.cell? ⟨C, k, none⟩ = some (.int .i64 z) ∧ w13.cell? ⟨D, k, none⟩ = some (.int .i64 z)) := Lib.hid (by
        have hcl : k < (multL S (unitL n k)).length := by rw [multL_len, unitL_len]; exact hkn
        have hdl : k < (diagL S).length := by rw [diagL_len, ← HN.out]; exact hkn
        have e1 := hVC.at0 hcl
        have e2 := hVD.at0 hdl
        have e3 := diag_unit HOK.out (k := k) (by rw [← HN.out]; exact hkn)
        rw [← HN.out, i64_get hcl, i64_get hdl] at e3
        rw [e3] at e1
        exact ⟨_, e1, e2⟩)
      have HVS := Lib.hid (And.intro hVA (And.intro hVB (And.intro hVE (And.intro t1 t2))))
      have HEL : Hid ((addL (multL S x) (multL S y)).length = n) := Lib.hid (by rw [addL_len (by rw [HAL.out, HBL.out]), HAL.out])
      have hnn : ((n : Int) != (n : Int)) = false := by simp
      clear hVA hVB hVE t1 t2 hVC hVD hbm k0 k1 k2 k3 k4 hSI hVx hVy hVz hBW
      go_wp2
      go_loopw [169] (fun i wr => ∃ j : Nat, j ≤ n ∧ i = .int .i64 j ∧ Below w13.heap.size w13 wr) (fun i _ => n - (intOf i).toNat)
      case atStart => exact ⟨0, Nat.zero_le _, rfl, Below.refl _ _⟩
      case round =>
        obtain ⟨j, hj, rfl, hbr⟩ := hrel
        by_cases hltj : j < n
        · have hdj : decide ((j : Int) < (n : Int)) = true := decide_eq_true (by omega)
          have hA9 := RX.keep hbr (HVS.out.1.at0 (k := j) (by rw [HAL.out]; exact hltj))
          have hB9 := RX.keep hbr (HVS.out.2.1.at0 (k := j) (by rw [HBL.out]; exact hltj))
          have hE9 := RX.keep hbr (HVS.out.2.2.1.at0 (k := j) (by rw [HEL.out]; exact hltj))
          have hae : (addL (multL S x) (multL S y))[j]'(by rw [HEL.out]; exact hltj) = (multL S x)[j]'(by rw [HAL.out]; exact hltj) + (multL S y)[j]'(by rw [HBL.out]; exact hltj) := by simp [addL]
          rw [hae] at hE9
          have hab := HAB.out _ (List.getElem_mem (show j < (multL S x).length by rw [HAL.out]; exact hltj))
          have hbb := HBB.out _ (List.getElem_mem (show j < (multL S y).length by rw [HBL.out]; exact hltj))
          obtain ⟨aa, haa⟩ : ∃ aa, aa = (multL S x)[j]'(by rw [HAL.out]; exact hltj) := ⟨_, rfl⟩
          obtain ⟨bb, hbb2⟩ : ∃ bb, bb = (multL S y)[j]'(by rw [HBL.out]; exact hltj) := ⟨_, rfl⟩
          rw [← haa] at hA9 hE9 hab
          rw [← hbb2] at hB9 hE9 hbb
          have hj0 : (0 : Int) ≤ (j : Int) := by omega
          have hjI : (j : Int) < (n : Int) := by omega
          have hne : ((aa + bb) != (aa + bb)) = false := by simp
          clear hae haa hbb2
          go_wp2
          refine RX.region RX.fN (fun w' => w' = _) (by kernel_rfl) (by kernel_rfl) rfl (fun OPS HO QR hQR => ?_)
          repeat
            refine RX.step (fun R hR => ?_)
            first
            | (refine RX.one_skip (by first | rfl | (rw [HO.out]; rfl)) (by simp only [RX.put_some, RX.put_none, List.set_cons_zero, List.set_cons_succ]; rfl) ?_
               refine hR _ _ ?_; clear hR R)
            | (refine RX.one_move (by first | rfl | (rw [HO.out]; rfl)) rfl (by first | exact Or.inl rfl | exact Or.inr rfl) (by simp only [RX.eval_tmp, RX.eval_const, List.getD_cons_zero, List.getD_cons_succ]; rfl) (by simp only [RX.put_some, RX.put_none, List.set_cons_zero, List.set_cons_succ]; rfl) ?_
               refine hR _ _ ?_; clear hR R)
            | (refine RX.one_nil (by first | rfl | (rw [HO.out]; rfl)) rfl rfl (by simp only [RX.eval_tmp, RX.eval_const, List.getD_cons_zero, List.getD_cons_succ]; rfl) (by simp only [RX.put_some, RX.put_none, List.set_cons_zero, List.set_cons_succ]; rfl) ?_
               refine hR _ _ ?_; clear hR R)
            | (refine RX.one_float (by first | rfl | (rw [HO.out]; rfl)) rfl rfl rfl ?_
               apply Exists.intro; apply Exists.intro
               refine ⟨fun w' hS K hK => ?_, ?_, ?_⟩
               · subst hS; go_wp2; exact hK _ _ (by simp only [RX.arr_getD, List.getD_cons_zero, List.getD_cons_succ]; first | exact RX.dec_t (by omega) | exact RX.dec_f (by omega) | exact RX.beq_t (by omega) | exact RX.beq_f (by omega) | exact RX.bne_t (by omega) | exact RX.bne_f (by omega) | exact RX.bneB _ | rfl) rfl
               · simp only [RX.put_some, RX.put_none, List.set_cons_zero, List.set_cons_succ]; rfl
               refine hR _ _ ?_; clear hR R)
          refine RX.wpL_nil (hQR _ _ rfl ?_); clear hQR QR HO OPS
          go_wp2
          go_roundw
          case rel => exact ⟨j + 1, by omega, by go_num, hbr.drew⟩
          case measure => simp [intOf]; omega
        · have hdj : decide ((j : Int) < (n : Int)) = false := decide_eq_false (by omega)
          obtain ⟨z, hz1, hz2⟩ := HCK.out
          replace hz1 := RX.keep hbr hz1
          replace hz2 := RX.keep hbr hz2
          have u1 := RX.keep hbr HVS.out.2.2.2.1.1
          have u2 := RX.keep hbr HVS.out.2.2.2.1.2
          have u3 := RX.keep hbr HVS.out.2.2.2.2.1
          have u4 := RX.keep hbr HVS.out.2.2.2.2.2
          have HBZ := Lib.hid (hBX.out.trans (hbr.mono hBX.out.size))
          clear hbr
          go_wp2
          refine RX.region RX.fN (fun w' => w' = _) (by kernel_rfl) (by kernel_rfl) rfl (fun OPS HO QR hQR => ?_)
          repeat
            refine RX.step (fun R hR => ?_)
            first
            | (refine RX.one_skip (by first | rfl | (rw [HO.out]; rfl)) (by simp only [RX.put_some, RX.put_none, List.set_cons_zero, List.set_cons_succ]; rfl) ?_
               refine hR _ _ ?_; clear hR R)
            | (refine RX.one_move (by first | rfl | (rw [HO.out]; rfl)) rfl (by first | exact Or.inl rfl | exact Or.inr rfl) (by simp only [RX.eval_tmp, RX.eval_const, List.getD_cons_zero, List.getD_cons_succ]; rfl) (by simp only [RX.put_some, RX.put_none, List.set_cons_zero, List.set_cons_succ]; rfl) ?_
               refine hR _ _ ?_; clear hR R)
            | (refine RX.one_nil (by first | rfl | (rw [HO.out]; rfl)) rfl rfl (by simp only [RX.eval_tmp, RX.eval_const, List.getD_cons_zero, List.getD_cons_succ]; rfl) (by simp only [RX.put_some, RX.put_none, List.set_cons_zero, List.set_cons_succ]; rfl) ?_
               refine hR _ _ ?_; clear hR R)
            | (refine RX.one_float (by first | rfl | (rw [HO.out]; rfl)) rfl rfl rfl ?_
               apply Exists.intro; apply Exists.intro
               refine ⟨fun w' hS K hK => ?_, ?_, ?_⟩
               · subst hS; go_wp2; exact hK _ _ (by simp only [RX.arr_getD, List.getD_cons_zero, List.getD_cons_succ]; first | exact RX.dec_t (by omega) | exact RX.dec_f (by omega) | exact RX.beq_t (by omega) | exact RX.beq_f (by omega) | exact RX.bne_t (by omega) | exact RX.bne_f (by omega) | exact RX.bneB _ | rfl) rfl
               · simp only [RX.put_some, RX.put_none, List.set_cons_zero, List.set_cons_succ]; rfl
               refine hR _ _ ?_; clear hR R)
          refine RX.wpL_nil (hQR _ _ rfl ?_); clear hQR QR HO OPS
          go_wp2
          go_ret
          exact ⟨rfl, HBZ.out.drew⟩
end Go.Proofs.YtblgchhmcifdgaaGreatDoor
