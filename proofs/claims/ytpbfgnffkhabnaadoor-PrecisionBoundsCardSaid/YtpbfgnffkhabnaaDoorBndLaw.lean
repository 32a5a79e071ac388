import Derived.Test.YtpbfgnffkhabnaaDoorDefLaw
set_option linter.unusedSimpArgs false
set_option linter.unusedVariables false
namespace Go.Proofs.YtpbfgnffkhabnaaDoor
open Go.RowKit Go.Grid Go.Maps Go.Sort Go.Shelf

/-- All are the first one. -/
def flatB (c : Int) : List Int → Bool
  | [] => true
  | z :: l => (z == c) && flatB c l
theorem flatB_snoc (c z : Int) : ∀ l, flatB c (l ++ [z]) = (flatB c l && (z == c))
  | [] => by simp [flatB]
  | y :: l => by simp only [List.cons_append, flatB, flatB_snoc c z l, Bool.and_assoc]
theorem flatB_take {c : Int} {zs : List Int} {k : Nat} (hk : k < zs.length) : flatB c (zs.take (k + 1)) = (flatB c (zs.take k) && (zs[k] == c)) := by
  rw [List.take_succ_eq_append_getElem hk, flatB_snoc]
theorem flatB_iff {c : Int} : ∀ {zs : List Int}, flatB c zs = true ↔ ∀ z ∈ zs, z = c
  | [] => by simp [flatB]
  | z :: l => by simp only [flatB, Bool.and_eq_true, beq_iff_eq, flatB_iff (zs := l), List.mem_cons, forall_eq_or_imp]
/-- The grid hangs together: without differences along the edges there are none at all. -/
theorem flat_qf {n : Nat} {zs : List Int} (h1 : 1 ≤ n) (h2 : n ≤ 8) (hl : (zs.length : Int) = 10 * (n : Int) * n + 2) : flatB (zs.getD 0 0) zs = true ↔ qf zs zs (edgesL n) = 0 := by
  have hM : (nodesL n).length = zs.length := by
    have : ((nodesL n).length : Int) = (zs.length : Int) := by rw [nodes_len h1 h2, hl]; simp
    omega
  have hIR := edges_InR (f := n) h1 h2 hl
  rw [flatB_iff]
  constructor
  · intro h
    refine qf_flat zs _ (fun e he => ?_)
    obtain ⟨r1, r2⟩ := hIR e he
    have e1 : zs.getD e.1.toNat 0 = zs[e.1.toNat] := by simp [List.getD, List.getElem?_eq_getElem r1]
    have e2 : zs.getD e.2.toNat 0 = zs[e.2.toNat] := by simp [List.getD, List.getElem?_eq_getElem r2]
    rw [e1, e2, h _ (List.getElem_mem _), h _ (List.getElem_mem _)]
  · intro h
    exact flat_iff h1 (by omega) (hh_mul h1 h2) hM.symm (fun e he => qf_zero zs _ h e he)
theorem least_eq {n : Nat} {s a : Int} {zs : List Int} (h1 : 1 ≤ n) (h2 : n ≤ 8) (hl : (zs.length : Int) = 10 * (n : Int) * n + 2) :
    energyL s a zs (edgesL n) = a * dotL zs zs ↔ (flatB (zs.getD 0 0) zs = true ∨ s = 0) := by
  rw [flat_qf h1 h2 hl]
  unfold energyL
  constructor
  · intro h
    rcases Int.mul_eq_zero.1 (show s * qf zs zs (edgesL n) = 0 by omega) with h | h
    · exact .inr h
    · exact .inl h
  · rintro (h | h)
    · rw [h]; simp
    · rw [h]; simp
/-- The first k elements replaced by c. -/
def fillD (c : Int) (zs : List Int) (k : Nat) : List Int := List.replicate (min k zs.length) c ++ zs.drop k
theorem fillD_len (c : Int) (zs : List Int) (k : Nat) : (fillD c zs k).length = zs.length := by simp [fillD]; omega
theorem fillD_zero (c : Int) (zs : List Int) : fillD c zs 0 = zs := by simp [fillD]
theorem fillD_succ {c : Int} {zs : List Int} {k : Nat} (h : k < zs.length) : (fillD c zs k).set k c = fillD c zs (k + 1) := by
  unfold fillD
  rw [show min k zs.length = k by omega, show min (k + 1) zs.length = k + 1 by omega, List.set_append_right _ _ (by simp), List.length_replicate, Nat.sub_self, List.drop_eq_getElem_cons h, List.set_cons_zero, List.replicate_succ', List.append_assoc]; rfl
theorem fillD_within {c : Int} {zs : List Int} (h : Within 1048576 zs) (h1 : -1048576 ≤ c) (h2 : c ≤ 1048576) (k : Nat) : Within 1048576 (fillD c zs k) := by
  intro x hx
  rcases List.mem_append.1 hx with hx | hx
  · have := List.eq_of_mem_replicate hx; omega
  · exact h x (List.mem_of_mem_drop hx)
theorem compare_wv2 (p q : Int) (v u : Value) (w : World) (hv : v = wv p) (hu : u = wv q) (hp : -170141183460469231731687303715884105728 ≤ p) (hp' : p < 170141183460469231731687303715884105728) (hq : -170141183460469231731687303715884105728 ≤ q) (hq' : q < 170141183460469231731687303715884105728) :
    Calls Tryd.prog 33 #[v, u] w fun e w' => e = .returned (.int .i64 (sgn p q)) ∧ Below w.heap.size w w' := by
  subst hv hu; exact compare_wv p q w hp hp' hq hq'
theorem least_step {a : Int} {zs : List Int} {k : Nat} (hk : k < zs.length) : a * dotL (zs.take k) (zs.take k) + a * (zs[k] * zs[k]) = a * dotL (zs.take (k + 1)) (zs.take (k + 1)) := by
  rw [dotL_take rfl hk, Int.mul_add]

set_option maxRecDepth 100000 in
set_option maxHeartbeats 6000000 in
theorem bounds_law (W : World) (q : Option Addr) (cap cb co : Nat) (L : List Int) (val : Int) (hp : 0 < L.length → q = some ⟨cb, co, none⟩) (hl : L.length ≤ cap) (hc : cap ≤ 9223372036854775807)
    (hcell : ∀ k (h : k < L.length), W.cell? ⟨cb, co + k, none⟩ = some (.int .u8 L[k]) ∧ 0 ≤ L[k] ∧ L[k] < 256) (hv1 : -9223372036854775808 ≤ val) (hv2 : val ≤ 9223372036854775807) (hT : HasTab W) :
    Calls Tryd.prog 10 #[.slice q L.length cap, .int .i64 val] W fun e w' => e = .returned (.bool true) ∧ Below W.heap.size W w' := by
  have HIN := Lib.hid (And.intro hp hcell)
  clear hp hcell
  go_enter Tryd.func10, Tryd.ntmps10
  go_wp2_with fail
  refine (awake22_any W hT).mono ?_
  rintro e w1 ⟨rfl, hB⟩
  go_wp2_with fail
  refine (start_any W q cap cb co 120 L w1 (by omega) HIN.out.1 hl hc HIN.out.2 hB).mono ?_
  rintro e w2 ⟨g, b, M, rfl, hg, hb2, hbM, hC⟩
  have hgW : W.heap.size ≤ g := by have := hB.size; omega
  replace hB := hB.trans (hb2.mono hB.size)
  have hgl := hC.lt
  have hbg : 0 < M.length → b < g := fun h0 => by have := hbM h0; omega
  clear hb2 hbM hg HIN hl hc
  clear w1
  go_wp2_with fail
  refine (cprec_any w2 g b M 0 hC).mono ?_
  rintro e w3 ⟨f, s, a, rfl, hPC, hg3, j3, hC3⟩
  obtain ⟨hOk, n, rfl, hn1, hn2⟩ := prc_ok hPC
  obtain ⟨_, _, hs0, hs1, ha0, ha1⟩ := hOk
  replace hB := hB.grown hg3 hB.size (fun k hk => by injection hk with hk; omega)
  have hs3 := hg3.size
  clear hC hg3
  have hpv : Hid (prv n s a = .agg #[.int .i64 n, .int .i64 s, .int .i64 a]) := Lib.hid rfl
  rw [hpv.out]
  go_wp2_with fail
  have hP : Three (w3.alloc (.cells #[.int .i64 n, .int .i64 s, .int .i64 a] 69)) w3.heap.size n s a := ⟨(by simp [RX.cell_drew, RX.cell_alloc, Nat.add_assoc]), (by simp [RX.cell_drew, RX.cell_alloc, Nat.add_assoc]), (by simp [RX.cell_drew, RX.cell_alloc, Nat.add_assoc])⟩
  have hb4 := (Below.refl w3.heap.size w3).alloc (Nat.le_refl _) (.cells #[.int .i64 n, .int .i64 s, .int .i64 a] 69)
  replace hB := hB.trans (hb4.mono hB.size)
  have hC4 := hC3.below hb4
  have hs4 : w3.heap.size < (w3.alloc (.cells #[.int .i64 n, .int .i64 s, .int .i64 a] 69)).heap.size := by simp
  have hP0 : w3.heap.size ≠ g := by omega
  obtain ⟨P, hPe⟩ : ∃ P, P = w3.heap.size := ⟨_, rfl⟩
  have hgP : g < P := by omega
  rw [← hPe] at hP hs4 hP0 ⊢
  clear hC3 hb4 hPe hs3
  generalize (w3.alloc (.cells #[.int .i64 n, .int .i64 s, .int .i64 a] 69)) = W4 at *
  clear w3 hgl
  clear w2
  have hgl4 : g < W4.heap.size := by omega
  refine (cfor_any _ g b M j3 n s a hC4 (fun h0 => by have := hbg h0; omega) hPC).mono ?_
  rintro e w5 ⟨v5, zs, rfl, hl1, hW1, hr1, hg5, j5, hC5⟩
  have hB5 := hB.grown hg5 hB.size (fun k hk => by injection hk with hk; omega)
  have hP5 := hP.turn hg5 hP0
  have hk1 := len42 hn1 hn2 hl1
  obtain ⟨m, hm⟩ : ∃ m, m = zs.length := ⟨_, rfl⟩
  rw [← hm] at hk1
  obtain ⟨p5, c5, N, rfl, hcap, hN, hI⟩ := hr1.form
  rw [← hm]
  obtain ⟨rfl, hN1, hN2⟩ := hN (by omega)
  have hNP : P ≠ N := by omega
  have hgN : g ≠ N := by omega
  have hNW : W.heap.size ≤ N := by have := hB.size; omega
  have hlm : (m : Int) = 10 * (n : Int) * n + 2 := by rw [hm]; exact hl1
  have HZ := Lib.hid (And.intro hm.symm (And.intro hlm hW1))
  clear hl1 hW1 hr1 hg5 hC4 hP hB hgl4 hm hlm hs4 hN hN1
  clear W4
  go_wp2_with fail
  refine (next_any _ g b M j5 4 hC5 (by omega)).mono ?_
  rintro e w6 ⟨r, rfl, hr, hg6, j6, hC6⟩
  have hB6 := hB5.grown hg6 hB5.size (fun k hk => by injection hk with hk; omega)
  have hP6 := hP5.turn hg6 hP0
  have hI6 := hI.block (hg6.block N hN2 (by simp; omega))
  clear hB5 hP5 hI hg6 hC5 hC6 hgP hP0 hbg hPC hN2
  clear w5
  by_cases hr3 : r = 3
  · subst hr3
    obtain ⟨c, hcv⟩ : ∃ c, c = val % 2097153 - 1048576 := ⟨_, rfl⟩
    have hc1 : -1048576 ≤ c := by have := Int.emod_nonneg val (show (2097153 : Int) ≠ 0 by omega); omega
    have hc2 : c ≤ 1048576 := by have := Int.emod_lt_of_pos val (show (0 : Int) < 2097153 by omega); omega
    have hcv' : val % 2097153 - 1048576 = c := hcv.symm
    have hcb : 0 ≤ val % 2097153 ∧ val % 2097153 < 2097153 := ⟨Int.emod_nonneg val (by omega), Int.emod_lt_of_pos val (by omega)⟩
    clear hcv
    go_wp2
    go_loopw [32] (fun i wr => ∃ k : Nat, k ≤ m ∧ i = .int .i64 k ∧ IntsAt wr N 0 (fillD c zs k) ∧ w6.grownBy wr (some N)) (fun i _ => m - (intOf i).toNat)
    case atStart => exact ⟨0, by omega, rfl, by rw [fillD_zero]; exact hI6, grw_refl _ _⟩
    case round =>
      obtain ⟨k, hk, rfl, hI, hgr⟩ := hrel
      by_cases hlt : k < m
      · have hdk : decide ((k : Int) < (m : Int)) = true := decide_eq_true (by omega)
        have hkz : k < zs.length := by rw [HZ.out.1]; exact hlt
        obtain ⟨ok1, ok2⟩ := hI k (by rw [fillD_len]; exact hkz)
        rw [Nat.zero_add] at ok1 ok2
        have HI : Hid (IntsAt (wr.setCell ⟨N, k, none⟩ (.int .i64 c)) N 0 (fillD c zs (k + 1))) := Lib.hid (by
          have := hI.set k c
          rw [Nat.zero_add, fillD_succ hkz] at this; exact this)
        obtain ⟨old, ho⟩ : ∃ old, old = (fillD c zs k)[k]'(by rw [fillD_len]; exact hkz) := ⟨_, rfl⟩
        rw [← ho] at ok1
        clear ho hI
        go_wp2_with fail
        refine (fmod_any val 2097153 _ hv1 hv2 (by omega) (by omega)).mono ?_
        rintro e w7 ⟨rfl, rfl⟩
        go_wp2
        go_roundw
        case rel => exact ⟨k + 1, by omega, by go_num, HI.out, hgr.trans (grownBy_setCell _ _ _ _)⟩
        case measure => simp [intOf]; omega
      · have hdk : decide ((k : Int) < (m : Int)) = false := decide_eq_false (by omega)
        obtain rfl : k = m := by omega
        replace hB6 := hB6.grown hgr hB6.size (fun k hk => by injection hk with hk; omega)
        replace hP6 := hP6.turn hgr hNP
        have hVX := vec_of_ints hI
        have HY : Hid ((fillD c zs k).length = k ∧ (k : Int) = 10 * (n : Int) * n + 2 ∧ Within 1048576 (fillD c zs k)) := Lib.hid ⟨by rw [fillD_len]; exact HZ.out.1, HZ.out.2.1, fillD_within HZ.out.2.2 hc1 hc2 k⟩
        generalize fillD c zs k = ys at *
        clear hI hgr hI6 hcv' hcb
        obtain ⟨Z0, hZ0⟩ : ∃ c, c = ys.getD 0 0 := ⟨_, rfl⟩
        have hleast := least_eq (s := s) (a := a) (zs := ys) hn1 (show n ≤ 8 by omega) (by rw [HY.out.1]; exact HY.out.2.1)
        rw [← hZ0] at hleast
        have hbd := energy_bd (D := edgesL n) ⟨hs0, hs1⟩ ⟨ha0, ha1⟩ (small_within HY.out.2.2) (by rw [HY.out.1]; omega) (edges_len (n := n) (by omega))
        have hED : Hid (dotL ys (applyL s a ys (edgesL n)) = energyL s a ys (edgesL n)) := Lib.hid (energy_dot s a ys (edgesL n) (edges_InR (f := n) hn1 (by omega) (by rw [HY.out.1]; exact HY.out.2.1))).symm
        have HVO : Hid (VecOk n s a ys) := Lib.hid ⟨⟨by omega, by omega, hs0, hs1, ha0, ha1⟩, by rw [HY.out.1]; exact HY.out.2.1, small_within HY.out.2.2⟩
        have HAL : Hid ((applyL s a ys (edgesL n)).length = k) := Lib.hid ((applyL_len _ _ _ _).trans HY.out.1)
        have HAW : Hid (I64L (applyL s a ys (edgesL n))) := Lib.hid (i64_within (apply_within (by omega) ⟨hs0, hs1⟩ ⟨ha0, ha1⟩ (small_within HY.out.2.2)) (by omega))
        have hE0 : a * dotL ys ys ≤ energyL s a ys (edgesL n) := by unfold energyL; omega
        have hE1 : energyL s a ys (edgesL n) ≤ 85070591730234615865843651857942052864 := by unfold energyL; omega
        have hL0 : 0 ≤ a * dotL ys ys := hbd.1.1
        clear hbd
        have k0 := hP6.1
        have k1 := hP6.2.1
        have k2 := hP6.2.2
        go_wp2_with fail
        refine (energy_at n s a (some ⟨N, 0, none⟩) ys c5 k _ HY.out.1 (hT.below hB6) hVX HVO.out).mono ?_
        rintro e wA ⟨rfl, hbA⟩
        replace hB6 := hB6.trans (hbA.mono hB6.size)
        replace hP6 := hP6.keep hbA
        replace hVX := hVX.below hbA
        obtain ⟨E1, E2, q1, q2, hEV⟩ := wv_parts (energyL s a ys (edgesL n))
        rw [hEV]
        have HEV := Lib.hid hEV
        have HQ := Lib.hid (And.intro q1 q2)
        clear hbA k0 k1 k2 q1 q2 hEV
        have k0 := hP6.1
        have k1 := hP6.2.1
        have k2 := hP6.2.2
        have hPlt : P < wA.heap.size := World.block_lt_of_cell? _ _ k0
        have hPne : ¬ (P = wA.heap.size) := by omega
        go_wp2_with fail
        have t1 : Two (wA.alloc (.cells #[.int .i64 E1, .int .u64 E2] 58)) wA.heap.size E1 E2 := ⟨(by simp [RX.cell_drew, RX.cell_alloc, Nat.add_assoc]), (by simp [RX.cell_drew, RX.cell_alloc, Nat.add_assoc])⟩
        have hbH := (Below.refl wA.heap.size wA).alloc (Nat.le_refl _) (.cells #[.int .i64 E1, .int .u64 E2] 58)
        obtain ⟨g1, hg1⟩ : ∃ g, g = wA.heap.size := ⟨_, rfl⟩
        rw [← hg1] at t1 ⊢
        clear hg1 k0 k1 k2 hPlt hPne
        replace hB6 := hB6.trans (hbH.mono hB6.size)
        replace hP6 := hP6.keep hbH
        replace hVX := hVX.below hbH
        clear hbH
        generalize (wA.alloc (.cells #[.int .i64 E1, .int .u64 E2] 58)) = WA at *
        clear wA
        refine (apply_at n s a (some ⟨N, 0, none⟩) ys c5 k _ HY.out.1 (hT.below hB6) hVX HVO.out).mono ?_
        rintro e wB ⟨Y, rfl, hVY, hbB⟩
        replace hB6 := hB6.trans (hbB.mono hB6.size)
        replace hP6 := hP6.keep hbB
        replace hVX := hVX.below hbB
        replace t1 := t1.keep hbB
        clear hbB
        clear WA
        go_wp2_with fail
        refine (dot_at (some ⟨N, 0, none⟩) (some ⟨Y, 0, none⟩) ys _ c5 k k _ HY.out.1 HAL.out hVX hVY (by omega) (i64_within HY.out.2.2 (by omega)) HAW.out).mono ?_
        rintro e wC ⟨rfl, hbC⟩
        rw [hED.out, HEV.out]
        replace hB6 := hB6.trans (hbC.mono hB6.size)
        replace hP6 := hP6.keep hbC
        replace hVX := hVX.below hbC
        replace t1 := t1.keep hbC
        clear hbC hVY hED HEV HAL HAW HVO
        clear wB
        go_wp2
        have hO := SumAt.new (wC.alloc (.cells #[.int .i64 E1, .int .u64 E2] 58))
        rw [show (wC.alloc (.cells #[.int .i64 E1, .int .u64 E2] 58)).heap.size = wC.heap.size + 1 by simp] at hO
        have hbH : Below wC.heap.size wC ((wC.alloc (.cells #[.int .i64 E1, .int .u64 E2] 58)).alloc (.cells #[.int .i64 0, .int .u64 0] 58)) := (by repeat (first | assumption | (with_reducible exact Below.refl _ _) | (with_reducible refine Below.setCell ?_ (by first | omega | (simp; done) | (simp; omega)) _) | (with_reducible refine Below.alloc ?_ (by first | omega | (simp; done) | (simp; omega)) _) | (with_reducible apply Below.drew)))
        have hg1l : g1 < wC.heap.size := World.block_lt_of_cell? _ _ t1.1
        have hPl : P < wC.heap.size := World.block_lt_of_cell? _ _ hP6.1
        have hNl : N < wC.heap.size := by
          obtain ⟨bx, ox, hpx, hbx, _⟩ := hVX.cell (by rw [HY.out.1]; omega)
          injection hpx with hpx
          injection hpx with e1
          rw [e1]; exact hbx
        replace hB6 := hB6.trans (hbH.mono hB6.size)
        replace hP6 := hP6.keep hbH
        replace hVX := hVX.below hbH
        replace t1 := t1.keep hbH
        have hC0 := hB6.size
        have hWC := hbH.size
        have t2 : Two ((wC.alloc (.cells #[.int .i64 E1, .int .u64 E2] 58)).alloc (.cells #[.int .i64 0, .int .u64 0] 58)) wC.heap.size E1 E2 := ⟨(by simp [RX.cell_drew, RX.cell_alloc, Nat.add_assoc]), (by simp [RX.cell_drew, RX.cell_alloc, Nat.add_assoc])⟩
        obtain ⟨g3, hg3⟩ : ∃ g, g = wC.heap.size + 1 := ⟨_, rfl⟩
        rw [← hg3] at hO ⊢
        have h2g : wC.heap.size ≠ g3 := by omega
        have hWg : W.heap.size ≤ g3 := by have := Nat.lt_of_le_of_lt hNW hNl; omega
        have hNg : N ≠ g3 := by omega
        have hPg : P ≠ g3 := by omega
        have h1g : g1 ≠ g3 := by omega
        obtain ⟨g2, hg2⟩ : ∃ g, g = wC.heap.size := ⟨_, rfl⟩
        rw [← hg2] at t2 h2g ⊢
        clear hg3 hg2 hbH hg1l hPl hNl hC0 hWC
        generalize ((wC.alloc (.cells #[.int .i64 E1, .int .u64 E2] 58)).alloc (.cells #[.int .i64 0, .int .u64 0] 58)) = WD at *
        clear wC
        have HZ0 := Lib.hid hZ0
        clear hZ0
        go_loopw [16, 63] (fun v i wr => ∃ t : Nat, t ≤ k ∧ i = .int .i64 t ∧ v = .bool (flatB Z0 (ys.take t)) ∧ SumAt wr g3 (a * dotL (ys.take t) (ys.take t)) ∧ WD.grownBy wr (some g3)) (fun v i _ => k - (intOf i).toNat)
        case atStart => exact ⟨0, by omega, rfl, rfl, by simpa [dotL] using hO, grw_refl _ _⟩
        case round =>
          clear hO
          obtain ⟨t, ht, rfl, rfl, hSg, hgr⟩ := hrel
          by_cases hlt : t < k
          · have hdt : decide ((t : Int) < (k : Int)) = true := decide_eq_true (by omega)
            have htz : t < ys.length := by rw [HY.out.1]; exact hlt
            have h0z : 0 < ys.length := by omega
            obtain ⟨bx, ox, hpx, hbx, hcx⟩ := hVX.cell h0z
            injection hpx with hpx
            injection hpx with e1 e2 e3
            subst e1 e2
            have xk := hgr.cell (hcx t htz) (by simp; omega)
            have x0 := hgr.cell (hcx 0 h0z) (by simp; omega)
            rw [Nat.zero_add] at xk
            rw [show ys[0] = Z0 by rw [HZ0.out]; simp [List.getD, List.getElem?_eq_getElem h0z]] at x0
            simp only [Nat.add_zero] at x0
            have q2 := hgr.cell hP6.2.2 (by simp; omega)
            have hxr := HY.out.2.2 ys[t] (List.getElem_mem _)
            have HSt := Lib.hid (least_step (a := a) htz)
            have HFt := Lib.hid (flatB_take (c := Z0) htz)
            generalize ys[t] = x at *
            have hxx := mul_abs_le (x := x) (B := 1048576) (by omega) (by omega)
            have hxx0 := sq_nn x
            obtain ⟨y, hy⟩ : ∃ y, x * x = y := ⟨_, rfl⟩
            rw [hy] at hxx hxx0 HSt
            obtain ⟨A, B, hA, hBB, hAB⟩ := wv_parts (a * dotL (ys.take t) (ys.take t))
            have HSG := Lib.hid hSg
            obtain ⟨a0, a1, z0, z1⟩ := hSg
            rw [← hA] at a0
            rw [← hBB] at a1
            have HAB := Lib.hid hAB.symm
            clear hcx hA hBB hAB
            generalize flatB Z0 (ys.take t) = B0 at *
            go_wp2
            refine RY.region RX.fL (fun w' => w'.cell? ⟨g3, 0, none⟩ = some (.int .i64 A) ∧ w'.cell? ⟨g3, 1, none⟩ = some (.int .u64 B) ∧ w'.cell? ⟨P, 2, none⟩ = some (.int .i64 a) ∧ w'.cell? ⟨N, t, none⟩ = some (.int .i64 x)) (by kernel_rfl) (by kernel_rfl) (⟨a0, a1, q2, xk⟩) (fun OPS HO QR hQR => ?_)
            repeat
              refine RY.step (fun R hR => ?_)
              first
              | (refine RY.one_skip (by first | rfl | (rw [HO.out]; rfl)) (by simp only [RX.put_some, RX.put_none, List.set_cons_zero, List.set_cons_succ]; rfl) ?_
                 refine hR _ _ ?_; clear hR R)
              | (refine RY.one_move (by first | rfl | (rw [HO.out]; rfl)) rfl (by first | exact Or.inl rfl | exact Or.inr rfl) (by simp only [RX.eval_tmp, RX.eval_const, List.getD_cons_zero, List.getD_cons_succ]; rfl) (by simp only [RX.put_some, RX.put_none, List.set_cons_zero, List.set_cons_succ]; rfl) ?_
                 refine hR _ _ ?_; clear hR R)
              | (refine RY.one_nil (by first | rfl | (rw [HO.out]; rfl)) rfl rfl (by simp only [RX.eval_tmp, RX.eval_const, List.getD_cons_zero, List.getD_cons_succ]; rfl) (by simp only [RX.put_some, RX.put_none, List.set_cons_zero, List.set_cons_succ]; rfl) ?_
                 refine hR _ _ ?_; clear hR R)
              | (refine RY.one_float (by first | rfl | (rw [HO.out]; rfl)) rfl rfl rfl ?_
                 apply Exists.intro; apply Exists.intro
                 refine ⟨fun w' hS K hK => ?_, ?_, ?_⟩
                 · obtain ⟨hS1, hS2, hS3, hS4⟩ := hS; go_wp2; exact hK _ _ (by simp only [RX.arr_getD, List.getD_cons_zero, List.getD_cons_succ]; first | exact RX.dec_t (by omega) | exact RX.dec_f (by omega) | exact RX.beq_t (by omega) | exact RX.beq_f (by omega) | exact RX.bne_t (by omega) | exact RX.bne_f (by omega) | exact RX.bneB _ | rfl) rfl
                 · simp only [RX.put_some, RX.put_none, List.set_cons_zero, List.set_cons_succ]; rfl
                 refine hR _ _ ?_; clear hR R)
            refine RY.step (fun R hR => ?_)
            refine RY.one_chain (by first | rfl | (rw [HO.out]; rfl)) rfl (fun K hK => ?_)
            go_wp2_with fail
            refine (product_wv a y _ (by omega) (by omega) (by omega) (by omega)).mono ?_
            rintro e w7 ⟨rfl, hb7⟩
            replace hb7 : Below wr.heap.size wr w7 := Below_undrew hb7
            refine hK _ _ ⟨.inr (⟨RX.keep hb7 a0, RX.keep hb7 a1, RX.keep hb7 q2, RX.keep hb7 xk⟩), hR _ _ ?_⟩; clear hK K hR R
            repeat
              refine RY.step (fun R hR => ?_)
              first
              | (refine RY.one_skip (by first | rfl | (rw [HO.out]; rfl)) (by simp only [RX.put_some, RX.put_none, List.set_cons_zero, List.set_cons_succ]; rfl) ?_
                 refine hR _ _ ?_; clear hR R)
              | (refine RY.one_move (by first | rfl | (rw [HO.out]; rfl)) rfl (by first | exact Or.inl rfl | exact Or.inr rfl) (by simp only [RX.eval_tmp, RX.eval_const, List.getD_cons_zero, List.getD_cons_succ]; rfl) (by simp only [RX.put_some, RX.put_none, List.set_cons_zero, List.set_cons_succ]; rfl) ?_
                 refine hR _ _ ?_; clear hR R)
              | (refine RY.one_nil (by first | rfl | (rw [HO.out]; rfl)) rfl rfl (by simp only [RX.eval_tmp, RX.eval_const, List.getD_cons_zero, List.getD_cons_succ]; rfl) (by simp only [RX.put_some, RX.put_none, List.set_cons_zero, List.set_cons_succ]; rfl) ?_
                 refine hR _ _ ?_; clear hR R)
              | (refine RY.one_float (by first | rfl | (rw [HO.out]; rfl)) rfl rfl rfl ?_
                 apply Exists.intro; apply Exists.intro
                 refine ⟨fun w' hS K hK => ?_, ?_, ?_⟩
                 · obtain ⟨hS1, hS2, hS3, hS4⟩ := hS; go_wp2; exact hK _ _ (by simp only [RX.arr_getD, List.getD_cons_zero, List.getD_cons_succ]; first | exact RX.dec_t (by omega) | exact RX.dec_f (by omega) | exact RX.beq_t (by omega) | exact RX.beq_f (by omega) | exact RX.bne_t (by omega) | exact RX.bne_f (by omega) | exact RX.bneB _ | rfl) rfl
                 · simp only [RX.put_some, RX.put_none, List.set_cons_zero, List.set_cons_succ]; rfl
                 refine hR _ _ ?_; clear hR R)
            refine RY.step (fun R hR => ?_)
            refine RY.one_chain (by first | rfl | (rw [HO.out]; rfl)) rfl (fun K hK => ?_)
            go_wp2_with fail
            refine (add_at _ _ (a * dotL (ys.take t) (ys.take t)) (a * y) HAB.out rfl _).mono ?_
            rintro e w8 ⟨rfl, hb8⟩
            rw [HSt.out]
            replace hb8 := hb7.trans (hb8.mono hb7.size)
            have a04 := RX.keep hb8 a0
            have a14 := RX.keep hb8 a1
            have q24 := RX.keep hb8 q2
            have xk4 := RX.keep hb8 xk
            have x04 := RX.keep hb8 x0
            have hO4 := HSG.out.below hb8
            have z04 := hO4.f0
            have z14 := hO4.f1
            obtain ⟨C, D, hC, hD, hVal⟩ := wv_parts (a * dotL (ys.take (t + 1)) (ys.take (t + 1)))
            rw [hVal]
            have HC := Lib.hid (And.intro hC hD)
            have HO4 := Lib.hid hO4
            have HG4 : Hid (WD.grownBy w8 (some g3)) := Lib.hid (hgr.trans (grw_below hb8 _))
            clear hb7 hb8 a0 a1 z0 z1 q2 xk x0 hgr hC hD hVal HSt HSG HAB hO4
            refine hK _ _ ⟨.inr (⟨a04, a14, q24, xk4⟩), hR _ _ ?_⟩; clear hK K hR R
            repeat
              refine RY.step (fun R hR => ?_)
              first
              | (refine RY.one_skip (by first | rfl | (rw [HO.out]; rfl)) (by simp only [RX.put_some, RX.put_none, List.set_cons_zero, List.set_cons_succ]; rfl) ?_
                 refine hR _ _ ?_; clear hR R)
              | (refine RY.one_move (by first | rfl | (rw [HO.out]; rfl)) rfl (by first | exact Or.inl rfl | exact Or.inr rfl) (by simp only [RX.eval_tmp, RX.eval_const, List.getD_cons_zero, List.getD_cons_succ]; rfl) (by simp only [RX.put_some, RX.put_none, List.set_cons_zero, List.set_cons_succ]; rfl) ?_
                 refine hR _ _ ?_; clear hR R)
              | (refine RY.one_nil (by first | rfl | (rw [HO.out]; rfl)) rfl rfl (by simp only [RX.eval_tmp, RX.eval_const, List.getD_cons_zero, List.getD_cons_succ]; rfl) (by simp only [RX.put_some, RX.put_none, List.set_cons_zero, List.set_cons_succ]; rfl) ?_
                 refine hR _ _ ?_; clear hR R)
              | (refine RY.one_float (by first | rfl | (rw [HO.out]; rfl)) rfl rfl rfl ?_
                 apply Exists.intro; apply Exists.intro
                 refine ⟨fun w' hS K hK => ?_, ?_, ?_⟩
                 · obtain ⟨hS1, hS2, hS3, hS4⟩ := hS; go_wp2; exact hK _ _ (by simp only [RX.arr_getD, List.getD_cons_zero, List.getD_cons_succ]; first | exact RX.dec_t (by omega) | exact RX.dec_f (by omega) | exact RX.beq_t (by omega) | exact RX.beq_f (by omega) | exact RX.bne_t (by omega) | exact RX.bne_f (by omega) | exact RX.bneB _ | rfl) rfl
                 · simp only [RX.put_some, RX.put_none, List.set_cons_zero, List.set_cons_succ]; rfl
                 refine hR _ _ ?_; clear hR R)
            refine RY.step (fun R hR => ?_)
            refine RY.one_chain (by first | rfl | (rw [HO.out]; rfl)) rfl (fun K hK => ?_)
            go_wp2
            first | refine ⟨(by first | exact .inl rfl | exact .inl trivial | trivial), hR _ _ (RY.wpL_nil (hQR _ _ ?_))⟩ | refine hR _ _ (RY.wpL_nil (hQR _ _ ?_)) | refine hQR _ _ ?_
            (try clear hR); (try clear R); clear hQR QR HO OPS
            have HS5 : Hid (SumAt ((w8.setCell ⟨g3, 0, none⟩ (.int .i64 C)).setCell ⟨g3, 1, none⟩ (.int .u64 D)) g3 (a * dotL (ys.take (t + 1)) (ys.take (t + 1)))) := Lib.hid (sum_store HO4.out HC.out.1 HC.out.2)
            have HG5 : Hid (WD.grownBy ((w8.setCell ⟨g3, 0, none⟩ (.int .i64 C)).setCell ⟨g3, 1, none⟩ (.int .u64 D)) (some g3)) := Lib.hid (grw_set (grw_set HG4.out (.inl rfl)) (.inl rfl))
            have xk5 : ((w8.setCell ⟨g3, 0, none⟩ (.int .i64 C)).setCell ⟨g3, 1, none⟩ (.int .u64 D)).cell? ⟨N, t, none⟩ = some (.int .i64 x) := (by (try have hLt := World.block_lt_of_cell? _ _ xk4); (try simp only at hLt); (repeat first | rw [RX.cell_drew] | rw [World.cell?_setCell_other _ _ _ _ (by first | (simp; done) | (simp; omega) | omega)] | rw [RX.cell_alloc, if_neg (by first | (simp; done) | (simp; omega) | omega)]); first | exact xk4 | (rw [RX.cell_alloc, if_pos (by first | (simp; done) | omega)]; exact xk4))
            have x05 : ((w8.setCell ⟨g3, 0, none⟩ (.int .i64 C)).setCell ⟨g3, 1, none⟩ (.int .u64 D)).cell? ⟨N, 0, none⟩ = some (.int .i64 Z0) := (by (try have hLt := World.block_lt_of_cell? _ _ x04); (try simp only at hLt); (repeat first | rw [RX.cell_drew] | rw [World.cell?_setCell_other _ _ _ _ (by first | (simp; done) | (simp; omega) | omega)] | rw [RX.cell_alloc, if_neg (by first | (simp; done) | (simp; omega) | omega)]); first | exact x04 | (rw [RX.cell_alloc, if_pos (by first | (simp; done) | omega)]; exact x04))
            clear a04 a14 q24 xk4 x04 z04 z14 HO4 HC HG4
            generalize ((w8.setCell ⟨g3, 0, none⟩ (.int .i64 C)).setCell ⟨g3, 1, none⟩ (.int .u64 D)) = W9 at *
            have ht0 : (0 : Int) < (k : Int) := by omega
            cases B0 with
            | true =>
              by_cases hz0 : x = Z0
              · subst hz0
                have HR : Hid (flatB x (ys.take (t + 1)) = true) := Lib.hid (by rw [HFt.out]; simp)
                go_wp2
                refine RX.region RX.fN (fun w' => w' = _) (by kernel_rfl) (by kernel_rfl) rfl (fun OPS HO QR hQR => ?_)
                repeat
                  refine RX.step (fun R hR => ?_)
                  first
                  | (refine RX.one_skip (by first | rfl | (rw [HO.out]; rfl)) (by simp only [RX.put_some, RX.put_none, List.set_cons_zero, List.set_cons_succ]; rfl) ?_
                     refine hR _ _ ?_; clear hR R)
                  | (refine RX.one_move (by first | rfl | (rw [HO.out]; rfl)) rfl (by first | exact Or.inl rfl | exact Or.inr rfl) (by simp only [RX.eval_tmp, RX.eval_const, List.getD_cons_zero, List.getD_cons_succ]; rfl) (by simp only [RX.put_some, RX.put_none, List.set_cons_zero, List.set_cons_succ]; rfl) ?_
                     refine hR _ _ ?_; clear hR R)
                  | (refine RX.one_nil (by first | rfl | (rw [HO.out]; rfl)) rfl rfl (by simp only [RX.eval_tmp, RX.eval_const, List.getD_cons_zero, List.getD_cons_succ]; rfl) (by simp only [RX.put_some, RX.put_none, List.set_cons_zero, List.set_cons_succ]; rfl) ?_
                     refine hR _ _ ?_; clear hR R)
                  | (refine RX.one_float (by first | rfl | (rw [HO.out]; rfl)) rfl rfl rfl ?_
                     apply Exists.intro; apply Exists.intro
                     refine ⟨fun w' hS K hK => ?_, ?_, ?_⟩
                     · subst hS; go_wp2; exact hK _ _ (by simp only [RX.arr_getD, List.getD_cons_zero, List.getD_cons_succ]; first | exact RX.dec_t (by omega) | exact RX.dec_f (by omega) | exact RX.beq_t (by omega) | exact RX.beq_f (by omega) | exact RX.bne_t (by omega) | exact RX.bne_f (by omega) | exact RX.bneB _ | rfl) rfl
                     · simp only [RX.put_some, RX.put_none, List.set_cons_zero, List.set_cons_succ]; rfl
                     refine hR _ _ ?_; clear hR R)
                refine RX.wpL_nil (hQR _ _ rfl ?_); clear hQR QR HO OPS
                go_wp2
                go_roundw
                case rel => exact ⟨t + 1, by omega, by go_num, by rw [HR.out], HS5.out.drew, grw_drew HG5.out⟩
                case measure => simp [intOf]; omega
              · have hzb : (x == Z0) = false := by rw [beq_eq_false_iff_ne]; exact hz0
                have HR : Hid (flatB Z0 (ys.take (t + 1)) = false) := Lib.hid (by rw [HFt.out, hzb]; rfl)
                go_wp2
                refine RX.region RX.fN (fun w' => w' = _) (by kernel_rfl) (by kernel_rfl) rfl (fun OPS HO QR hQR => ?_)
                repeat
                  refine RX.step (fun R hR => ?_)
                  first
                  | (refine RX.one_skip (by first | rfl | (rw [HO.out]; rfl)) (by simp only [RX.put_some, RX.put_none, List.set_cons_zero, List.set_cons_succ]; rfl) ?_
                     refine hR _ _ ?_; clear hR R)
                  | (refine RX.one_move (by first | rfl | (rw [HO.out]; rfl)) rfl (by first | exact Or.inl rfl | exact Or.inr rfl) (by simp only [RX.eval_tmp, RX.eval_const, List.getD_cons_zero, List.getD_cons_succ]; rfl) (by simp only [RX.put_some, RX.put_none, List.set_cons_zero, List.set_cons_succ]; rfl) ?_
                     refine hR _ _ ?_; clear hR R)
                  | (refine RX.one_nil (by first | rfl | (rw [HO.out]; rfl)) rfl rfl (by simp only [RX.eval_tmp, RX.eval_const, List.getD_cons_zero, List.getD_cons_succ]; rfl) (by simp only [RX.put_some, RX.put_none, List.set_cons_zero, List.set_cons_succ]; rfl) ?_
                     refine hR _ _ ?_; clear hR R)
                  | (refine RX.one_float (by first | rfl | (rw [HO.out]; rfl)) rfl rfl rfl ?_
                     apply Exists.intro; apply Exists.intro
                     refine ⟨fun w' hS K hK => ?_, ?_, ?_⟩
                     · subst hS; go_wp2; exact hK _ _ (by simp only [RX.arr_getD, List.getD_cons_zero, List.getD_cons_succ]; first | exact RX.dec_t (by omega) | exact RX.dec_f (by omega) | exact RX.beq_t (by omega) | exact RX.beq_f (by omega) | exact RX.bne_t (by omega) | exact RX.bne_f (by omega) | exact RX.bneB _ | rfl) rfl
                     · simp only [RX.put_some, RX.put_none, List.set_cons_zero, List.set_cons_succ]; rfl
                     refine hR _ _ ?_; clear hR R)
                refine RX.wpL_nil (hQR _ _ rfl ?_); clear hQR QR HO OPS
                go_wp2
                go_roundw
                case rel => exact ⟨t + 1, by omega, by go_num, by rw [HR.out], HS5.out.drew, grw_drew HG5.out⟩
                case measure => simp [intOf]; omega
            | false =>
              have HR : Hid (flatB Z0 (ys.take (t + 1)) = false) := Lib.hid (by rw [HFt.out]; rfl)
              go_wp2
              refine RX.region RX.fN (fun w' => w' = _) (by kernel_rfl) (by kernel_rfl) rfl (fun OPS HO QR hQR => ?_)
              repeat
                refine RX.step (fun R hR => ?_)
                first
                | (refine RX.one_skip (by first | rfl | (rw [HO.out]; rfl)) (by simp only [RX.put_some, RX.put_none, List.set_cons_zero, List.set_cons_succ]; rfl) ?_
                   refine hR _ _ ?_; clear hR R)
                | (refine RX.one_move (by first | rfl | (rw [HO.out]; rfl)) rfl (by first | exact Or.inl rfl | exact Or.inr rfl) (by simp only [RX.eval_tmp, RX.eval_const, List.getD_cons_zero, List.getD_cons_succ]; rfl) (by simp only [RX.put_some, RX.put_none, List.set_cons_zero, List.set_cons_succ]; rfl) ?_
                   refine hR _ _ ?_; clear hR R)
                | (refine RX.one_nil (by first | rfl | (rw [HO.out]; rfl)) rfl rfl (by simp only [RX.eval_tmp, RX.eval_const, List.getD_cons_zero, List.getD_cons_succ]; rfl) (by simp only [RX.put_some, RX.put_none, List.set_cons_zero, List.set_cons_succ]; rfl) ?_
                   refine hR _ _ ?_; clear hR R)
                | (refine RX.one_float (by first | rfl | (rw [HO.out]; rfl)) rfl rfl rfl ?_
                   apply Exists.intro; apply Exists.intro
                   refine ⟨fun w' hS K hK => ?_, ?_, ?_⟩
                   · subst hS; go_wp2; exact hK _ _ (by simp only [RX.arr_getD, List.getD_cons_zero, List.getD_cons_succ]; first | exact RX.dec_t (by omega) | exact RX.dec_f (by omega) | exact RX.beq_t (by omega) | exact RX.beq_f (by omega) | exact RX.bne_t (by omega) | exact RX.bne_f (by omega) | exact RX.bneB _ | rfl) rfl
                   · simp only [RX.put_some, RX.put_none, List.set_cons_zero, List.set_cons_succ]; rfl
                   refine hR _ _ ?_; clear hR R)
              refine RX.wpL_nil (hQR _ _ rfl ?_); clear hQR QR HO OPS
              go_wp2
              go_roundw
              case rel => exact ⟨t + 1, by omega, by go_num, by rw [HR.out], HS5.out.drew, grw_drew HG5.out⟩
              case measure => simp [intOf]; omega
          · have hdt : decide ((t : Int) < (k : Int)) = false := decide_eq_false (by omega)
            obtain rfl : t = k := by omega
            have e1 : ys.take t = ys := by rw [← HY.out.1, List.take_length]
            rw [e1] at hSg ⊢
            clear e1
            have u1 := hgr.cell t1.1 (by simp; omega)
            have u2 := hgr.cell t1.2 (by simp; omega)
            have u3 := hgr.cell t2.1 (by simp; omega)
            have u4 := hgr.cell t2.2 (by simp; omega)
            have u5 := hgr.cell hP6.2.1 (by simp; omega)
            have HBF : Hid (Below W.heap.size W wr) := Lib.hid (hB6.grown hgr hB6.size (fun k hk => by injection hk with hk; omega))
            obtain ⟨L1, L2, l1, l2, hLV⟩ := wv_parts (a * dotL ys ys)
            obtain ⟨a0, a1, _, _⟩ := hSg
            rw [← l1] at a0
            rw [← l2] at a1
            generalize energyL s a ys (edgesL n) = E at *
            generalize a * dotL ys ys = F at *
            have HE : Hid ((.agg #[.int .i64 E1, .int .u64 E2] : Value) = wv E) := Lib.hid (by rw [HQ.out.1, HQ.out.2]; rfl)
            have HF : Hid ((.agg #[.int .i64 L1, .int .u64 L2] : Value) = wv F) := Lib.hid hLV.symm
            obtain ⟨sg, hsg⟩ : ∃ x, sgn E F = x := ⟨_, rfl⟩
            have hsg0 : 0 ≤ sg := by rw [← hsg]; unfold sgn; (repeat' split) <;> omega
            have hEB : (0 ≤ F ∧ F ≤ E) ∧ E ≤ 85070591730234615865843651857942052864 := ⟨⟨hL0, hE0⟩, hE1⟩
            clear hB6 hgr t1 t2 hP6 hVX hLV
            rcases hfl : flatB Z0 ys with _ | _
            · by_cases hs : s = 0
              · have hEq : E = F := hleast.2 (.inr hs)
                have hL1 : L1 = E1 := by rw [l1, HQ.out.1, hEq]
                have hL2 : L2 = E2 := by rw [l2, HQ.out.2, hEq]
                subst hL1 hL2 hs
                clear hfl hleast HQ l1 l2 hEq
                go_wp2
                refine RX.region RX.fL (fun w' => Two w' g1 L1 L2 ∧ Two w' g2 L1 L2 ∧ Two w' g3 L1 L2 ∧ w'.cell? ⟨P, 1, none⟩ = some (.int .i64 0)) (by kernel_rfl) (by kernel_rfl) (⟨⟨u1, u2⟩, ⟨u3, u4⟩, ⟨a0, a1⟩, u5⟩) (fun OPS HO QR hQR => ?_)
                repeat
                  refine RX.step (fun R hR => ?_)
                  first
                  | (refine RX.one_skip (by first | rfl | (rw [HO.out]; rfl)) (by simp only [RX.put_some, RX.put_none, List.set_cons_zero, List.set_cons_succ]; rfl) ?_
                     refine hR _ _ ?_; clear hR R)
                  | (refine RX.one_move (by first | rfl | (rw [HO.out]; rfl)) rfl (by first | exact Or.inl rfl | exact Or.inr rfl) (by simp only [RX.eval_tmp, RX.eval_const, List.getD_cons_zero, List.getD_cons_succ]; rfl) (by simp only [RX.put_some, RX.put_none, List.set_cons_zero, List.set_cons_succ]; rfl) ?_
                     refine hR _ _ ?_; clear hR R)
                  | (refine RX.one_nil (by first | rfl | (rw [HO.out]; rfl)) rfl rfl (by simp only [RX.eval_tmp, RX.eval_const, List.getD_cons_zero, List.getD_cons_succ]; rfl) (by simp only [RX.put_some, RX.put_none, List.set_cons_zero, List.set_cons_succ]; rfl) ?_
                     refine hR _ _ ?_; clear hR R)
                  | (refine RX.one_float (by first | rfl | (rw [HO.out]; rfl)) rfl rfl rfl ?_
                     apply Exists.intro; apply Exists.intro
                     refine ⟨fun w' hS K hK => ?_, ?_, ?_⟩
                     · obtain ⟨⟨hS1, hS2⟩, ⟨hS3, hS4⟩, ⟨hS5, hS6⟩, hS7⟩ := hS; go_wp2; exact hK _ _ (by simp only [RX.arr_getD, List.getD_cons_zero, List.getD_cons_succ]; first | exact RX.dec_t (by omega) | exact RX.dec_f (by omega) | exact RX.beq_t (by omega) | exact RX.beq_f (by omega) | exact RX.bne_t (by omega) | exact RX.bne_f (by omega) | exact RX.bneB _ | rfl) rfl
                     · simp only [RX.put_some, RX.put_none, List.set_cons_zero, List.set_cons_succ]; rfl
                     refine hR _ _ ?_; clear hR R)
                refine RX.step (fun R hR => ?_)
                refine RX.one_chain (by first | rfl | (rw [HO.out]; rfl)) rfl (fun K hK => ?_)
                go_wp2_with fail
                refine (compare_wv2 E F _ _ _ HE.out HF.out (by omega) (by omega) (by omega) (by omega)).mono ?_
                rintro e wz ⟨rfl, hbz⟩
                rw [hsg]
                replace hbz : Below wr.heap.size wr wz := Below_undrew hbz
                have hBz := HBF.out.trans (hbz.mono HBF.out.size)
                have v1 := RX.keep hbz u1
                have v2 := RX.keep hbz u2
                have v3 := RX.keep hbz u3
                have v4 := RX.keep hbz u4
                have v5 := RX.keep hbz u5
                have b0 := RX.keep hbz a0
                have b1 := RX.keep hbz a1
                clear u1 u2 u3 u4 u5 a0 a1 hbz
                refine hK _ _ ⟨⟨⟨v1, v2⟩, ⟨v3, v4⟩, ⟨b0, b1⟩, v5⟩, hR _ _ ?_⟩; clear hK K hR R
                repeat
                  refine RX.step (fun R hR => ?_)
                  first
                  | (refine RX.one_skip (by first | rfl | (rw [HO.out]; rfl)) (by simp only [RX.put_some, RX.put_none, List.set_cons_zero, List.set_cons_succ]; rfl) ?_
                     refine hR _ _ ?_; clear hR R)
                  | (refine RX.one_move (by first | rfl | (rw [HO.out]; rfl)) rfl (by first | exact Or.inl rfl | exact Or.inr rfl) (by simp only [RX.eval_tmp, RX.eval_const, List.getD_cons_zero, List.getD_cons_succ]; rfl) (by simp only [RX.put_some, RX.put_none, List.set_cons_zero, List.set_cons_succ]; rfl) ?_
                     refine hR _ _ ?_; clear hR R)
                  | (refine RX.one_nil (by first | rfl | (rw [HO.out]; rfl)) rfl rfl (by simp only [RX.eval_tmp, RX.eval_const, List.getD_cons_zero, List.getD_cons_succ]; rfl) (by simp only [RX.put_some, RX.put_none, List.set_cons_zero, List.set_cons_succ]; rfl) ?_
                     refine hR _ _ ?_; clear hR R)
                  | (refine RX.one_float (by first | rfl | (rw [HO.out]; rfl)) rfl rfl rfl ?_
                     apply Exists.intro; apply Exists.intro
                     refine ⟨fun w' hS K hK => ?_, ?_, ?_⟩
                     · obtain ⟨⟨hS1, hS2⟩, ⟨hS3, hS4⟩, ⟨hS5, hS6⟩, hS7⟩ := hS; go_wp2; exact hK _ _ (by simp only [RX.arr_getD, List.getD_cons_zero, List.getD_cons_succ]; first | exact RX.dec_t (by omega) | exact RX.dec_f (by omega) | exact RX.beq_t (by omega) | exact RX.beq_f (by omega) | exact RX.bne_t (by omega) | exact RX.bne_f (by omega) | exact RX.bneB _ | rfl) rfl
                     · simp only [RX.put_some, RX.put_none, List.set_cons_zero, List.set_cons_succ]; rfl
                     refine hR _ _ ?_; clear hR R)
                refine RX.wpL_nil (hQR _ _ (⟨⟨v1, v2⟩, ⟨v3, v4⟩, ⟨b0, b1⟩, v5⟩) ?_); clear hQR QR HO OPS
                go_wp2
                go_ret
                exact ⟨rfl, hBz⟩
              · have hne : E ≠ F := fun h => by
                  rcases hleast.1 h with h | h
                  · rw [hfl] at h; cases h
                  · exact hs h
                have hw := wide_ne (p := E) (q := F) (by omega) (by omega) (by omega) (by omega) hne
                rw [← HQ.out.1, ← HQ.out.2, ← l1, ← l2] at hw
                have hsb : (s == 0) = false := by rw [beq_eq_false_iff_ne]; exact hs
                clear hfl hleast HQ l1 l2 hne hs
                rcases hw with h1 | ⟨h1, h2⟩
                · have hb1 : (E1 == L1) = false := by rw [beq_eq_false_iff_ne]; exact h1
                  clear h1
                  go_wp2
                  refine RX.region RX.fL (fun w' => Two w' g1 E1 E2 ∧ Two w' g2 E1 E2 ∧ Two w' g3 L1 L2 ∧ w'.cell? ⟨P, 1, none⟩ = some (.int .i64 s)) (by kernel_rfl) (by kernel_rfl) (⟨⟨u1, u2⟩, ⟨u3, u4⟩, ⟨a0, a1⟩, u5⟩) (fun OPS HO QR hQR => ?_)
                  repeat
                    refine RX.step (fun R hR => ?_)
                    first
                    | (refine RX.one_skip (by first | rfl | (rw [HO.out]; rfl)) (by simp only [RX.put_some, RX.put_none, List.set_cons_zero, List.set_cons_succ]; rfl) ?_
                       refine hR _ _ ?_; clear hR R)
                    | (refine RX.one_move (by first | rfl | (rw [HO.out]; rfl)) rfl (by first | exact Or.inl rfl | exact Or.inr rfl) (by simp only [RX.eval_tmp, RX.eval_const, List.getD_cons_zero, List.getD_cons_succ]; rfl) (by simp only [RX.put_some, RX.put_none, List.set_cons_zero, List.set_cons_succ]; rfl) ?_
                       refine hR _ _ ?_; clear hR R)
                    | (refine RX.one_nil (by first | rfl | (rw [HO.out]; rfl)) rfl rfl (by simp only [RX.eval_tmp, RX.eval_const, List.getD_cons_zero, List.getD_cons_succ]; rfl) (by simp only [RX.put_some, RX.put_none, List.set_cons_zero, List.set_cons_succ]; rfl) ?_
                       refine hR _ _ ?_; clear hR R)
                    | (refine RX.one_float (by first | rfl | (rw [HO.out]; rfl)) rfl rfl rfl ?_
                       apply Exists.intro; apply Exists.intro
                       refine ⟨fun w' hS K hK => ?_, ?_, ?_⟩
                       · obtain ⟨⟨hS1, hS2⟩, ⟨hS3, hS4⟩, ⟨hS5, hS6⟩, hS7⟩ := hS; go_wp2; exact hK _ _ (by simp only [RX.arr_getD, List.getD_cons_zero, List.getD_cons_succ]; first | exact RX.dec_t (by omega) | exact RX.dec_f (by omega) | exact RX.beq_t (by omega) | exact RX.beq_f (by omega) | exact RX.bne_t (by omega) | exact RX.bne_f (by omega) | exact RX.bneB _ | rfl) rfl
                       · simp only [RX.put_some, RX.put_none, List.set_cons_zero, List.set_cons_succ]; rfl
                       refine hR _ _ ?_; clear hR R)
                  refine RX.step (fun R hR => ?_)
                  refine RX.one_chain (by first | rfl | (rw [HO.out]; rfl)) rfl (fun K hK => ?_)
                  go_wp2_with fail
                  refine (compare_wv2 E F _ _ _ HE.out HF.out (by omega) (by omega) (by omega) (by omega)).mono ?_
                  rintro e wz ⟨rfl, hbz⟩
                  rw [hsg]
                  replace hbz : Below wr.heap.size wr wz := Below_undrew hbz
                  have hBz := HBF.out.trans (hbz.mono HBF.out.size)
                  have v1 := RX.keep hbz u1
                  have v2 := RX.keep hbz u2
                  have v3 := RX.keep hbz u3
                  have v4 := RX.keep hbz u4
                  have v5 := RX.keep hbz u5
                  have b0 := RX.keep hbz a0
                  have b1 := RX.keep hbz a1
                  clear u1 u2 u3 u4 u5 a0 a1 hbz
                  refine hK _ _ ⟨⟨⟨v1, v2⟩, ⟨v3, v4⟩, ⟨b0, b1⟩, v5⟩, hR _ _ ?_⟩; clear hK K hR R
                  repeat
                    refine RX.step (fun R hR => ?_)
                    first
                    | (refine RX.one_skip (by first | rfl | (rw [HO.out]; rfl)) (by simp only [RX.put_some, RX.put_none, List.set_cons_zero, List.set_cons_succ]; rfl) ?_
                       refine hR _ _ ?_; clear hR R)
                    | (refine RX.one_move (by first | rfl | (rw [HO.out]; rfl)) rfl (by first | exact Or.inl rfl | exact Or.inr rfl) (by simp only [RX.eval_tmp, RX.eval_const, List.getD_cons_zero, List.getD_cons_succ]; rfl) (by simp only [RX.put_some, RX.put_none, List.set_cons_zero, List.set_cons_succ]; rfl) ?_
                       refine hR _ _ ?_; clear hR R)
                    | (refine RX.one_nil (by first | rfl | (rw [HO.out]; rfl)) rfl rfl (by simp only [RX.eval_tmp, RX.eval_const, List.getD_cons_zero, List.getD_cons_succ]; rfl) (by simp only [RX.put_some, RX.put_none, List.set_cons_zero, List.set_cons_succ]; rfl) ?_
                       refine hR _ _ ?_; clear hR R)
                    | (refine RX.one_float (by first | rfl | (rw [HO.out]; rfl)) rfl rfl rfl ?_
                       apply Exists.intro; apply Exists.intro
                       refine ⟨fun w' hS K hK => ?_, ?_, ?_⟩
                       · obtain ⟨⟨hS1, hS2⟩, ⟨hS3, hS4⟩, ⟨hS5, hS6⟩, hS7⟩ := hS; go_wp2; exact hK _ _ (by simp only [RX.arr_getD, List.getD_cons_zero, List.getD_cons_succ]; first | exact RX.dec_t (by omega) | exact RX.dec_f (by omega) | exact RX.beq_t (by omega) | exact RX.beq_f (by omega) | exact RX.bne_t (by omega) | exact RX.bne_f (by omega) | exact RX.bneB _ | rfl) rfl
                       · simp only [RX.put_some, RX.put_none, List.set_cons_zero, List.set_cons_succ]; rfl
                       refine hR _ _ ?_; clear hR R)
                  refine RX.wpL_nil (hQR _ _ (⟨⟨v1, v2⟩, ⟨v3, v4⟩, ⟨b0, b1⟩, v5⟩) ?_); clear hQR QR HO OPS
                  go_wp2
                  go_ret
                  exact ⟨rfl, hBz⟩
                · subst h1
                  have hb1 : (E2 == L2) = false := by rw [beq_eq_false_iff_ne]; exact h2
                  clear h2
                  go_wp2
                  refine RX.region RX.fL (fun w' => Two w' g1 E1 E2 ∧ Two w' g2 E1 E2 ∧ Two w' g3 E1 L2 ∧ w'.cell? ⟨P, 1, none⟩ = some (.int .i64 s)) (by kernel_rfl) (by kernel_rfl) (⟨⟨u1, u2⟩, ⟨u3, u4⟩, ⟨a0, a1⟩, u5⟩) (fun OPS HO QR hQR => ?_)
                  repeat
                    refine RX.step (fun R hR => ?_)
                    first
                    | (refine RX.one_skip (by first | rfl | (rw [HO.out]; rfl)) (by simp only [RX.put_some, RX.put_none, List.set_cons_zero, List.set_cons_succ]; rfl) ?_
                       refine hR _ _ ?_; clear hR R)
                    | (refine RX.one_move (by first | rfl | (rw [HO.out]; rfl)) rfl (by first | exact Or.inl rfl | exact Or.inr rfl) (by simp only [RX.eval_tmp, RX.eval_const, List.getD_cons_zero, List.getD_cons_succ]; rfl) (by simp only [RX.put_some, RX.put_none, List.set_cons_zero, List.set_cons_succ]; rfl) ?_
                       refine hR _ _ ?_; clear hR R)
                    | (refine RX.one_nil (by first | rfl | (rw [HO.out]; rfl)) rfl rfl (by simp only [RX.eval_tmp, RX.eval_const, List.getD_cons_zero, List.getD_cons_succ]; rfl) (by simp only [RX.put_some, RX.put_none, List.set_cons_zero, List.set_cons_succ]; rfl) ?_
                       refine hR _ _ ?_; clear hR R)
                    | (refine RX.one_float (by first | rfl | (rw [HO.out]; rfl)) rfl rfl rfl ?_
                       apply Exists.intro; apply Exists.intro
                       refine ⟨fun w' hS K hK => ?_, ?_, ?_⟩
                       · obtain ⟨⟨hS1, hS2⟩, ⟨hS3, hS4⟩, ⟨hS5, hS6⟩, hS7⟩ := hS; go_wp2; exact hK _ _ (by simp only [RX.arr_getD, List.getD_cons_zero, List.getD_cons_succ]; first | exact RX.dec_t (by omega) | exact RX.dec_f (by omega) | exact RX.beq_t (by omega) | exact RX.beq_f (by omega) | exact RX.bne_t (by omega) | exact RX.bne_f (by omega) | exact RX.bneB _ | rfl) rfl
                       · simp only [RX.put_some, RX.put_none, List.set_cons_zero, List.set_cons_succ]; rfl
                       refine hR _ _ ?_; clear hR R)
                  refine RX.step (fun R hR => ?_)
                  refine RX.one_chain (by first | rfl | (rw [HO.out]; rfl)) rfl (fun K hK => ?_)
                  go_wp2_with fail
                  refine (compare_wv2 E F _ _ _ HE.out HF.out (by omega) (by omega) (by omega) (by omega)).mono ?_
                  rintro e wz ⟨rfl, hbz⟩
                  rw [hsg]
                  replace hbz : Below wr.heap.size wr wz := Below_undrew hbz
                  have hBz := HBF.out.trans (hbz.mono HBF.out.size)
                  have v1 := RX.keep hbz u1
                  have v2 := RX.keep hbz u2
                  have v3 := RX.keep hbz u3
                  have v4 := RX.keep hbz u4
                  have v5 := RX.keep hbz u5
                  have b0 := RX.keep hbz a0
                  have b1 := RX.keep hbz a1
                  clear u1 u2 u3 u4 u5 a0 a1 hbz
                  refine hK _ _ ⟨⟨⟨v1, v2⟩, ⟨v3, v4⟩, ⟨b0, b1⟩, v5⟩, hR _ _ ?_⟩; clear hK K hR R
                  repeat
                    refine RX.step (fun R hR => ?_)
                    first
                    | (refine RX.one_skip (by first | rfl | (rw [HO.out]; rfl)) (by simp only [RX.put_some, RX.put_none, List.set_cons_zero, List.set_cons_succ]; rfl) ?_
                       refine hR _ _ ?_; clear hR R)
                    | (refine RX.one_move (by first | rfl | (rw [HO.out]; rfl)) rfl (by first | exact Or.inl rfl | exact Or.inr rfl) (by simp only [RX.eval_tmp, RX.eval_const, List.getD_cons_zero, List.getD_cons_succ]; rfl) (by simp only [RX.put_some, RX.put_none, List.set_cons_zero, List.set_cons_succ]; rfl) ?_
                       refine hR _ _ ?_; clear hR R)
                    | (refine RX.one_nil (by first | rfl | (rw [HO.out]; rfl)) rfl rfl (by simp only [RX.eval_tmp, RX.eval_const, List.getD_cons_zero, List.getD_cons_succ]; rfl) (by simp only [RX.put_some, RX.put_none, List.set_cons_zero, List.set_cons_succ]; rfl) ?_
                       refine hR _ _ ?_; clear hR R)
                    | (refine RX.one_float (by first | rfl | (rw [HO.out]; rfl)) rfl rfl rfl ?_
                       apply Exists.intro; apply Exists.intro
                       refine ⟨fun w' hS K hK => ?_, ?_, ?_⟩
                       · obtain ⟨⟨hS1, hS2⟩, ⟨hS3, hS4⟩, ⟨hS5, hS6⟩, hS7⟩ := hS; go_wp2; exact hK _ _ (by simp only [RX.arr_getD, List.getD_cons_zero, List.getD_cons_succ]; first | exact RX.dec_t (by omega) | exact RX.dec_f (by omega) | exact RX.beq_t (by omega) | exact RX.beq_f (by omega) | exact RX.bne_t (by omega) | exact RX.bne_f (by omega) | exact RX.bneB _ | rfl) rfl
                       · simp only [RX.put_some, RX.put_none, List.set_cons_zero, List.set_cons_succ]; rfl
                       refine hR _ _ ?_; clear hR R)
                  refine RX.wpL_nil (hQR _ _ (⟨⟨v1, v2⟩, ⟨v3, v4⟩, ⟨b0, b1⟩, v5⟩) ?_); clear hQR QR HO OPS
                  go_wp2
                  go_ret
                  exact ⟨rfl, hBz⟩
            · have hEq : E = F := hleast.2 (.inl hfl)
              have hL1 : L1 = E1 := by rw [l1, HQ.out.1, hEq]
              have hL2 : L2 = E2 := by rw [l2, HQ.out.2, hEq]
              subst hL1 hL2
              clear hfl hleast HQ l1 l2 hEq
              go_wp2
              refine RX.region RX.fL (fun w' => Two w' g1 L1 L2 ∧ Two w' g2 L1 L2 ∧ Two w' g3 L1 L2 ∧ w'.cell? ⟨P, 1, none⟩ = some (.int .i64 s)) (by kernel_rfl) (by kernel_rfl) (⟨⟨u1, u2⟩, ⟨u3, u4⟩, ⟨a0, a1⟩, u5⟩) (fun OPS HO QR hQR => ?_)
              repeat
                refine RX.step (fun R hR => ?_)
                first
                | (refine RX.one_skip (by first | rfl | (rw [HO.out]; rfl)) (by simp only [RX.put_some, RX.put_none, List.set_cons_zero, List.set_cons_succ]; rfl) ?_
                   refine hR _ _ ?_; clear hR R)
                | (refine RX.one_move (by first | rfl | (rw [HO.out]; rfl)) rfl (by first | exact Or.inl rfl | exact Or.inr rfl) (by simp only [RX.eval_tmp, RX.eval_const, List.getD_cons_zero, List.getD_cons_succ]; rfl) (by simp only [RX.put_some, RX.put_none, List.set_cons_zero, List.set_cons_succ]; rfl) ?_
                   refine hR _ _ ?_; clear hR R)
                | (refine RX.one_nil (by first | rfl | (rw [HO.out]; rfl)) rfl rfl (by simp only [RX.eval_tmp, RX.eval_const, List.getD_cons_zero, List.getD_cons_succ]; rfl) (by simp only [RX.put_some, RX.put_none, List.set_cons_zero, List.set_cons_succ]; rfl) ?_
                   refine hR _ _ ?_; clear hR R)
                | (refine RX.one_float (by first | rfl | (rw [HO.out]; rfl)) rfl rfl rfl ?_
                   apply Exists.intro; apply Exists.intro
                   refine ⟨fun w' hS K hK => ?_, ?_, ?_⟩
                   · obtain ⟨⟨hS1, hS2⟩, ⟨hS3, hS4⟩, ⟨hS5, hS6⟩, hS7⟩ := hS; go_wp2; exact hK _ _ (by simp only [RX.arr_getD, List.getD_cons_zero, List.getD_cons_succ]; first | exact RX.dec_t (by omega) | exact RX.dec_f (by omega) | exact RX.beq_t (by omega) | exact RX.beq_f (by omega) | exact RX.bne_t (by omega) | exact RX.bne_f (by omega) | exact RX.bneB _ | rfl) rfl
                   · simp only [RX.put_some, RX.put_none, List.set_cons_zero, List.set_cons_succ]; rfl
                   refine hR _ _ ?_; clear hR R)
              refine RX.step (fun R hR => ?_)
              refine RX.one_chain (by first | rfl | (rw [HO.out]; rfl)) rfl (fun K hK => ?_)
              go_wp2_with fail
              refine (compare_wv2 E F _ _ _ HE.out HF.out (by omega) (by omega) (by omega) (by omega)).mono ?_
              rintro e wz ⟨rfl, hbz⟩
              rw [hsg]
              replace hbz : Below wr.heap.size wr wz := Below_undrew hbz
              have hBz := HBF.out.trans (hbz.mono HBF.out.size)
              have v1 := RX.keep hbz u1
              have v2 := RX.keep hbz u2
              have v3 := RX.keep hbz u3
              have v4 := RX.keep hbz u4
              have v5 := RX.keep hbz u5
              have b0 := RX.keep hbz a0
              have b1 := RX.keep hbz a1
              clear u1 u2 u3 u4 u5 a0 a1 hbz
              refine hK _ _ ⟨⟨⟨v1, v2⟩, ⟨v3, v4⟩, ⟨b0, b1⟩, v5⟩, hR _ _ ?_⟩; clear hK K hR R
              repeat
                refine RX.step (fun R hR => ?_)
                first
                | (refine RX.one_skip (by first | rfl | (rw [HO.out]; rfl)) (by simp only [RX.put_some, RX.put_none, List.set_cons_zero, List.set_cons_succ]; rfl) ?_
                   refine hR _ _ ?_; clear hR R)
                | (refine RX.one_move (by first | rfl | (rw [HO.out]; rfl)) rfl (by first | exact Or.inl rfl | exact Or.inr rfl) (by simp only [RX.eval_tmp, RX.eval_const, List.getD_cons_zero, List.getD_cons_succ]; rfl) (by simp only [RX.put_some, RX.put_none, List.set_cons_zero, List.set_cons_succ]; rfl) ?_
                   refine hR _ _ ?_; clear hR R)
                | (refine RX.one_nil (by first | rfl | (rw [HO.out]; rfl)) rfl rfl (by simp only [RX.eval_tmp, RX.eval_const, List.getD_cons_zero, List.getD_cons_succ]; rfl) (by simp only [RX.put_some, RX.put_none, List.set_cons_zero, List.set_cons_succ]; rfl) ?_
                   refine hR _ _ ?_; clear hR R)
                | (refine RX.one_float (by first | rfl | (rw [HO.out]; rfl)) rfl rfl rfl ?_
                   apply Exists.intro; apply Exists.intro
                   refine ⟨fun w' hS K hK => ?_, ?_, ?_⟩
                   · obtain ⟨⟨hS1, hS2⟩, ⟨hS3, hS4⟩, ⟨hS5, hS6⟩, hS7⟩ := hS; go_wp2; exact hK _ _ (by simp only [RX.arr_getD, List.getD_cons_zero, List.getD_cons_succ]; first | exact RX.dec_t (by omega) | exact RX.dec_f (by omega) | exact RX.beq_t (by omega) | exact RX.beq_f (by omega) | exact RX.bne_t (by omega) | exact RX.bne_f (by omega) | exact RX.bneB _ | rfl) rfl
                   · simp only [RX.put_some, RX.put_none, List.set_cons_zero, List.set_cons_succ]; rfl
                   refine hR _ _ ?_; clear hR R)
              refine RX.wpL_nil (hQR _ _ (⟨⟨v1, v2⟩, ⟨v3, v4⟩, ⟨b0, b1⟩, v5⟩) ?_); clear hQR QR HO OPS
              go_wp2
              go_ret
              exact ⟨rfl, hBz⟩
  · have hr4 : r < 4 := by omega
    have hrb : ((r : Int) == 3) = false := by rw [beq_eq_false_iff_ne]; omega
    have hVX := vec_of_ints hI6
    clear hI6
    obtain ⟨Z0, hZ0⟩ : ∃ c, c = zs.getD 0 0 := ⟨_, rfl⟩
    have hleast := least_eq (s := s) (a := a) (zs := zs) hn1 (show n ≤ 8 by omega) (by rw [HZ.out.1]; exact HZ.out.2.1)
    rw [← hZ0] at hleast
    have hbd := energy_bd (D := edgesL n) ⟨hs0, hs1⟩ ⟨ha0, ha1⟩ (small_within HZ.out.2.2) (by rw [HZ.out.1]; omega) (edges_len (n := n) (by omega))
    have hED : Hid (dotL zs (applyL s a zs (edgesL n)) = energyL s a zs (edgesL n)) := Lib.hid (energy_dot s a zs (edgesL n) (edges_InR (f := n) hn1 (by omega) (by rw [HZ.out.1]; exact HZ.out.2.1))).symm
    have HVO : Hid (VecOk n s a zs) := Lib.hid ⟨⟨by omega, by omega, hs0, hs1, ha0, ha1⟩, by rw [HZ.out.1]; exact HZ.out.2.1, small_within HZ.out.2.2⟩
    have HAL : Hid ((applyL s a zs (edgesL n)).length = m) := Lib.hid ((applyL_len _ _ _ _).trans HZ.out.1)
    have HAW : Hid (I64L (applyL s a zs (edgesL n))) := Lib.hid (i64_within (apply_within (by omega) ⟨hs0, hs1⟩ ⟨ha0, ha1⟩ (small_within HZ.out.2.2)) (by omega))
    have hE0 : a * dotL zs zs ≤ energyL s a zs (edgesL n) := by unfold energyL; omega
    have hE1 : energyL s a zs (edgesL n) ≤ 85070591730234615865843651857942052864 := by unfold energyL; omega
    have hL0 : 0 ≤ a * dotL zs zs := hbd.1.1
    clear hbd
    have k0 := hP6.1
    have k1 := hP6.2.1
    have k2 := hP6.2.2
    go_wp2_with fail
    refine (energy_at n s a (some ⟨N, 0, none⟩) zs c5 m _ HZ.out.1 (hT.below hB6) hVX HVO.out).mono ?_
    rintro e wA ⟨rfl, hbA⟩
    replace hB6 := hB6.trans (hbA.mono hB6.size)
    replace hP6 := hP6.keep hbA
    replace hVX := hVX.below hbA
    obtain ⟨E1, E2, q1, q2, hEV⟩ := wv_parts (energyL s a zs (edgesL n))
    rw [hEV]
    have HEV := Lib.hid hEV
    have HQ := Lib.hid (And.intro q1 q2)
    clear hbA k0 k1 k2 q1 q2 hEV
    have k0 := hP6.1
    have k1 := hP6.2.1
    have k2 := hP6.2.2
    have hPlt : P < wA.heap.size := World.block_lt_of_cell? _ _ k0
    have hPne : ¬ (P = wA.heap.size) := by omega
    go_wp2_with fail
    have t1 : Two (wA.alloc (.cells #[.int .i64 E1, .int .u64 E2] 58)) wA.heap.size E1 E2 := ⟨(by simp [RX.cell_drew, RX.cell_alloc, Nat.add_assoc]), (by simp [RX.cell_drew, RX.cell_alloc, Nat.add_assoc])⟩
    have hbH := (Below.refl wA.heap.size wA).alloc (Nat.le_refl _) (.cells #[.int .i64 E1, .int .u64 E2] 58)
    obtain ⟨g1, hg1⟩ : ∃ g, g = wA.heap.size := ⟨_, rfl⟩
    rw [← hg1] at t1 ⊢
    clear hg1 k0 k1 k2 hPlt hPne
    replace hB6 := hB6.trans (hbH.mono hB6.size)
    replace hP6 := hP6.keep hbH
    replace hVX := hVX.below hbH
    clear hbH
    generalize (wA.alloc (.cells #[.int .i64 E1, .int .u64 E2] 58)) = WA at *
    clear wA
    refine (apply_at n s a (some ⟨N, 0, none⟩) zs c5 m _ HZ.out.1 (hT.below hB6) hVX HVO.out).mono ?_
    rintro e wB ⟨Y, rfl, hVY, hbB⟩
    replace hB6 := hB6.trans (hbB.mono hB6.size)
    replace hP6 := hP6.keep hbB
    replace hVX := hVX.below hbB
    replace t1 := t1.keep hbB
    clear hbB
    clear WA
    go_wp2_with fail
    refine (dot_at (some ⟨N, 0, none⟩) (some ⟨Y, 0, none⟩) zs _ c5 m m _ HZ.out.1 HAL.out hVX hVY (by omega) (i64_within HZ.out.2.2 (by omega)) HAW.out).mono ?_
    rintro e wC ⟨rfl, hbC⟩
    rw [hED.out, HEV.out]
    replace hB6 := hB6.trans (hbC.mono hB6.size)
    replace hP6 := hP6.keep hbC
    replace hVX := hVX.below hbC
    replace t1 := t1.keep hbC
    clear hbC hVY hED HEV HAL HAW HVO
    clear wB
    go_wp2
    have hO := SumAt.new (wC.alloc (.cells #[.int .i64 E1, .int .u64 E2] 58))
    rw [show (wC.alloc (.cells #[.int .i64 E1, .int .u64 E2] 58)).heap.size = wC.heap.size + 1 by simp] at hO
    have hbH : Below wC.heap.size wC ((wC.alloc (.cells #[.int .i64 E1, .int .u64 E2] 58)).alloc (.cells #[.int .i64 0, .int .u64 0] 58)) := (by repeat (first | assumption | (with_reducible exact Below.refl _ _) | (with_reducible refine Below.setCell ?_ (by first | omega | (simp; done) | (simp; omega)) _) | (with_reducible refine Below.alloc ?_ (by first | omega | (simp; done) | (simp; omega)) _) | (with_reducible apply Below.drew)))
    have hg1l : g1 < wC.heap.size := World.block_lt_of_cell? _ _ t1.1
    have hPl : P < wC.heap.size := World.block_lt_of_cell? _ _ hP6.1
    have hNl : N < wC.heap.size := by
      obtain ⟨bx, ox, hpx, hbx, _⟩ := hVX.cell (by rw [HZ.out.1]; omega)
      injection hpx with hpx
      injection hpx with e1
      rw [e1]; exact hbx
    replace hB6 := hB6.trans (hbH.mono hB6.size)
    replace hP6 := hP6.keep hbH
    replace hVX := hVX.below hbH
    replace t1 := t1.keep hbH
    have hC0 := hB6.size
    have hWC := hbH.size
    have t2 : Two ((wC.alloc (.cells #[.int .i64 E1, .int .u64 E2] 58)).alloc (.cells #[.int .i64 0, .int .u64 0] 58)) wC.heap.size E1 E2 := ⟨(by simp [RX.cell_drew, RX.cell_alloc, Nat.add_assoc]), (by simp [RX.cell_drew, RX.cell_alloc, Nat.add_assoc])⟩
    obtain ⟨g3, hg3⟩ : ∃ g, g = wC.heap.size + 1 := ⟨_, rfl⟩
    rw [← hg3] at hO ⊢
    have h2g : wC.heap.size ≠ g3 := by omega
    have hWg : W.heap.size ≤ g3 := by have := Nat.lt_of_le_of_lt hNW hNl; omega
    have hNg : N ≠ g3 := by omega
    have hPg : P ≠ g3 := by omega
    have h1g : g1 ≠ g3 := by omega
    obtain ⟨g2, hg2⟩ : ∃ g, g = wC.heap.size := ⟨_, rfl⟩
    rw [← hg2] at t2 h2g ⊢
    clear hg3 hg2 hbH hg1l hPl hNl hC0 hWC
    generalize ((wC.alloc (.cells #[.int .i64 E1, .int .u64 E2] 58)).alloc (.cells #[.int .i64 0, .int .u64 0] 58)) = WD at *
    clear wC
    have HZ0 := Lib.hid hZ0
    clear hZ0
    go_loopw [16, 63] (fun v i wr => ∃ t : Nat, t ≤ m ∧ i = .int .i64 t ∧ v = .bool (flatB Z0 (zs.take t)) ∧ SumAt wr g3 (a * dotL (zs.take t) (zs.take t)) ∧ WD.grownBy wr (some g3)) (fun v i _ => m - (intOf i).toNat)
    case atStart => exact ⟨0, by omega, rfl, rfl, by simpa [dotL] using hO, grw_refl _ _⟩
    case round =>
      clear hO
      obtain ⟨t, ht, rfl, rfl, hSg, hgr⟩ := hrel
      by_cases hlt : t < m
      · have hdt : decide ((t : Int) < (m : Int)) = true := decide_eq_true (by omega)
        have htz : t < zs.length := by rw [HZ.out.1]; exact hlt
        have h0z : 0 < zs.length := by omega
        obtain ⟨bx, ox, hpx, hbx, hcx⟩ := hVX.cell h0z
        injection hpx with hpx
        injection hpx with e1 e2 e3
        subst e1 e2
        have xk := hgr.cell (hcx t htz) (by simp; omega)
        have x0 := hgr.cell (hcx 0 h0z) (by simp; omega)
        rw [Nat.zero_add] at xk
        rw [show zs[0] = Z0 by rw [HZ0.out]; simp [List.getD, List.getElem?_eq_getElem h0z]] at x0
        simp only [Nat.add_zero] at x0
        have q2 := hgr.cell hP6.2.2 (by simp; omega)
        have hxr := HZ.out.2.2 zs[t] (List.getElem_mem _)
        have HSt := Lib.hid (least_step (a := a) htz)
        have HFt := Lib.hid (flatB_take (c := Z0) htz)
        generalize zs[t] = x at *
        have hxx := mul_abs_le (x := x) (B := 1048576) (by omega) (by omega)
        have hxx0 := sq_nn x
        obtain ⟨y, hy⟩ : ∃ y, x * x = y := ⟨_, rfl⟩
        rw [hy] at hxx hxx0 HSt
        obtain ⟨A, B, hA, hBB, hAB⟩ := wv_parts (a * dotL (zs.take t) (zs.take t))
        have HSG := Lib.hid hSg
        obtain ⟨a0, a1, z0, z1⟩ := hSg
        rw [← hA] at a0
        rw [← hBB] at a1
        have HAB := Lib.hid hAB.symm
        clear hcx hA hBB hAB
        generalize flatB Z0 (zs.take t) = B0 at *
        go_wp2
        refine RY.region RX.fL (fun w' => w'.cell? ⟨g3, 0, none⟩ = some (.int .i64 A) ∧ w'.cell? ⟨g3, 1, none⟩ = some (.int .u64 B) ∧ w'.cell? ⟨P, 2, none⟩ = some (.int .i64 a) ∧ w'.cell? ⟨N, t, none⟩ = some (.int .i64 x)) (by kernel_rfl) (by kernel_rfl) (⟨a0, a1, q2, xk⟩) (fun OPS HO QR hQR => ?_)
        repeat
          refine RY.step (fun R hR => ?_)
          first
          | (refine RY.one_skip (by first | rfl | (rw [HO.out]; rfl)) (by simp only [RX.put_some, RX.put_none, List.set_cons_zero, List.set_cons_succ]; rfl) ?_
             refine hR _ _ ?_; clear hR R)
          | (refine RY.one_move (by first | rfl | (rw [HO.out]; rfl)) rfl (by first | exact Or.inl rfl | exact Or.inr rfl) (by simp only [RX.eval_tmp, RX.eval_const, List.getD_cons_zero, List.getD_cons_succ]; rfl) (by simp only [RX.put_some, RX.put_none, List.set_cons_zero, List.set_cons_succ]; rfl) ?_
             refine hR _ _ ?_; clear hR R)
          | (refine RY.one_nil (by first | rfl | (rw [HO.out]; rfl)) rfl rfl (by simp only [RX.eval_tmp, RX.eval_const, List.getD_cons_zero, List.getD_cons_succ]; rfl) (by simp only [RX.put_some, RX.put_none, List.set_cons_zero, List.set_cons_succ]; rfl) ?_
             refine hR _ _ ?_; clear hR R)
          | (refine RY.one_float (by first | rfl | (rw [HO.out]; rfl)) rfl rfl rfl ?_
             apply Exists.intro; apply Exists.intro
             refine ⟨fun w' hS K hK => ?_, ?_, ?_⟩
             · obtain ⟨hS1, hS2, hS3, hS4⟩ := hS; go_wp2; exact hK _ _ (by simp only [RX.arr_getD, List.getD_cons_zero, List.getD_cons_succ]; first | exact RX.dec_t (by omega) | exact RX.dec_f (by omega) | exact RX.beq_t (by omega) | exact RX.beq_f (by omega) | exact RX.bne_t (by omega) | exact RX.bne_f (by omega) | exact RX.bneB _ | rfl) rfl
             · simp only [RX.put_some, RX.put_none, List.set_cons_zero, List.set_cons_succ]; rfl
             refine hR _ _ ?_; clear hR R)
        refine RY.step (fun R hR => ?_)
        refine RY.one_chain (by first | rfl | (rw [HO.out]; rfl)) rfl (fun K hK => ?_)
        go_wp2_with fail
        refine (product_wv a y _ (by omega) (by omega) (by omega) (by omega)).mono ?_
        rintro e w7 ⟨rfl, hb7⟩
        replace hb7 : Below wr.heap.size wr w7 := Below_undrew hb7
        refine hK _ _ ⟨.inr (⟨RX.keep hb7 a0, RX.keep hb7 a1, RX.keep hb7 q2, RX.keep hb7 xk⟩), hR _ _ ?_⟩; clear hK K hR R
        repeat
          refine RY.step (fun R hR => ?_)
          first
          | (refine RY.one_skip (by first | rfl | (rw [HO.out]; rfl)) (by simp only [RX.put_some, RX.put_none, List.set_cons_zero, List.set_cons_succ]; rfl) ?_
             refine hR _ _ ?_; clear hR R)
          | (refine RY.one_move (by first | rfl | (rw [HO.out]; rfl)) rfl (by first | exact Or.inl rfl | exact Or.inr rfl) (by simp only [RX.eval_tmp, RX.eval_const, List.getD_cons_zero, List.getD_cons_succ]; rfl) (by simp only [RX.put_some, RX.put_none, List.set_cons_zero, List.set_cons_succ]; rfl) ?_
             refine hR _ _ ?_; clear hR R)
          | (refine RY.one_nil (by first | rfl | (rw [HO.out]; rfl)) rfl rfl (by simp only [RX.eval_tmp, RX.eval_const, List.getD_cons_zero, List.getD_cons_succ]; rfl) (by simp only [RX.put_some, RX.put_none, List.set_cons_zero, List.set_cons_succ]; rfl) ?_
             refine hR _ _ ?_; clear hR R)
          | (refine RY.one_float (by first | rfl | (rw [HO.out]; rfl)) rfl rfl rfl ?_
             apply Exists.intro; apply Exists.intro
             refine ⟨fun w' hS K hK => ?_, ?_, ?_⟩
             · obtain ⟨hS1, hS2, hS3, hS4⟩ := hS; go_wp2; exact hK _ _ (by simp only [RX.arr_getD, List.getD_cons_zero, List.getD_cons_succ]; first | exact RX.dec_t (by omega) | exact RX.dec_f (by omega) | exact RX.beq_t (by omega) | exact RX.beq_f (by omega) | exact RX.bne_t (by omega) | exact RX.bne_f (by omega) | exact RX.bneB _ | rfl) rfl
             · simp only [RX.put_some, RX.put_none, List.set_cons_zero, List.set_cons_succ]; rfl
             refine hR _ _ ?_; clear hR R)
        refine RY.step (fun R hR => ?_)
        refine RY.one_chain (by first | rfl | (rw [HO.out]; rfl)) rfl (fun K hK => ?_)
        go_wp2_with fail
        refine (add_at _ _ (a * dotL (zs.take t) (zs.take t)) (a * y) HAB.out rfl _).mono ?_
        rintro e w8 ⟨rfl, hb8⟩
        rw [HSt.out]
        replace hb8 := hb7.trans (hb8.mono hb7.size)
        have a04 := RX.keep hb8 a0
        have a14 := RX.keep hb8 a1
        have q24 := RX.keep hb8 q2
        have xk4 := RX.keep hb8 xk
        have x04 := RX.keep hb8 x0
        have hO4 := HSG.out.below hb8
        have z04 := hO4.f0
        have z14 := hO4.f1
        obtain ⟨C, D, hC, hD, hVal⟩ := wv_parts (a * dotL (zs.take (t + 1)) (zs.take (t + 1)))
        rw [hVal]
        have HC := Lib.hid (And.intro hC hD)
        have HO4 := Lib.hid hO4
        have HG4 : Hid (WD.grownBy w8 (some g3)) := Lib.hid (hgr.trans (grw_below hb8 _))
        clear hb7 hb8 a0 a1 z0 z1 q2 xk x0 hgr hC hD hVal HSt HSG HAB hO4
        refine hK _ _ ⟨.inr (⟨a04, a14, q24, xk4⟩), hR _ _ ?_⟩; clear hK K hR R
        repeat
          refine RY.step (fun R hR => ?_)
          first
          | (refine RY.one_skip (by first | rfl | (rw [HO.out]; rfl)) (by simp only [RX.put_some, RX.put_none, List.set_cons_zero, List.set_cons_succ]; rfl) ?_
             refine hR _ _ ?_; clear hR R)
          | (refine RY.one_move (by first | rfl | (rw [HO.out]; rfl)) rfl (by first | exact Or.inl rfl | exact Or.inr rfl) (by simp only [RX.eval_tmp, RX.eval_const, List.getD_cons_zero, List.getD_cons_succ]; rfl) (by simp only [RX.put_some, RX.put_none, List.set_cons_zero, List.set_cons_succ]; rfl) ?_
             refine hR _ _ ?_; clear hR R)
          | (refine RY.one_nil (by first | rfl | (rw [HO.out]; rfl)) rfl rfl (by simp only [RX.eval_tmp, RX.eval_const, List.getD_cons_zero, List.getD_cons_succ]; rfl) (by simp only [RX.put_some, RX.put_none, List.set_cons_zero, List.set_cons_succ]; rfl) ?_
             refine hR _ _ ?_; clear hR R)
          | (refine RY.one_float (by first | rfl | (rw [HO.out]; rfl)) rfl rfl rfl ?_
             apply Exists.intro; apply Exists.intro
             refine ⟨fun w' hS K hK => ?_, ?_, ?_⟩
             · obtain ⟨hS1, hS2, hS3, hS4⟩ := hS; go_wp2; exact hK _ _ (by simp only [RX.arr_getD, List.getD_cons_zero, List.getD_cons_succ]; first | exact RX.dec_t (by omega) | exact RX.dec_f (by omega) | exact RX.beq_t (by omega) | exact RX.beq_f (by omega) | exact RX.bne_t (by omega) | exact RX.bne_f (by omega) | exact RX.bneB _ | rfl) rfl
             · simp only [RX.put_some, RX.put_none, List.set_cons_zero, List.set_cons_succ]; rfl
             refine hR _ _ ?_; clear hR R)
        refine RY.step (fun R hR => ?_)
        refine RY.one_chain (by first | rfl | (rw [HO.out]; rfl)) rfl (fun K hK => ?_)
        go_wp2
        first | refine ⟨(by first | exact .inl rfl | exact .inl trivial | trivial), hR _ _ (RY.wpL_nil (hQR _ _ ?_))⟩ | refine hR _ _ (RY.wpL_nil (hQR _ _ ?_)) | refine hQR _ _ ?_
        (try clear hR); (try clear R); clear hQR QR HO OPS
        have HS5 : Hid (SumAt ((w8.setCell ⟨g3, 0, none⟩ (.int .i64 C)).setCell ⟨g3, 1, none⟩ (.int .u64 D)) g3 (a * dotL (zs.take (t + 1)) (zs.take (t + 1)))) := Lib.hid (sum_store HO4.out HC.out.1 HC.out.2)
        have HG5 : Hid (WD.grownBy ((w8.setCell ⟨g3, 0, none⟩ (.int .i64 C)).setCell ⟨g3, 1, none⟩ (.int .u64 D)) (some g3)) := Lib.hid (grw_set (grw_set HG4.out (.inl rfl)) (.inl rfl))
        have xk5 : ((w8.setCell ⟨g3, 0, none⟩ (.int .i64 C)).setCell ⟨g3, 1, none⟩ (.int .u64 D)).cell? ⟨N, t, none⟩ = some (.int .i64 x) := (by (try have hLt := World.block_lt_of_cell? _ _ xk4); (try simp only at hLt); (repeat first | rw [RX.cell_drew] | rw [World.cell?_setCell_other _ _ _ _ (by first | (simp; done) | (simp; omega) | omega)] | rw [RX.cell_alloc, if_neg (by first | (simp; done) | (simp; omega) | omega)]); first | exact xk4 | (rw [RX.cell_alloc, if_pos (by first | (simp; done) | omega)]; exact xk4))
        have x05 : ((w8.setCell ⟨g3, 0, none⟩ (.int .i64 C)).setCell ⟨g3, 1, none⟩ (.int .u64 D)).cell? ⟨N, 0, none⟩ = some (.int .i64 Z0) := (by (try have hLt := World.block_lt_of_cell? _ _ x04); (try simp only at hLt); (repeat first | rw [RX.cell_drew] | rw [World.cell?_setCell_other _ _ _ _ (by first | (simp; done) | (simp; omega) | omega)] | rw [RX.cell_alloc, if_neg (by first | (simp; done) | (simp; omega) | omega)]); first | exact x04 | (rw [RX.cell_alloc, if_pos (by first | (simp; done) | omega)]; exact x04))
        clear a04 a14 q24 xk4 x04 z04 z14 HO4 HC HG4
        generalize ((w8.setCell ⟨g3, 0, none⟩ (.int .i64 C)).setCell ⟨g3, 1, none⟩ (.int .u64 D)) = W9 at *
        have ht0 : (0 : Int) < (m : Int) := by omega
        cases B0 with
        | true =>
          by_cases hz0 : x = Z0
          · subst hz0
            have HR : Hid (flatB x (zs.take (t + 1)) = true) := Lib.hid (by rw [HFt.out]; simp)
            go_wp2
            refine RX.region RX.fN (fun w' => w' = _) (by kernel_rfl) (by kernel_rfl) rfl (fun OPS HO QR hQR => ?_)
            repeat
              refine RX.step (fun R hR => ?_)
              first
              | (refine RX.one_skip (by first | rfl | (rw [HO.out]; rfl)) (by simp only [RX.put_some, RX.put_none, List.set_cons_zero, List.set_cons_succ]; rfl) ?_
                 refine hR _ _ ?_; clear hR R)
              | (refine RX.one_move (by first | rfl | (rw [HO.out]; rfl)) rfl (by first | exact Or.inl rfl | exact Or.inr rfl) (by simp only [RX.eval_tmp, RX.eval_const, List.getD_cons_zero, List.getD_cons_succ]; rfl) (by simp only [RX.put_some, RX.put_none, List.set_cons_zero, List.set_cons_succ]; rfl) ?_
                 refine hR _ _ ?_; clear hR R)
              | (refine RX.one_nil (by first | rfl | (rw [HO.out]; rfl)) rfl rfl (by simp only [RX.eval_tmp, RX.eval_const, List.getD_cons_zero, List.getD_cons_succ]; rfl) (by simp only [RX.put_some, RX.put_none, List.set_cons_zero, List.set_cons_succ]; rfl) ?_
                 refine hR _ _ ?_; clear hR R)
              | (refine RX.one_float (by first | rfl | (rw [HO.out]; rfl)) rfl rfl rfl ?_
                 apply Exists.intro; apply Exists.intro
                 refine ⟨fun w' hS K hK => ?_, ?_, ?_⟩
                 · subst hS; go_wp2; exact hK _ _ (by simp only [RX.arr_getD, List.getD_cons_zero, List.getD_cons_succ]; first | exact RX.dec_t (by omega) | exact RX.dec_f (by omega) | exact RX.beq_t (by omega) | exact RX.beq_f (by omega) | exact RX.bne_t (by omega) | exact RX.bne_f (by omega) | exact RX.bneB _ | rfl) rfl
                 · simp only [RX.put_some, RX.put_none, List.set_cons_zero, List.set_cons_succ]; rfl
                 refine hR _ _ ?_; clear hR R)
            refine RX.wpL_nil (hQR _ _ rfl ?_); clear hQR QR HO OPS
            go_wp2
            go_roundw
            case rel => exact ⟨t + 1, by omega, by go_num, by rw [HR.out], HS5.out.drew, grw_drew HG5.out⟩
            case measure => simp [intOf]; omega
          · have hzb : (x == Z0) = false := by rw [beq_eq_false_iff_ne]; exact hz0
            have HR : Hid (flatB Z0 (zs.take (t + 1)) = false) := Lib.hid (by rw [HFt.out, hzb]; rfl)
            go_wp2
            refine RX.region RX.fN (fun w' => w' = _) (by kernel_rfl) (by kernel_rfl) rfl (fun OPS HO QR hQR => ?_)
            repeat
              refine RX.step (fun R hR => ?_)
              first
              | (refine RX.one_skip (by first | rfl | (rw [HO.out]; rfl)) (by simp only [RX.put_some, RX.put_none, List.set_cons_zero, List.set_cons_succ]; rfl) ?_
                 refine hR _ _ ?_; clear hR R)
              | (refine RX.one_move (by first | rfl | (rw [HO.out]; rfl)) rfl (by first | exact Or.inl rfl | exact Or.inr rfl) (by simp only [RX.eval_tmp, RX.eval_const, List.getD_cons_zero, List.getD_cons_succ]; rfl) (by simp only [RX.put_some, RX.put_none, List.set_cons_zero, List.set_cons_succ]; rfl) ?_
                 refine hR _ _ ?_; clear hR R)
              | (refine RX.one_nil (by first | rfl | (rw [HO.out]; rfl)) rfl rfl (by simp only [RX.eval_tmp, RX.eval_const, List.getD_cons_zero, List.getD_cons_succ]; rfl) (by simp only [RX.put_some, RX.put_none, List.set_cons_zero, List.set_cons_succ]; rfl) ?_
                 refine hR _ _ ?_; clear hR R)
              | (refine RX.one_float (by first | rfl | (rw [HO.out]; rfl)) rfl rfl rfl ?_
                 apply Exists.intro; apply Exists.intro
                 refine ⟨fun w' hS K hK => ?_, ?_, ?_⟩
                 · subst hS; go_wp2; exact hK _ _ (by simp only [RX.arr_getD, List.getD_cons_zero, List.getD_cons_succ]; first | exact RX.dec_t (by omega) | exact RX.dec_f (by omega) | exact RX.beq_t (by omega) | exact RX.beq_f (by omega) | exact RX.bne_t (by omega) | exact RX.bne_f (by omega) | exact RX.bneB _ | rfl) rfl
                 · simp only [RX.put_some, RX.put_none, List.set_cons_zero, List.set_cons_succ]; rfl
                 refine hR _ _ ?_; clear hR R)
            refine RX.wpL_nil (hQR _ _ rfl ?_); clear hQR QR HO OPS
            go_wp2
            go_roundw
            case rel => exact ⟨t + 1, by omega, by go_num, by rw [HR.out], HS5.out.drew, grw_drew HG5.out⟩
            case measure => simp [intOf]; omega
        | false =>
          have HR : Hid (flatB Z0 (zs.take (t + 1)) = false) := Lib.hid (by rw [HFt.out]; rfl)
          go_wp2
          refine RX.region RX.fN (fun w' => w' = _) (by kernel_rfl) (by kernel_rfl) rfl (fun OPS HO QR hQR => ?_)
          repeat
            refine RX.step (fun R hR => ?_)
            first
            | (refine RX.one_skip (by first | rfl | (rw [HO.out]; rfl)) (by simp only [RX.put_some, RX.put_none, List.set_cons_zero, List.set_cons_succ]; rfl) ?_
               refine hR _ _ ?_; clear hR R)
            | (refine RX.one_move (by first | rfl | (rw [HO.out]; rfl)) rfl (by first | exact Or.inl rfl | exact Or.inr rfl) (by simp only [RX.eval_tmp, RX.eval_const, List.getD_cons_zero, List.getD_cons_succ]; rfl) (by simp only [RX.put_some, RX.put_none, List.set_cons_zero, List.set_cons_succ]; rfl) ?_
               refine hR _ _ ?_; clear hR R)
            | (refine RX.one_nil (by first | rfl | (rw [HO.out]; rfl)) rfl rfl (by simp only [RX.eval_tmp, RX.eval_const, List.getD_cons_zero, List.getD_cons_succ]; rfl) (by simp only [RX.put_some, RX.put_none, List.set_cons_zero, List.set_cons_succ]; rfl) ?_
               refine hR _ _ ?_; clear hR R)
            | (refine RX.one_float (by first | rfl | (rw [HO.out]; rfl)) rfl rfl rfl ?_
               apply Exists.intro; apply Exists.intro
               refine ⟨fun w' hS K hK => ?_, ?_, ?_⟩
               · subst hS; go_wp2; exact hK _ _ (by simp only [RX.arr_getD, List.getD_cons_zero, List.getD_cons_succ]; first | exact RX.dec_t (by omega) | exact RX.dec_f (by omega) | exact RX.beq_t (by omega) | exact RX.beq_f (by omega) | exact RX.bne_t (by omega) | exact RX.bne_f (by omega) | exact RX.bneB _ | rfl) rfl
               · simp only [RX.put_some, RX.put_none, List.set_cons_zero, List.set_cons_succ]; rfl
               refine hR _ _ ?_; clear hR R)
          refine RX.wpL_nil (hQR _ _ rfl ?_); clear hQR QR HO OPS
          go_wp2
          go_roundw
          case rel => exact ⟨t + 1, by omega, by go_num, by rw [HR.out], HS5.out.drew, grw_drew HG5.out⟩
          case measure => simp [intOf]; omega
      · have hdt : decide ((t : Int) < (m : Int)) = false := decide_eq_false (by omega)
        obtain rfl : t = m := by omega
        have e1 : zs.take t = zs := by rw [← HZ.out.1, List.take_length]
        rw [e1] at hSg ⊢
        clear e1
        have u1 := hgr.cell t1.1 (by simp; omega)
        have u2 := hgr.cell t1.2 (by simp; omega)
        have u3 := hgr.cell t2.1 (by simp; omega)
        have u4 := hgr.cell t2.2 (by simp; omega)
        have u5 := hgr.cell hP6.2.1 (by simp; omega)
        have HBF : Hid (Below W.heap.size W wr) := Lib.hid (hB6.grown hgr hB6.size (fun k hk => by injection hk with hk; omega))
        obtain ⟨L1, L2, l1, l2, hLV⟩ := wv_parts (a * dotL zs zs)
        obtain ⟨a0, a1, _, _⟩ := hSg
        rw [← l1] at a0
        rw [← l2] at a1
        generalize energyL s a zs (edgesL n) = E at *
        generalize a * dotL zs zs = F at *
        have HE : Hid ((.agg #[.int .i64 E1, .int .u64 E2] : Value) = wv E) := Lib.hid (by rw [HQ.out.1, HQ.out.2]; rfl)
        have HF : Hid ((.agg #[.int .i64 L1, .int .u64 L2] : Value) = wv F) := Lib.hid hLV.symm
        obtain ⟨sg, hsg⟩ : ∃ x, sgn E F = x := ⟨_, rfl⟩
        have hsg0 : 0 ≤ sg := by rw [← hsg]; unfold sgn; (repeat' split) <;> omega
        have hEB : (0 ≤ F ∧ F ≤ E) ∧ E ≤ 85070591730234615865843651857942052864 := ⟨⟨hL0, hE0⟩, hE1⟩
        clear hB6 hgr t1 t2 hP6 hVX hLV
        rcases hfl : flatB Z0 zs with _ | _
        · by_cases hs : s = 0
          · have hEq : E = F := hleast.2 (.inr hs)
            have hL1 : L1 = E1 := by rw [l1, HQ.out.1, hEq]
            have hL2 : L2 = E2 := by rw [l2, HQ.out.2, hEq]
            subst hL1 hL2 hs
            clear hfl hleast HQ l1 l2 hEq
            go_wp2
            refine RX.region RX.fL (fun w' => Two w' g1 L1 L2 ∧ Two w' g2 L1 L2 ∧ Two w' g3 L1 L2 ∧ w'.cell? ⟨P, 1, none⟩ = some (.int .i64 0)) (by kernel_rfl) (by kernel_rfl) (⟨⟨u1, u2⟩, ⟨u3, u4⟩, ⟨a0, a1⟩, u5⟩) (fun OPS HO QR hQR => ?_)
            repeat
              refine RX.step (fun R hR => ?_)
              first
              | (refine RX.one_skip (by first | rfl | (rw [HO.out]; rfl)) (by simp only [RX.put_some, RX.put_none, List.set_cons_zero, List.set_cons_succ]; rfl) ?_
                 refine hR _ _ ?_; clear hR R)
              | (refine RX.one_move (by first | rfl | (rw [HO.out]; rfl)) rfl (by first | exact Or.inl rfl | exact Or.inr rfl) (by simp only [RX.eval_tmp, RX.eval_const, List.getD_cons_zero, List.getD_cons_succ]; rfl) (by simp only [RX.put_some, RX.put_none, List.set_cons_zero, List.set_cons_succ]; rfl) ?_
                 refine hR _ _ ?_; clear hR R)
              | (refine RX.one_nil (by first | rfl | (rw [HO.out]; rfl)) rfl rfl (by simp only [RX.eval_tmp, RX.eval_const, List.getD_cons_zero, List.getD_cons_succ]; rfl) (by simp only [RX.put_some, RX.put_none, List.set_cons_zero, List.set_cons_succ]; rfl) ?_
                 refine hR _ _ ?_; clear hR R)
              | (refine RX.one_float (by first | rfl | (rw [HO.out]; rfl)) rfl rfl rfl ?_
                 apply Exists.intro; apply Exists.intro
                 refine ⟨fun w' hS K hK => ?_, ?_, ?_⟩
                 · obtain ⟨⟨hS1, hS2⟩, ⟨hS3, hS4⟩, ⟨hS5, hS6⟩, hS7⟩ := hS; go_wp2; exact hK _ _ (by simp only [RX.arr_getD, List.getD_cons_zero, List.getD_cons_succ]; first | exact RX.dec_t (by omega) | exact RX.dec_f (by omega) | exact RX.beq_t (by omega) | exact RX.beq_f (by omega) | exact RX.bne_t (by omega) | exact RX.bne_f (by omega) | exact RX.bneB _ | rfl) rfl
                 · simp only [RX.put_some, RX.put_none, List.set_cons_zero, List.set_cons_succ]; rfl
                 refine hR _ _ ?_; clear hR R)
            refine RX.step (fun R hR => ?_)
            refine RX.one_chain (by first | rfl | (rw [HO.out]; rfl)) rfl (fun K hK => ?_)
            go_wp2_with fail
            refine (compare_wv2 E F _ _ _ HE.out HF.out (by omega) (by omega) (by omega) (by omega)).mono ?_
            rintro e wz ⟨rfl, hbz⟩
            rw [hsg]
            replace hbz : Below wr.heap.size wr wz := Below_undrew hbz
            have hBz := HBF.out.trans (hbz.mono HBF.out.size)
            have v1 := RX.keep hbz u1
            have v2 := RX.keep hbz u2
            have v3 := RX.keep hbz u3
            have v4 := RX.keep hbz u4
            have v5 := RX.keep hbz u5
            have b0 := RX.keep hbz a0
            have b1 := RX.keep hbz a1
            clear u1 u2 u3 u4 u5 a0 a1 hbz
            refine hK _ _ ⟨⟨⟨v1, v2⟩, ⟨v3, v4⟩, ⟨b0, b1⟩, v5⟩, hR _ _ ?_⟩; clear hK K hR R
            repeat
              refine RX.step (fun R hR => ?_)
              first
              | (refine RX.one_skip (by first | rfl | (rw [HO.out]; rfl)) (by simp only [RX.put_some, RX.put_none, List.set_cons_zero, List.set_cons_succ]; rfl) ?_
                 refine hR _ _ ?_; clear hR R)
              | (refine RX.one_move (by first | rfl | (rw [HO.out]; rfl)) rfl (by first | exact Or.inl rfl | exact Or.inr rfl) (by simp only [RX.eval_tmp, RX.eval_const, List.getD_cons_zero, List.getD_cons_succ]; rfl) (by simp only [RX.put_some, RX.put_none, List.set_cons_zero, List.set_cons_succ]; rfl) ?_
                 refine hR _ _ ?_; clear hR R)
              | (refine RX.one_nil (by first | rfl | (rw [HO.out]; rfl)) rfl rfl (by simp only [RX.eval_tmp, RX.eval_const, List.getD_cons_zero, List.getD_cons_succ]; rfl) (by simp only [RX.put_some, RX.put_none, List.set_cons_zero, List.set_cons_succ]; rfl) ?_
                 refine hR _ _ ?_; clear hR R)
              | (refine RX.one_float (by first | rfl | (rw [HO.out]; rfl)) rfl rfl rfl ?_
                 apply Exists.intro; apply Exists.intro
                 refine ⟨fun w' hS K hK => ?_, ?_, ?_⟩
                 · obtain ⟨⟨hS1, hS2⟩, ⟨hS3, hS4⟩, ⟨hS5, hS6⟩, hS7⟩ := hS; go_wp2; exact hK _ _ (by simp only [RX.arr_getD, List.getD_cons_zero, List.getD_cons_succ]; first | exact RX.dec_t (by omega) | exact RX.dec_f (by omega) | exact RX.beq_t (by omega) | exact RX.beq_f (by omega) | exact RX.bne_t (by omega) | exact RX.bne_f (by omega) | exact RX.bneB _ | rfl) rfl
                 · simp only [RX.put_some, RX.put_none, List.set_cons_zero, List.set_cons_succ]; rfl
                 refine hR _ _ ?_; clear hR R)
            refine RX.wpL_nil (hQR _ _ (⟨⟨v1, v2⟩, ⟨v3, v4⟩, ⟨b0, b1⟩, v5⟩) ?_); clear hQR QR HO OPS
            go_wp2
            go_ret
            exact ⟨rfl, hBz⟩
          · have hne : E ≠ F := fun h => by
              rcases hleast.1 h with h | h
              · rw [hfl] at h; cases h
              · exact hs h
            have hw := wide_ne (p := E) (q := F) (by omega) (by omega) (by omega) (by omega) hne
            rw [← HQ.out.1, ← HQ.out.2, ← l1, ← l2] at hw
            have hsb : (s == 0) = false := by rw [beq_eq_false_iff_ne]; exact hs
            clear hfl hleast HQ l1 l2 hne hs
            rcases hw with h1 | ⟨h1, h2⟩
            · have hb1 : (E1 == L1) = false := by rw [beq_eq_false_iff_ne]; exact h1
              clear h1
              go_wp2
              refine RX.region RX.fL (fun w' => Two w' g1 E1 E2 ∧ Two w' g2 E1 E2 ∧ Two w' g3 L1 L2 ∧ w'.cell? ⟨P, 1, none⟩ = some (.int .i64 s)) (by kernel_rfl) (by kernel_rfl) (⟨⟨u1, u2⟩, ⟨u3, u4⟩, ⟨a0, a1⟩, u5⟩) (fun OPS HO QR hQR => ?_)
              repeat
                refine RX.step (fun R hR => ?_)
                first
                | (refine RX.one_skip (by first | rfl | (rw [HO.out]; rfl)) (by simp only [RX.put_some, RX.put_none, List.set_cons_zero, List.set_cons_succ]; rfl) ?_
                   refine hR _ _ ?_; clear hR R)
                | (refine RX.one_move (by first | rfl | (rw [HO.out]; rfl)) rfl (by first | exact Or.inl rfl | exact Or.inr rfl) (by simp only [RX.eval_tmp, RX.eval_const, List.getD_cons_zero, List.getD_cons_succ]; rfl) (by simp only [RX.put_some, RX.put_none, List.set_cons_zero, List.set_cons_succ]; rfl) ?_
                   refine hR _ _ ?_; clear hR R)
                | (refine RX.one_nil (by first | rfl | (rw [HO.out]; rfl)) rfl rfl (by simp only [RX.eval_tmp, RX.eval_const, List.getD_cons_zero, List.getD_cons_succ]; rfl) (by simp only [RX.put_some, RX.put_none, List.set_cons_zero, List.set_cons_succ]; rfl) ?_
                   refine hR _ _ ?_; clear hR R)
                | (refine RX.one_float (by first | rfl | (rw [HO.out]; rfl)) rfl rfl rfl ?_
                   apply Exists.intro; apply Exists.intro
                   refine ⟨fun w' hS K hK => ?_, ?_, ?_⟩
                   · obtain ⟨⟨hS1, hS2⟩, ⟨hS3, hS4⟩, ⟨hS5, hS6⟩, hS7⟩ := hS; go_wp2; exact hK _ _ (by simp only [RX.arr_getD, List.getD_cons_zero, List.getD_cons_succ]; first | exact RX.dec_t (by omega) | exact RX.dec_f (by omega) | exact RX.beq_t (by omega) | exact RX.beq_f (by omega) | exact RX.bne_t (by omega) | exact RX.bne_f (by omega) | exact RX.bneB _ | rfl) rfl
                   · simp only [RX.put_some, RX.put_none, List.set_cons_zero, List.set_cons_succ]; rfl
                   refine hR _ _ ?_; clear hR R)
              refine RX.step (fun R hR => ?_)
              refine RX.one_chain (by first | rfl | (rw [HO.out]; rfl)) rfl (fun K hK => ?_)
              go_wp2_with fail
              refine (compare_wv2 E F _ _ _ HE.out HF.out (by omega) (by omega) (by omega) (by omega)).mono ?_
              rintro e wz ⟨rfl, hbz⟩
              rw [hsg]
              replace hbz : Below wr.heap.size wr wz := Below_undrew hbz
              have hBz := HBF.out.trans (hbz.mono HBF.out.size)
              have v1 := RX.keep hbz u1
              have v2 := RX.keep hbz u2
              have v3 := RX.keep hbz u3
              have v4 := RX.keep hbz u4
              have v5 := RX.keep hbz u5
              have b0 := RX.keep hbz a0
              have b1 := RX.keep hbz a1
              clear u1 u2 u3 u4 u5 a0 a1 hbz
              refine hK _ _ ⟨⟨⟨v1, v2⟩, ⟨v3, v4⟩, ⟨b0, b1⟩, v5⟩, hR _ _ ?_⟩; clear hK K hR R
              repeat
                refine RX.step (fun R hR => ?_)
                first
                | (refine RX.one_skip (by first | rfl | (rw [HO.out]; rfl)) (by simp only [RX.put_some, RX.put_none, List.set_cons_zero, List.set_cons_succ]; rfl) ?_
                   refine hR _ _ ?_; clear hR R)
                | (refine RX.one_move (by first | rfl | (rw [HO.out]; rfl)) rfl (by first | exact Or.inl rfl | exact Or.inr rfl) (by simp only [RX.eval_tmp, RX.eval_const, List.getD_cons_zero, List.getD_cons_succ]; rfl) (by simp only [RX.put_some, RX.put_none, List.set_cons_zero, List.set_cons_succ]; rfl) ?_
                   refine hR _ _ ?_; clear hR R)
                | (refine RX.one_nil (by first | rfl | (rw [HO.out]; rfl)) rfl rfl (by simp only [RX.eval_tmp, RX.eval_const, List.getD_cons_zero, List.getD_cons_succ]; rfl) (by simp only [RX.put_some, RX.put_none, List.set_cons_zero, List.set_cons_succ]; rfl) ?_
                   refine hR _ _ ?_; clear hR R)
                | (refine RX.one_float (by first | rfl | (rw [HO.out]; rfl)) rfl rfl rfl ?_
                   apply Exists.intro; apply Exists.intro
                   refine ⟨fun w' hS K hK => ?_, ?_, ?_⟩
                   · obtain ⟨⟨hS1, hS2⟩, ⟨hS3, hS4⟩, ⟨hS5, hS6⟩, hS7⟩ := hS; go_wp2; exact hK _ _ (by simp only [RX.arr_getD, List.getD_cons_zero, List.getD_cons_succ]; first | exact RX.dec_t (by omega) | exact RX.dec_f (by omega) | exact RX.beq_t (by omega) | exact RX.beq_f (by omega) | exact RX.bne_t (by omega) | exact RX.bne_f (by omega) | exact RX.bneB _ | rfl) rfl
                   · simp only [RX.put_some, RX.put_none, List.set_cons_zero, List.set_cons_succ]; rfl
                   refine hR _ _ ?_; clear hR R)
              refine RX.wpL_nil (hQR _ _ (⟨⟨v1, v2⟩, ⟨v3, v4⟩, ⟨b0, b1⟩, v5⟩) ?_); clear hQR QR HO OPS
              go_wp2
              go_ret
              exact ⟨rfl, hBz⟩
            · subst h1
              have hb1 : (E2 == L2) = false := by rw [beq_eq_false_iff_ne]; exact h2
              clear h2
              go_wp2
              refine RX.region RX.fL (fun w' => Two w' g1 E1 E2 ∧ Two w' g2 E1 E2 ∧ Two w' g3 E1 L2 ∧ w'.cell? ⟨P, 1, none⟩ = some (.int .i64 s)) (by kernel_rfl) (by kernel_rfl) (⟨⟨u1, u2⟩, ⟨u3, u4⟩, ⟨a0, a1⟩, u5⟩) (fun OPS HO QR hQR => ?_)
              repeat
                refine RX.step (fun R hR => ?_)
                first
                | (refine RX.one_skip (by first | rfl | (rw [HO.out]; rfl)) (by simp only [RX.put_some, RX.put_none, List.set_cons_zero, List.set_cons_succ]; rfl) ?_
                   refine hR _ _ ?_; clear hR R)
                | (refine RX.one_move (by first | rfl | (rw [HO.out]; rfl)) rfl (by first | exact Or.inl rfl | exact Or.inr rfl) (by simp only [RX.eval_tmp, RX.eval_const, List.getD_cons_zero, List.getD_cons_succ]; rfl) (by simp only [RX.put_some, RX.put_none, List.set_cons_zero, List.set_cons_succ]; rfl) ?_
                   refine hR _ _ ?_; clear hR R)
                | (refine RX.one_nil (by first | rfl | (rw [HO.out]; rfl)) rfl rfl (by simp only [RX.eval_tmp, RX.eval_const, List.getD_cons_zero, List.getD_cons_succ]; rfl) (by simp only [RX.put_some, RX.put_none, List.set_cons_zero, List.set_cons_succ]; rfl) ?_
                   refine hR _ _ ?_; clear hR R)
                | (refine RX.one_float (by first | rfl | (rw [HO.out]; rfl)) rfl rfl rfl ?_
                   apply Exists.intro; apply Exists.intro
                   refine ⟨fun w' hS K hK => ?_, ?_, ?_⟩
                   · obtain ⟨⟨hS1, hS2⟩, ⟨hS3, hS4⟩, ⟨hS5, hS6⟩, hS7⟩ := hS; go_wp2; exact hK _ _ (by simp only [RX.arr_getD, List.getD_cons_zero, List.getD_cons_succ]; first | exact RX.dec_t (by omega) | exact RX.dec_f (by omega) | exact RX.beq_t (by omega) | exact RX.beq_f (by omega) | exact RX.bne_t (by omega) | exact RX.bne_f (by omega) | exact RX.bneB _ | rfl) rfl
                   · simp only [RX.put_some, RX.put_none, List.set_cons_zero, List.set_cons_succ]; rfl
                   refine hR _ _ ?_; clear hR R)
              refine RX.step (fun R hR => ?_)
              refine RX.one_chain (by first | rfl | (rw [HO.out]; rfl)) rfl (fun K hK => ?_)
              go_wp2_with fail
              refine (compare_wv2 E F _ _ _ HE.out HF.out (by omega) (by omega) (by omega) (by omega)).mono ?_
              rintro e wz ⟨rfl, hbz⟩
              rw [hsg]
              replace hbz : Below wr.heap.size wr wz := Below_undrew hbz
              have hBz := HBF.out.trans (hbz.mono HBF.out.size)
              have v1 := RX.keep hbz u1
              have v2 := RX.keep hbz u2
              have v3 := RX.keep hbz u3
              have v4 := RX.keep hbz u4
              have v5 := RX.keep hbz u5
              have b0 := RX.keep hbz a0
              have b1 := RX.keep hbz a1
              clear u1 u2 u3 u4 u5 a0 a1 hbz
              refine hK _ _ ⟨⟨⟨v1, v2⟩, ⟨v3, v4⟩, ⟨b0, b1⟩, v5⟩, hR _ _ ?_⟩; clear hK K hR R
              repeat
                refine RX.step (fun R hR => ?_)
                first
                | (refine RX.one_skip (by first | rfl | (rw [HO.out]; rfl)) (by simp only [RX.put_some, RX.put_none, List.set_cons_zero, List.set_cons_succ]; rfl) ?_
                   refine hR _ _ ?_; clear hR R)
                | (refine RX.one_move (by first | rfl | (rw [HO.out]; rfl)) rfl (by first | exact Or.inl rfl | exact Or.inr rfl) (by simp only [RX.eval_tmp, RX.eval_const, List.getD_cons_zero, List.getD_cons_succ]; rfl) (by simp only [RX.put_some, RX.put_none, List.set_cons_zero, List.set_cons_succ]; rfl) ?_
                   refine hR _ _ ?_; clear hR R)
                | (refine RX.one_nil (by first | rfl | (rw [HO.out]; rfl)) rfl rfl (by simp only [RX.eval_tmp, RX.eval_const, List.getD_cons_zero, List.getD_cons_succ]; rfl) (by simp only [RX.put_some, RX.put_none, List.set_cons_zero, List.set_cons_succ]; rfl) ?_
                   refine hR _ _ ?_; clear hR R)
                | (refine RX.one_float (by first | rfl | (rw [HO.out]; rfl)) rfl rfl rfl ?_
                   apply Exists.intro; apply Exists.intro
                   refine ⟨fun w' hS K hK => ?_, ?_, ?_⟩
                   · obtain ⟨⟨hS1, hS2⟩, ⟨hS3, hS4⟩, ⟨hS5, hS6⟩, hS7⟩ := hS; go_wp2; exact hK _ _ (by simp only [RX.arr_getD, List.getD_cons_zero, List.getD_cons_succ]; first | exact RX.dec_t (by omega) | exact RX.dec_f (by omega) | exact RX.beq_t (by omega) | exact RX.beq_f (by omega) | exact RX.bne_t (by omega) | exact RX.bne_f (by omega) | exact RX.bneB _ | rfl) rfl
                   · simp only [RX.put_some, RX.put_none, List.set_cons_zero, List.set_cons_succ]; rfl
                   refine hR _ _ ?_; clear hR R)
              refine RX.wpL_nil (hQR _ _ (⟨⟨v1, v2⟩, ⟨v3, v4⟩, ⟨b0, b1⟩, v5⟩) ?_); clear hQR QR HO OPS
              go_wp2
              go_ret
              exact ⟨rfl, hBz⟩
        · have hEq : E = F := hleast.2 (.inl hfl)
          have hL1 : L1 = E1 := by rw [l1, HQ.out.1, hEq]
          have hL2 : L2 = E2 := by rw [l2, HQ.out.2, hEq]
          subst hL1 hL2
          clear hfl hleast HQ l1 l2 hEq
          go_wp2
          refine RX.region RX.fL (fun w' => Two w' g1 L1 L2 ∧ Two w' g2 L1 L2 ∧ Two w' g3 L1 L2 ∧ w'.cell? ⟨P, 1, none⟩ = some (.int .i64 s)) (by kernel_rfl) (by kernel_rfl) (⟨⟨u1, u2⟩, ⟨u3, u4⟩, ⟨a0, a1⟩, u5⟩) (fun OPS HO QR hQR => ?_)
          repeat
            refine RX.step (fun R hR => ?_)
            first
            | (refine RX.one_skip (by first | rfl | (rw [HO.out]; rfl)) (by simp only [RX.put_some, RX.put_none, List.set_cons_zero, List.set_cons_succ]; rfl) ?_
               refine hR _ _ ?_; clear hR R)
            | (refine RX.one_move (by first | rfl | (rw [HO.out]; rfl)) rfl (by first | exact Or.inl rfl | exact Or.inr rfl) (by simp only [RX.eval_tmp, RX.eval_const, List.getD_cons_zero, List.getD_cons_succ]; rfl) (by simp only [RX.put_some, RX.put_none, List.set_cons_zero, List.set_cons_succ]; rfl) ?_
               refine hR _ _ ?_; clear hR R)
            | (refine RX.one_nil (by first | rfl | (rw [HO.out]; rfl)) rfl rfl (by simp only [RX.eval_tmp, RX.eval_const, List.getD_cons_zero, List.getD_cons_succ]; rfl) (by simp only [RX.put_some, RX.put_none, List.set_cons_zero, List.set_cons_succ]; rfl) ?_
               refine hR _ _ ?_; clear hR R)
            | (refine RX.one_float (by first | rfl | (rw [HO.out]; rfl)) rfl rfl rfl ?_
               apply Exists.intro; apply Exists.intro
               refine ⟨fun w' hS K hK => ?_, ?_, ?_⟩
               · obtain ⟨⟨hS1, hS2⟩, ⟨hS3, hS4⟩, ⟨hS5, hS6⟩, hS7⟩ := hS; go_wp2; exact hK _ _ (by simp only [RX.arr_getD, List.getD_cons_zero, List.getD_cons_succ]; first | exact RX.dec_t (by omega) | exact RX.dec_f (by omega) | exact RX.beq_t (by omega) | exact RX.beq_f (by omega) | exact RX.bne_t (by omega) | exact RX.bne_f (by omega) | exact RX.bneB _ | rfl) rfl
               · simp only [RX.put_some, RX.put_none, List.set_cons_zero, List.set_cons_succ]; rfl
               refine hR _ _ ?_; clear hR R)
          refine RX.step (fun R hR => ?_)
          refine RX.one_chain (by first | rfl | (rw [HO.out]; rfl)) rfl (fun K hK => ?_)
          go_wp2_with fail
          refine (compare_wv2 E F _ _ _ HE.out HF.out (by omega) (by omega) (by omega) (by omega)).mono ?_
          rintro e wz ⟨rfl, hbz⟩
          rw [hsg]
          replace hbz : Below wr.heap.size wr wz := Below_undrew hbz
          have hBz := HBF.out.trans (hbz.mono HBF.out.size)
          have v1 := RX.keep hbz u1
          have v2 := RX.keep hbz u2
          have v3 := RX.keep hbz u3
          have v4 := RX.keep hbz u4
          have v5 := RX.keep hbz u5
          have b0 := RX.keep hbz a0
          have b1 := RX.keep hbz a1
          clear u1 u2 u3 u4 u5 a0 a1 hbz
          refine hK _ _ ⟨⟨⟨v1, v2⟩, ⟨v3, v4⟩, ⟨b0, b1⟩, v5⟩, hR _ _ ?_⟩; clear hK K hR R
          repeat
            refine RX.step (fun R hR => ?_)
            first
            | (refine RX.one_skip (by first | rfl | (rw [HO.out]; rfl)) (by simp only [RX.put_some, RX.put_none, List.set_cons_zero, List.set_cons_succ]; rfl) ?_
               refine hR _ _ ?_; clear hR R)
            | (refine RX.one_move (by first | rfl | (rw [HO.out]; rfl)) rfl (by first | exact Or.inl rfl | exact Or.inr rfl) (by simp only [RX.eval_tmp, RX.eval_const, List.getD_cons_zero, List.getD_cons_succ]; rfl) (by simp only [RX.put_some, RX.put_none, List.set_cons_zero, List.set_cons_succ]; rfl) ?_
               refine hR _ _ ?_; clear hR R)
            | (refine RX.one_nil (by first | rfl | (rw [HO.out]; rfl)) rfl rfl (by simp only [RX.eval_tmp, RX.eval_const, List.getD_cons_zero, List.getD_cons_succ]; rfl) (by simp only [RX.put_some, RX.put_none, List.set_cons_zero, List.set_cons_succ]; rfl) ?_
               refine hR _ _ ?_; clear hR R)
            | (refine RX.one_float (by first | rfl | (rw [HO.out]; rfl)) rfl rfl rfl ?_
               apply Exists.intro; apply Exists.intro
               refine ⟨fun w' hS K hK => ?_, ?_, ?_⟩
               · obtain ⟨⟨hS1, hS2⟩, ⟨hS3, hS4⟩, ⟨hS5, hS6⟩, hS7⟩ := hS; go_wp2; exact hK _ _ (by simp only [RX.arr_getD, List.getD_cons_zero, List.getD_cons_succ]; first | exact RX.dec_t (by omega) | exact RX.dec_f (by omega) | exact RX.beq_t (by omega) | exact RX.beq_f (by omega) | exact RX.bne_t (by omega) | exact RX.bne_f (by omega) | exact RX.bneB _ | rfl) rfl
               · simp only [RX.put_some, RX.put_none, List.set_cons_zero, List.set_cons_succ]; rfl
               refine hR _ _ ?_; clear hR R)
          refine RX.wpL_nil (hQR _ _ (⟨⟨v1, v2⟩, ⟨v3, v4⟩, ⟨b0, b1⟩, v5⟩) ?_); clear hQR QR HO OPS
          go_wp2
          go_ret
          exact ⟨rfl, hBz⟩
end Go.Proofs.YtpbfgnffkhabnaaDoor
