import Derived.Test.YtblgchhmcifdgaaGreatDoorMinLaw
set_option linter.unusedSimpArgs false
set_option linter.unusedVariables false
namespace Go.Proofs.YtblgchhmcifdgaaGreatDoor
open Go.RowKit Go.Grid Go.Shelf

theorem resL_bd {S : Sy} (h : SyOk S) {x : List Int} (hv : VecOk S.f S.s S.a x) : Bd 450000000000000000 (resL S x) := by
  have h1 := rightL_bd h
  have h2 := multL_bd h hv
  intro z hz
  unfold resL lessL at hz
  rw [List.mem_iff_getElem] at hz
  obtain ⟨i, hi, rfl⟩ := hz
  rw [List.length_zipWith] at hi
  rw [List.getElem_zipWith]
  have := h1 _ (List.getElem_mem (show i < (rightL S).length by omega))
  have := h2 _ (List.getElem_mem (show i < (multL S x).length by omega))
  omega
theorem dot_abs {A B : Int} (hA : 0 ≤ A) (hB : 0 ≤ B) : ∀ x y : List Int, Bd A x → Bd B y → -((x.length : Int) * (A * B)) ≤ dotL x y ∧ dotL x y ≤ (x.length : Int) * (A * B)
  | [], y, _, _ => by rw [dotL_nil]; simp
  | a :: x, [], _, _ => by
    have := Int.mul_nonneg (show (0 : Int) ≤ ((a :: x).length : Nat) by omega) (Int.mul_nonneg hA hB)
    have e : dotL (a :: x) [] = 0 := rfl
    rw [e]; omega
  | a :: x, b :: y, hx, hy => by
    have ih := dot_abs hA hB x y (fun z hz => hx z (by simp [hz])) (fun z hz => hy z (by simp [hz]))
    have h1 := hx a (by simp)
    have h2 := hy b (by simp)
    have h3 : -(A * B) ≤ a * b ∧ a * b ≤ A * B := by
      have e1 : (a * b).natAbs ≤ A.natAbs * B.natAbs := by rw [Int.natAbs_mul]; exact Nat.mul_le_mul (by omega) (by omega)
      have e2 : (A * B).natAbs = A.natAbs * B.natAbs := Int.natAbs_mul A B
      have e3 := Int.mul_nonneg hA hB
      omega
    have e4 : dotL (a :: x) (b :: y) = a * b + dotL x y := rfl
    rw [e4]
    simp only [List.length_cons, Int.natCast_add, Int.add_mul]
    omega
theorem low_step (a k : Nat) : a % 2 ^ (k + 1) = a % 2 ^ k + 2 ^ k * (a / 2 ^ k % 2) := by
  rw [Nat.pow_succ, Nat.mod_mul]
theorem low_stepI {a : Int} (ha : 0 ≤ a) (k : Nat) : a % 2 ^ (k + 1) = a % 2 ^ k + 2 ^ k * (a / 2 ^ k % 2) := by
  obtain ⟨n, rfl⟩ := Int.eq_ofNat_of_zero_le ha
  have := low_step n k
  have e : ∀ j : Nat, (2 : Int) ^ j = ((2 ^ j : Nat) : Int) := fun j => by simp
  rw [e, e]
  exact_mod_cast this
theorem i64_and1 (n : Int) : bits .and .i64 n 1 = n % 2 := by
  have h1 : (BitVec.ofInt 64 1).toNat = 2 ^ 1 - 1 := by decide
  have key : (BitVec.ofInt 64 n &&& BitVec.ofInt 64 1).toNat = (n % ((2 ^ 64 : Nat) : Int)).toNat % 2 ^ 1 := by
    rw [BitVec.toNat_and, BitVec.toNat_ofInt, h1, Nat.and_two_pow_sub_one_eq_mod]
  show IntKind.i64.wrap ((BitVec.ofInt 64 n &&& BitVec.ofInt 64 1).toNat : Nat) = n % 2
  rw [key, IntKind.wrap_i64]
  omega
/-- The two wide integers of the loop, in the blocks g and g + 1. -/
def QL (w : World) (g : Nat) (q1 q2 l1 l2 : Int) : Prop := w.cell? ⟨g, 0, none⟩ = some (.int .i64 q1) ∧ w.cell? ⟨g, 1, none⟩ = some (.int .u64 q2) ∧ w.cell? ⟨g + 1, 0, none⟩ = some (.int .i64 l1) ∧ w.cell? ⟨g + 1, 1, none⟩ = some (.int .u64 l2) ∧ w.frozen? ⟨g, 0, none⟩ = false ∧ w.frozen? ⟨g, 1, none⟩ = false ∧ w.frozen? ⟨g + 1, 0, none⟩ = false ∧ w.frozen? ⟨g + 1, 1, none⟩ = false
theorem QL.lt {w : World} {g : Nat} {q1 q2 l1 l2 : Int} (h : QL w g q1 q2 l1 l2) : g + 1 < w.heap.size := World.block_lt_of_cell? _ _ h.2.2.1
theorem QL.below {w w' : World} {g : Nat} {q1 q2 l1 l2 : Int} (h : QL w g q1 q2 l1 l2) (hb : Below w.heap.size w w') : QL w' g q1 q2 l1 l2 := by
  have h0 := h.lt
  obtain ⟨a, b, c, d, e, f, i, j⟩ := h
  exact ⟨RX.keep hb a, RX.keep hb b, RX.keep hb c, RX.keep hb d, (hb.frozen (p := ⟨g, 0, none⟩) (show g < w.heap.size by omega)).trans e, (hb.frozen (p := ⟨g, 1, none⟩) (show g < w.heap.size by omega)).trans f, (hb.frozen (p := ⟨g + 1, 0, none⟩) (show g + 1 < w.heap.size by omega)).trans i, (hb.frozen (p := ⟨g + 1, 1, none⟩) (show g + 1 < w.heap.size by omega)).trans j⟩
theorem QL.setL {w : World} {g : Nat} {q1 q2 l1 l2 : Int} (h : QL w g q1 q2 l1 l2) (x y : Int) : QL ((w.setCell ⟨g + 1, 0, none⟩ (.int .i64 x)).setCell ⟨g + 1, 1, none⟩ (.int .u64 y)) g q1 q2 x y := by
  obtain ⟨a, b, c, d, e, f, i, j⟩ := h
  refine ⟨?_, ?_, ?_, ?_, by rw [World.frozen?_setCell, World.frozen?_setCell]; exact e, by rw [World.frozen?_setCell, World.frozen?_setCell]; exact f, by rw [World.frozen?_setCell, World.frozen?_setCell]; exact i, by rw [World.frozen?_setCell, World.frozen?_setCell]; exact j⟩
  · rw [World.cell?_setCell_other _ _ _ _ (by simp), World.cell?_setCell_other _ _ _ _ (by simp)]; exact a
  · rw [World.cell?_setCell_other _ _ _ _ (by simp), World.cell?_setCell_other _ _ _ _ (by simp)]; exact b
  · rw [World.cell?_setCell_other _ _ _ _ (by simp)]; exact World.cell?_setCell_same' _ _ _ (by rw [c]; rfl)
  · exact World.cell?_setCell_same' _ _ _ (by rw [World.cell?_setCell_other _ _ _ _ (by simp), d]; rfl)
theorem QL.setQ {w : World} {g : Nat} {q1 q2 l1 l2 : Int} (h : QL w g q1 q2 l1 l2) (x y : Int) : QL ((w.setCell ⟨g, 0, none⟩ (.int .i64 x)).setCell ⟨g, 1, none⟩ (.int .u64 y)) g x y l1 l2 := by
  obtain ⟨a, b, c, d, e, f, i, j⟩ := h
  refine ⟨?_, ?_, ?_, ?_, by rw [World.frozen?_setCell, World.frozen?_setCell]; exact e, by rw [World.frozen?_setCell, World.frozen?_setCell]; exact f, by rw [World.frozen?_setCell, World.frozen?_setCell]; exact i, by rw [World.frozen?_setCell, World.frozen?_setCell]; exact j⟩
  · rw [World.cell?_setCell_other _ _ _ _ (by simp)]; exact World.cell?_setCell_same' _ _ _ (by rw [a]; rfl)
  · exact World.cell?_setCell_same' _ _ _ (by rw [World.cell?_setCell_other _ _ _ _ (by simp), b]; rfl)
  · rw [World.cell?_setCell_other _ _ _ _ (by simp), World.cell?_setCell_other _ _ _ _ (by simp)]; exact c
  · rw [World.cell?_setCell_other _ _ _ _ (by simp), World.cell?_setCell_other _ _ _ _ (by simp)]; exact d
theorem compare_wv2 (p q : Int) (v u : Value) (w : World) (hv : v = wv p) (hu : u = wv q) (hp : -170141183460469231731687303715884105728 ≤ p) (hp' : p < 170141183460469231731687303715884105728) (hq : -170141183460469231731687303715884105728 ≤ q) (hq' : q < 170141183460469231731687303715884105728) :
    Calls Tryz.prog 36 #[v, u] w fun e w' => e = .returned (.int .i64 (sgn p q)) ∧ Below w.heap.size w w' := by
  subst hv hu; exact compare_wv p q w hp hp' hq hq'
set_option maxRecDepth 100000 in
set_option maxHeartbeats 4000000 in
theorem exp_law (W : World) (q : Option Addr) (cap cb co : Nat) (L : List Int) (hp : 0 < L.length → q = some ⟨cb, co, none⟩) (hl : L.length ≤ cap) (hc : cap ≤ 9223372036854775807)
    (hcell : ∀ k (h : k < L.length), W.cell? ⟨cb, co + k, none⟩ = some (.int .u8 L[k]) ∧ 0 ≤ L[k] ∧ L[k] < 256) (hT : HasTab W) :
    Calls Tryz.prog 5 #[.slice q L.length cap] W fun e w' => e = .returned (.bool true) ∧ Below W.heap.size W w' := by
  have HIN := Lib.hid (And.intro hp hcell)
  clear hp hcell
  go_enter Tryz.func5, Tryz.ntmps5
  go_wp2_with fail
  refine (awake23_any W hT).mono ?_
  rintro e w1 ⟨rfl, hB⟩
  go_wp2_with fail
  refine (start_any W q cap cb co 240 L w1 (by omega) HIN.out.1 hl hc HIN.out.2 hB).mono ?_
  rintro e w2 ⟨g, b, M, rfl, hg, hb2, hbM, hC⟩
  have hgW : W.heap.size ≤ g := by have := hB.size; omega
  replace hB := hB.trans (hb2.mono hB.size)
  have hgl := hC.lt
  have hbg : 0 < M.length → b < g := fun h0 => by have := hbM h0; omega
  clear hb2 hbM hg HIN hl hc
  clear w1
  go_wp2_with fail
  refine (csys_any w2 g b M 0 6 hC (by omega)).mono ?_
  rintro e w3 ⟨v, S, rfl, hSO, hOk, hPC, hSr, hg3, j3, hC3⟩
  replace hB := hB.grown hg3 hB.size (fun k hk => by injection hk with hk; omega)
  have hs3 := hg3.size
  have hb0 := hOk.nodes
  obtain ⟨hn1, hn2, hn3⟩ := hb0
  have hf := hPC.1
  clear hC hg3 hPC hSr
  have HSI := Lib.hid hSO.sysin
  obtain ⟨p1, d1, p2, d2, rfl, -⟩ := hSO.sysin
  go_wp2_with fail
  have hP : Five (w3.alloc (.cells #[.int .i64 S.f, .int .i64 S.s, .int .i64 S.a, .slice p1 S.rows.length d1, .slice p2 S.targets.length d2] 27)) w3.heap.size S.f S.s S.a (.slice p1 S.rows.length d1) (.slice p2 S.targets.length d2) := ⟨(by simp [RX.cell_drew, RX.cell_alloc, Nat.add_assoc]), (by simp [RX.cell_drew, RX.cell_alloc, Nat.add_assoc]), (by simp [RX.cell_drew, RX.cell_alloc, Nat.add_assoc]), (by simp [RX.cell_drew, RX.cell_alloc, Nat.add_assoc]), (by simp [RX.cell_drew, RX.cell_alloc, Nat.add_assoc])⟩
  have hb4 := (Below.refl w3.heap.size w3).alloc (Nat.le_refl _) (.cells #[.int .i64 S.f, .int .i64 S.s, .int .i64 S.a, .slice p1 S.rows.length d1, .slice p2 S.targets.length d2] 27)
  replace hB := hB.trans (hb4.mono hB.size)
  replace hSO := hSO.grown (grw_below hb4 none) (fun k hk => by cases hk)
  have hC4 := hC3.below hb4
  have hs4 : w3.heap.size < (w3.alloc (.cells #[.int .i64 S.f, .int .i64 S.s, .int .i64 S.a, .slice p1 S.rows.length d1, .slice p2 S.targets.length d2] 27)).heap.size := by simp
  obtain ⟨P, hPe⟩ : ∃ P, P = w3.heap.size := ⟨_, rfl⟩
  have hgP : g < P := by omega
  have hgP2 : P ≠ g := by omega
  rw [← hPe] at hP hs4 ⊢
  clear hC3 hb4 hPe hs3 HSI
  generalize (w3.alloc (.cells #[.int .i64 S.f, .int .i64 S.s, .int .i64 S.a, .slice p1 S.rows.length d1, .slice p2 S.targets.length d2] 27)) = W4 at *
  clear w3
  have HVV : Hid ((.agg #[.int .i64 S.f, .int .i64 S.s, .int .i64 S.a, .slice p1 S.rows.length d1, .slice p2 S.targets.length d2] : Value) = .agg #[.int .i64 S.f, .int .i64 S.s, .int .i64 S.a, .slice p1 S.rows.length d1, .slice p2 S.targets.length d2]) := Lib.hid rfl
  refine (r22nodes_any S.f _ (by omega) (by omega)).mono ?_
  rintro e wq ⟨rfl, rfl⟩
  rw [← hn1]
  obtain ⟨n, hn⟩ : ∃ n, n = S.n := ⟨_, rfl⟩
  have HN := Lib.hid hn
  rw [← hn] at hn1 hn2 hn3 ⊢
  have HOK := Lib.hid hOk
  have HPR : Hid (∀ zs : List Int, zs.length = n → Within 1048576 zs → VecOk S.f S.s S.a zs) := Lib.hid (fun zs h1 h2 => ⟨HOK.out.1, by rw [h1]; exact hn1, small_within h2⟩)
  clear hn hn1 hOk hf
  go_wp2_with fail
  refine (cvec_any _ g b M j3 n 524288 hC4 (fun h0 => by have := hbg h0; omega) (by omega) (by omega)).mono ?_
  rintro e w5 ⟨vx, x, rfl, hxl, hxw, hxr, hg5, j5, hC5⟩
  replace hB := hB.grown hg5 hB.size (fun k hk => by injection hk with hk; omega)
  replace hP := hP.turn hg5 hgP2
  replace hSO := hSO.grown hg5 (fun k hk => by injection hk with hk; omega)
  have hs5 := hg5.size
  obtain ⟨px, cx, rfl, hVx⟩ := hxr.vec
  clear hC4 hg5 hVx
  go_wp2_with fail
  refine (cvec_any _ g b M j5 n 524288 hC5 (fun h0 => by have := hbg h0; omega) (by omega) (by omega)).mono ?_
  rintro e w6 ⟨vy, y, rfl, hyl, hyw, hyr, hg6, j6, hC6⟩
  replace hB := hB.grown hg6 hB.size (fun k hk => by injection hk with hk; omega)
  replace hP := hP.turn hg6 hgP2
  replace hSO := hSO.grown hg6 (fun k hk => by injection hk with hk; omega)
  replace hxr := hxr.kept hg6 (fun k hk => by injection hk with hk; omega)
  obtain ⟨py, cy, rfl, hVy⟩ := hyr.vec
  have hVx : VecAt w6 px x := hxr.vecAt
  have hSI := hSO.sysin
  clear hC5 hC6 hg6 hxr hyr hSO hs5 hs4 hgl hbg hgP hgP2 hgW
  have HXW : Hid (Within 524288 x) := Lib.hid hxw
  have HYW : Hid (Within 524288 y) := Lib.hid hyw
  try rw [hxl]
  try rw [hyl]
  have HXL := Lib.hid hxl
  have HYL := Lib.hid hyl
  clear hxw hyw hxl hyl
  have HRE : Hid (∀ (p : Option Addr) (xc : Nat) (z : List Int) (w' : World), HasTab w' → SysIn w' (.agg #[.int .i64 S.f, .int .i64 S.s, .int .i64 S.a, .slice p1 S.rows.length d1, .slice p2 S.targets.length d2]) S → VecAt w' p z → z.length = n → Within 1048576 z → Calls Tryz.prog 25 #[.agg #[.int .i64 S.f, .int .i64 S.s, .int .i64 S.a, .slice p1 S.rows.length d1, .slice p2 S.targets.length d2], .slice p n xc] w' fun e w'' => ∃ N, e = .returned (.tuple #[.slice (some ⟨N, 0, none⟩) n n, .int .i64 0]) ∧ VecAt w'' (some ⟨N, 0, none⟩) (resL S z) ∧ Below w'.heap.size w' w'') := Lib.hid (fun p xc z w' h1 h2 h3 h4 h5 => by
    have h := cresid_ok S _ p z xc w' h1 h2 HOK.out h3 (HPR.out z h4 h5)
    rw [h4, ← HN.out] at h
    refine h.mono ?_
    rintro e w'' ⟨N, rfl, hI, _, hb⟩
    exact ⟨N, rfl, vec_of_ints hI, hb⟩)
  have HCO : Hid (∀ (p : Option Addr) (xc : Nat) (z : List Int) (w' : World), HasTab w' → SysIn w' (.agg #[.int .i64 S.f, .int .i64 S.s, .int .i64 S.a, .slice p1 S.rows.length d1, .slice p2 S.targets.length d2]) S → VecAt w' p z → z.length = n → Within 1048576 z → Calls Tryz.prog 21 #[.agg #[.int .i64 S.f, .int .i64 S.s, .int .i64 S.a, .slice p1 S.rows.length d1, .slice p2 S.targets.length d2], .slice p n xc] w' fun e w'' => e = .returned (.tuple #[wv (costL S z), .int .i64 0]) ∧ Below w'.heap.size w' w'') := Lib.hid (fun p xc z w' h1 h2 h3 h4 h5 => by
    have h := ccost_ok S _ p z xc w' h1 h2 HOK.out h3 (HPR.out z h4 h5)
    rw [h4] at h
    exact h)
  have HM : Hid (∀ (p : Option Addr) (xc : Nat) (z : List Int) (w' : World), HasTab w' → SysIn w' (.agg #[.int .i64 S.f, .int .i64 S.s, .int .i64 S.a, .slice p1 S.rows.length d1, .slice p2 S.targets.length d2]) S → VecAt w' p z → z.length = n → Within 1048576 z → Calls Tryz.prog 23 #[.agg #[.int .i64 S.f, .int .i64 S.s, .int .i64 S.a, .slice p1 S.rows.length d1, .slice p2 S.targets.length d2], .slice p n xc] w' fun e w'' => ∃ N, e = .returned (.tuple #[.slice (some ⟨N, 0, none⟩) n n, .int .i64 0]) ∧ VecAt w'' (some ⟨N, 0, none⟩) (multL S z) ∧ Below w'.heap.size w' w'') := Lib.hid (fun p xc z w' h1 h2 h3 h4 h5 => by
    have h := cmult_ok S _ p z xc w' h1 h2 HOK.out h3 (HPR.out z h4 h5)
    rw [h4, ← HN.out] at h
    refine h.mono ?_
    rintro e w'' ⟨N, rfl, hI, _, hb⟩
    exact ⟨N, rfl, vec_of_ints hI, hb⟩)
  have HADDL : Hid ((addL x y).length = n) := Lib.hid (by rw [addL_len (by rw [HXL.out, HYL.out]), HXL.out])
  have HZW : Hid (Within 1048576 (addL x y)) := Lib.hid ((addL_within HXW.out HYW.out).mono (by omega))
  have HRL : Hid ((resL S x).length = n) := Lib.hid (by unfold resL; rw [lessL_len (by rw [rightL_len, multL_len, HXL.out, HN.out]), rightL_len, ← HN.out])
  have HML : Hid ((multL S y).length = n) := Lib.hid (by rw [multL_len, HYL.out])
  have HRB := Lib.hid (resL_bd HOK.out (HPR.out x HXL.out (HXW.out.mono (by omega))))
  have HMB := Lib.hid (multL_bd HOK.out (HPR.out y HYL.out (HYW.out.mono (by omega))))
  have HSUM : Hid (costL S (addL x y) + (dotL (resL S x) y + dotL (resL S x) y) = costL S x + dotL y (multL S y)) := Lib.hid (by
    rw [cost_add HOK.out (by rw [HXL.out, HN.out]) (by rw [HYL.out, HN.out]), dotL_comm y (multL S y)]; omega)
  have HGE : Hid (S.a * dotL y y ≤ dotL y (multL S y)) := Lib.hid (by
    rw [dotL_comm y (multL S y)]; exact form_ge HOK.out (by rw [HYL.out, HN.out]))
  have HA : Hid (0 ≤ S.a ∧ S.a ≤ 1000000) := Lib.hid (by have := HOK.out.1; unfold PrOk at this; omega)
  have HDA : Hid (-157286400000000000000000000 ≤ dotL y (multL S y) ∧ dotL y (multL S y) ≤ 157286400000000000000000000) := Lib.hid (by
    have h := dot_abs (A := 524288) (B := 300000000000000000) (by omega) (by omega) y (multL S y) (fun z hz => by have := HYW.out z hz; omega) HMB.out
    rw [HYL.out] at h
    omega)
  have HBAG := Lib.hid (And.intro hP (And.intro hSI (And.intro hVx hVy)))
  have HB := Lib.hid hB
  clear hP hSI hVx hVy hB
  go_wp2
  go_loopw [8, 41] (fun v i wr => ∃ (j : Nat) (T : List Int), j ≤ n ∧ i = .int .i64 j ∧ T.length = j ∧ Hid (T = addL (x.take j) (y.take j)) ∧ RowV wr w6.heap.size v T ∧ Below w6.heap.size w6 wr) (fun v i _ => n - (intOf i).toNat)
  case atStart => exact ⟨0, [], by omega, rfl, rfl, Lib.hid rfl, RowV.nil _ _, Below.refl _ _⟩
  case round =>
    obtain ⟨_, xs, hj, rfl, rfl, HX, hrow, hB⟩ := hrel
    by_cases hlt : xs.length < n
    · have hdk : decide ((xs.length : Int) < (n : Int)) = true := decide_eq_true (by omega)
      have hltx : xs.length < x.length := by rw [HXL.out]; exact hlt
      have hlty : xs.length < y.length := by rw [HYL.out]; exact hlt
      obtain ⟨b1, o1, rfl, hbl, hcell⟩ := HBAG.out.2.2.1.cell (by omega)
      obtain ⟨c1, o2, rfl, hcl, hcell2⟩ := HBAG.out.2.2.2.cell (by omega)
      have ck := RX.keep hB (hcell xs.length hltx)
      have dk := RX.keep hB (hcell2 xs.length hlty)
      have hbz := HXW.out x[xs.length] (List.getElem_mem _)
      have hby := HYW.out y[xs.length] (List.getElem_mem _)
      obtain ⟨a1, hx⟩ : ∃ a1, a1 = x[xs.length] := ⟨_, rfl⟩
      rw [← hx] at ck hbz
      obtain ⟨a2, hu⟩ : ∃ a2, a2 = y[xs.length] := ⟨_, rfl⟩
      rw [← hu] at dk hby
      have hstep : Hid (xs ++ [a1 + a2] = addL (x.take (xs.length + 1)) (y.take (xs.length + 1))) := Lib.hid (by
        rw [List.take_succ_eq_append_getElem hltx, List.take_succ_eq_append_getElem hlty, ← hx, ← hu]
        have e := HX.out
        unfold addL at e ⊢
        rw [List.zipWith_append (by simp; omega), ← e]; rfl)
      obtain ⟨yy, hy⟩ : ∃ yy, a1 + a2 = yy := ⟨_, rfl⟩
      rw [hy] at hstep
      clear hx hu hcell hcell2
      obtain ⟨p8, c8, rfl, hc8⟩ := own_slice hrow
      have hs1 := hB.size
      have hown := World.ownsRow.alloc hrow (.cells #[.int .i64 yy] 3)
      clear hrow
      have HB1 := Lib.hid hB
      clear hB
      have hxy : -4611686018427387904 ≤ yy ∧ yy ≤ 4611686018427387904 := by omega
      have hjx0 : (0 : Int) ≤ (xs.length : Int) := by omega
      have hjxI : (xs.length : Int) < (n : Int) := by omega
      go_wp2
      refine RY.region RX.fL (fun w' => w'.cell? ⟨b1, o1 + xs.length, none⟩ = some (.int .i64 a1) ∧ w'.cell? ⟨c1, o2 + xs.length, none⟩ = some (.int .i64 a2)) (by kernel_rfl) (by kernel_rfl) (⟨ck, dk⟩) (fun OPS HO QR hQR => ?_)
      repeat
        refine RY.step (fun R hR => ?_)
        first
        | (refine RY.one_skip (by first | rfl | (rw [HO.out]; rfl)) (by simp only [RX.put_some, RX.put_none, List.set_cons_zero, List.set_cons_succ]; rfl) ?_
           refine hR _ _ ?_; clear hR R)
        | (refine RY.one_move (by first | rfl | (rw [HO.out]; rfl)) rfl (by first | exact Or.inl rfl | exact Or.inr rfl) (by simp only [RX.eval_tmp, RX.eval_const, List.getD_cons_zero, List.getD_cons_succ]; rfl) (by simp only [RX.put_some, RX.put_none, List.set_cons_zero, List.set_cons_succ]; rfl) ?_
           refine hR _ _ ?_; clear hR R)
        | (refine RY.one_nil (by first | rfl | (rw [HO.out]; rfl)) rfl rfl (by simp only [RX.eval_tmp, RX.eval_const, List.getD_cons_zero, List.getD_cons_succ]; rfl) (by simp only [RX.put_some, RX.put_none, List.set_cons_zero, List.set_cons_succ]; rfl) ?_
           refine hR _ _ ?_; clear hR R)
        | (refine RY.one_float (by first | rfl | (rw [HO.out]; rfl)) rfl rfl rfl ?_
           apply Exists.intro; apply Exists.intro
           refine ⟨fun w' hS K hK => ?_, ?_, ?_⟩
           · obtain ⟨hS1, hS2⟩ := hS; go_wp2; exact hK _ _ (by simp only [RX.arr_getD, List.getD_cons_zero, List.getD_cons_succ]; first | exact RX.dec_t (by omega) | exact RX.dec_f (by omega) | exact RX.beq_t (by omega) | exact RX.beq_f (by omega) | exact RX.bne_t (by omega) | exact RX.bne_f (by omega) | exact RX.bneB _ | rfl) rfl
           · simp only [RX.put_some, RX.put_none, List.set_cons_zero, List.set_cons_succ]; rfl
           refine hR _ _ ?_; clear hR R)
      refine RY.step (fun R hR => ?_)
      refine RY.one_chain (by first | rfl | (rw [HO.out]; rfl)) rfl (fun K hK => ?_)
      go_wp2
      refine ⟨.inr (⟨(by (try have hLt := World.block_lt_of_cell? _ _ ck); (try simp only at hLt); (repeat first | rw [RX.cell_drew] | rw [World.cell?_setCell_other _ _ _ _ (by first | (simp; done) | (simp; omega) | omega)] | rw [RX.cell_alloc, if_neg (by first | (simp; done) | (simp; omega) | omega)]); first | exact ck | (rw [RX.cell_alloc, if_pos (by first | (simp; done) | omega)]; exact ck)), (by (try have hLt := World.block_lt_of_cell? _ _ dk); (try simp only at hLt); (repeat first | rw [RX.cell_drew] | rw [World.cell?_setCell_other _ _ _ _ (by first | (simp; done) | (simp; omega) | omega)] | rw [RX.cell_alloc, if_neg (by first | (simp; done) | (simp; omega) | omega)]); first | exact dk | (rw [RX.cell_alloc, if_pos (by first | (simp; done) | omega)]; exact dk))⟩), hR _ _ ?_⟩; clear hR R
      repeat
        refine RY.step (fun R hR => ?_)
        first
        | (refine RY.one_skip (by first | rfl | (rw [HO.out]; rfl)) (by simp only [RX.put_some, RX.put_none, List.set_cons_zero, List.set_cons_succ]; rfl) ?_
           refine hR _ _ ?_; clear hR R)
        | (refine RY.one_move (by first | rfl | (rw [HO.out]; rfl)) rfl (by first | exact Or.inl rfl | exact Or.inr rfl) (by simp only [RX.eval_tmp, RX.eval_const, List.getD_cons_zero, List.getD_cons_succ]; rfl) (by simp only [RX.put_some, RX.put_none, List.set_cons_zero, List.set_cons_succ]; rfl) ?_
           refine hR _ _ ?_; clear hR R)
        | (refine RY.one_nil (by first | rfl | (rw [HO.out]; rfl)) rfl rfl (by simp only [RX.eval_tmp, RX.eval_const, List.getD_cons_zero, List.getD_cons_succ]; rfl) (by simp only [RX.put_some, RX.put_none, List.set_cons_zero, List.set_cons_succ]; rfl) ?_
           refine hR _ _ ?_; clear hR R)
        | (refine RY.one_float (by first | rfl | (rw [HO.out]; rfl)) rfl rfl rfl ?_
           apply Exists.intro; apply Exists.intro
           refine ⟨fun w' hS K hK => ?_, ?_, ?_⟩
           · obtain ⟨hS1, hS2⟩ := hS; go_wp2; exact hK _ _ (by simp only [RX.arr_getD, List.getD_cons_zero, List.getD_cons_succ]; first | exact RX.dec_t (by omega) | exact RX.dec_f (by omega) | exact RX.beq_t (by omega) | exact RX.beq_f (by omega) | exact RX.bne_t (by omega) | exact RX.bne_f (by omega) | exact RX.bneB _ | rfl) rfl
           · simp only [RX.put_some, RX.put_none, List.set_cons_zero, List.set_cons_succ]; rfl
           refine hR _ _ ?_; clear hR R)
      refine RY.step (fun R hR => ?_)
      refine RY.one_chain (by first | rfl | (rw [HO.out]; rfl)) rfl (fun K hK => ?_)
      refine RX.wp_app elInt _ _ rfl w6.heap.size _ _ _ (hown.drew) (by simp only [RX.eval_tmp, RX.eval_const, List.getD_cons_zero, List.getD_cons_succ]) wr.heap.size _ 1 (by simp only [RX.eval_tmp, RX.eval_const, List.getD_cons_zero, List.getD_cons_succ]) (heap_alloc_new _ _) rfl (by simp [Value.oneCell']) (by omega) (by omega) (by simp; omega) (fun v' w2 hown2 hb2 hg2 hat2 => ?_)
      have hlow : ∀ q, (Value.slice p8 xs.length c8).ownBlock = some q → w6.heap.size ≤ q := fun q hq => (World.ownsRow.lt hown q hq).1
      have HB2 : Hid (Below w6.heap.size w6 w2) := Lib.hid ((HB1.out.alloc (by omega) _).drew.grown hg2 (by simp; omega) hlow)
      have HR2 : Hid (RowV w2 w6.heap.size v' (xs ++ [yy])) := Lib.hid (RowV.snoc hown2)
      have x2 : w2.cell? ⟨b1, o1 + xs.length, none⟩ = some (.int .i64 a1) := hg2.cell (a := ⟨b1, o1 + xs.length, none⟩) (by (try have hLt := World.block_lt_of_cell? _ _ ck); (try simp only at hLt); (repeat first | rw [RX.cell_drew] | rw [World.cell?_setCell_other _ _ _ _ (by first | (simp; done) | (simp; omega) | omega)] | rw [RX.cell_alloc, if_neg (by first | (simp; done) | (simp; omega) | omega)]); first | exact ck | (rw [RX.cell_alloc, if_pos (by first | (simp; done) | omega)]; exact ck)) (fun e => by have := hlow b1 e.symm; omega)
      have y2 : w2.cell? ⟨c1, o2 + xs.length, none⟩ = some (.int .i64 a2) := hg2.cell (a := ⟨c1, o2 + xs.length, none⟩) (by (try have hLt := World.block_lt_of_cell? _ _ dk); (try simp only at hLt); (repeat first | rw [RX.cell_drew] | rw [World.cell?_setCell_other _ _ _ _ (by first | (simp; done) | (simp; omega) | omega)] | rw [RX.cell_alloc, if_neg (by first | (simp; done) | (simp; omega) | omega)]); first | exact dk | (rw [RX.cell_alloc, if_pos (by first | (simp; done) | omega)]; exact dk)) (fun e => by have := hlow c1 e.symm; omega)
      refine hK _ _ ⟨.inr (⟨x2, y2⟩), ?_⟩; clear hK K; refine RY.at_ (by simp only [RX.put_some, RX.put_none, List.set_cons_zero, List.set_cons_succ]; rfl) (hR _ _ ?_); clear hR R
      repeat
        refine RY.step (fun R hR => ?_)
        first
        | (refine RY.one_skip (by first | rfl | (rw [HO.out]; rfl)) (by simp only [RX.put_some, RX.put_none, List.set_cons_zero, List.set_cons_succ]; rfl) ?_
           refine hR _ _ ?_; clear hR R)
        | (refine RY.one_move (by first | rfl | (rw [HO.out]; rfl)) rfl (by first | exact Or.inl rfl | exact Or.inr rfl) (by simp only [RX.eval_tmp, RX.eval_const, List.getD_cons_zero, List.getD_cons_succ]; rfl) (by simp only [RX.put_some, RX.put_none, List.set_cons_zero, List.set_cons_succ]; rfl) ?_
           refine hR _ _ ?_; clear hR R)
        | (refine RY.one_nil (by first | rfl | (rw [HO.out]; rfl)) rfl rfl (by simp only [RX.eval_tmp, RX.eval_const, List.getD_cons_zero, List.getD_cons_succ]; rfl) (by simp only [RX.put_some, RX.put_none, List.set_cons_zero, List.set_cons_succ]; rfl) ?_
           refine hR _ _ ?_; clear hR R)
        | (refine RY.one_float (by first | rfl | (rw [HO.out]; rfl)) rfl rfl rfl ?_
           apply Exists.intro; apply Exists.intro
           refine ⟨fun w' hS K hK => ?_, ?_, ?_⟩
           · obtain ⟨hS1, hS2⟩ := hS; go_wp2; exact hK _ _ (by simp only [RX.arr_getD, List.getD_cons_zero, List.getD_cons_succ]; first | exact RX.dec_t (by omega) | exact RX.dec_f (by omega) | exact RX.beq_t (by omega) | exact RX.beq_f (by omega) | exact RX.bne_t (by omega) | exact RX.bne_f (by omega) | exact RX.bneB _ | rfl) rfl
           · simp only [RX.put_some, RX.put_none, List.set_cons_zero, List.set_cons_succ]; rfl
           refine hR _ _ ?_; clear hR R)
      refine RY.wpL_nil (hQR _ _ ?_); clear hQR QR HO OPS
      go_wp2
      go_roundw
      case rel => exact ⟨xs.length + 1, xs ++ [yy], by omega, by go_num, by simp, hstep, HR2.out, HB2.out⟩
      case measure => simp [intOf]; omega
    · have hdk : decide ((xs.length : Int) < (n : Int)) = false := decide_eq_false (by omega)
      have he : xs.length = n := by omega
      have HE : Hid (xs = addL x y) := Lib.hid (by rw [HX.out, he, List.take_of_length_le (by rw [HXL.out]; omega), List.take_of_length_le (by rw [HYL.out]; omega)])
      obtain ⟨pz, cz, rfl, hcz⟩ := own_slice hrow
      have hVz : VecAt wr pz xs := hrow.vecAt
      have hb12 := hB
      have hBW := HB.out.trans (hB.mono HB.out.size)
      have HXS := Lib.hid he
      obtain ⟨hP, hSI, hVx, hVy⟩ := HBAG.out
      replace hP := hP.below hb12
      replace hSI := hSI.below hb12
      replace hVx := hVx.below hb12
      replace hVy := hVy.below hb12
      rw [he]
      rw [HE.out] at hVz
      clear hb12 hB hrow HX HBAG HB he hcz
      have hB := hBW
      clear hBW
      obtain ⟨k0, k1, k2, k3, k4⟩ := hP
      go_wp2_with fail
      refine (HCO.out px cx x _ (hT.below hB) hSI hVx HXL.out (HXW.out.mono (by omega))).mono ?_
      rintro e w7 ⟨rfl, hbm⟩
      have hP : Five _ P S.f S.s S.a (.slice p1 S.rows.length d1) (.slice p2 S.targets.length d2) := ⟨k0, k1, k2, k3, k4⟩
      clear k0 k1 k2 k3 k4
      replace hB := hB.trans (hbm.mono hB.size)
      replace hP := hP.below hbm
      replace hSI := hSI.below hbm
      replace hVx := hVx.below hbm
      replace hVy := hVy.below hbm
      replace hVz := hVz.below hbm
      clear hbm
      obtain ⟨C1, D1, q1, q2, hS⟩ := wv_parts (costL S x)
      clear q1 q2
      rw [hS]
      have HC1 := Lib.hid hS
      clear hS
      have hP9 := hP
      have t1 : Duo (w7.alloc (.cells #[.int .i64 C1, .int .u64 D1] 49)) w7.heap.size C1 D1 := ⟨(by simp [RX.cell_drew, RX.cell_alloc, Nat.add_assoc]), (by simp [RX.cell_drew, RX.cell_alloc, Nat.add_assoc])⟩
      have hbm := (Below.refl w7.heap.size w7).alloc (Nat.le_refl _) (.cells #[.int .i64 C1, .int .u64 D1] 49)
      replace hB := hB.trans (hbm.mono hB.size)
      replace hP := hP.below hbm
      replace hSI := hSI.below hbm
      replace hVx := hVx.below hbm
      replace hVy := hVy.below hbm
      replace hVz := hVz.below hbm
      clear hbm
      obtain ⟨z0, z1, z2, z3, z4⟩ := hP9
      have hPl : P < w7.heap.size := World.block_lt_of_cell? _ _ z0
      go_wp2_with fail
      clear z0 z1 z2 z3 z4 hPl
      obtain ⟨g1, hgi⟩ : ∃ g, g = w7.heap.size := ⟨_, rfl⟩
      rw [← hgi] at t1 ⊢
      clear hgi
      generalize (w7.alloc (.cells #[.int .i64 C1, .int .u64 D1] 49)) = V7 at *
      clear w7
      refine (HCO.out pz cz (addL x y) _ (hT.below hB) hSI hVz HADDL.out HZW.out).mono ?_
      rintro e w8 ⟨rfl, hbm⟩
      replace hB := hB.trans (hbm.mono hB.size)
      replace hP := hP.below hbm
      replace hSI := hSI.below hbm
      replace hVx := hVx.below hbm
      replace hVy := hVy.below hbm
      replace hVz := hVz.below hbm
      replace t1 := t1.below hbm
      clear hbm
      obtain ⟨C2, D2, q1, q2, hS⟩ := wv_parts (costL S (addL x y))
      clear q1 q2
      rw [hS]
      have HC2 := Lib.hid hS
      clear hS
      have hP9 := hP
      have t2 : Duo (w8.alloc (.cells #[.int .i64 C2, .int .u64 D2] 49)) w8.heap.size C2 D2 := ⟨(by simp [RX.cell_drew, RX.cell_alloc, Nat.add_assoc]), (by simp [RX.cell_drew, RX.cell_alloc, Nat.add_assoc])⟩
      have hbm := (Below.refl w8.heap.size w8).alloc (Nat.le_refl _) (.cells #[.int .i64 C2, .int .u64 D2] 49)
      replace hB := hB.trans (hbm.mono hB.size)
      replace hP := hP.below hbm
      replace hSI := hSI.below hbm
      replace hVx := hVx.below hbm
      replace hVy := hVy.below hbm
      replace hVz := hVz.below hbm
      replace t1 := t1.below hbm
      clear hbm
      obtain ⟨z0, z1, z2, z3, z4⟩ := hP9
      have hPl : P < w8.heap.size := World.block_lt_of_cell? _ _ z0
      go_wp2_with fail
      clear z0 z1 z2 z3 z4 hPl
      obtain ⟨g2, hgi⟩ : ∃ g, g = w8.heap.size := ⟨_, rfl⟩
      rw [← hgi] at t2 ⊢
      clear hgi
      generalize (w8.alloc (.cells #[.int .i64 C2, .int .u64 D2] 49)) = V8 at *
      clear w8
      refine (HRE.out px cx x _ (hT.below hB) hSI hVx HXL.out (HXW.out.mono (by omega))).mono ?_
      rintro e w9 ⟨A, rfl, hVA, hbm⟩
      replace hB := hB.trans (hbm.mono hB.size)
      replace hP := hP.below hbm
      replace hSI := hSI.below hbm
      replace hVx := hVx.below hbm
      replace hVy := hVy.below hbm
      replace hVz := hVz.below hbm
      replace t1 := t1.below hbm
      replace t2 := t2.below hbm
      clear hbm
      obtain ⟨k0, k1, k2, k3, k4⟩ := hP
      go_wp2_with fail
      refine (HM.out py cy y _ (hT.below hB) hSI hVy HYL.out (HYW.out.mono (by omega))).mono ?_
      rintro e w10 ⟨B, rfl, hVB, hbm⟩
      have hP : Five _ P S.f S.s S.a (.slice p1 S.rows.length d1) (.slice p2 S.targets.length d2) := ⟨k0, k1, k2, k3, k4⟩
      clear k0 k1 k2 k3 k4
      replace hB := hB.trans (hbm.mono hB.size)
      replace hP := hP.below hbm
      replace hSI := hSI.below hbm
      replace hVx := hVx.below hbm
      replace hVy := hVy.below hbm
      replace hVz := hVz.below hbm
      replace t1 := t1.below hbm
      replace t2 := t2.below hbm
      replace hVA := hVA.below hbm
      clear hbm
      go_wp2_with fail
      refine (dot_at _ py (resL S x) y n cy n _ HRL.out HYL.out hVA hVy (by omega) (i64_bd HRB.out (by omega)) (i64_within HYW.out (by omega))).mono ?_
      rintro e w11 ⟨rfl, hbm⟩
      replace hB := hB.trans (hbm.mono hB.size)
      replace hP := hP.below hbm
      replace hSI := hSI.below hbm
      replace hVx := hVx.below hbm
      replace hVy := hVy.below hbm
      replace hVz := hVz.below hbm
      replace t1 := t1.below hbm
      replace t2 := t2.below hbm
      replace hVA := hVA.below hbm
      replace hVB := hVB.below hbm
      clear hbm
      obtain ⟨C3, D3, q1, q2, hS⟩ := wv_parts (dotL (resL S x) y)
      clear q1 q2
      rw [hS]
      have HC3 := Lib.hid hS
      clear hS
      have t3 : Duo (w11.alloc (.cells #[.int .i64 C3, .int .u64 D3] 49)) w11.heap.size C3 D3 := ⟨(by simp [RX.cell_drew, RX.cell_alloc, Nat.add_assoc]), (by simp [RX.cell_drew, RX.cell_alloc, Nat.add_assoc])⟩
      have hbm := (Below.refl w11.heap.size w11).alloc (Nat.le_refl _) (.cells #[.int .i64 C3, .int .u64 D3] 49)
      replace hB := hB.trans (hbm.mono hB.size)
      replace hP := hP.below hbm
      replace hSI := hSI.below hbm
      replace hVx := hVx.below hbm
      replace hVy := hVy.below hbm
      replace hVz := hVz.below hbm
      replace t1 := t1.below hbm
      replace t2 := t2.below hbm
      replace hVA := hVA.below hbm
      replace hVB := hVB.below hbm
      clear hbm
      go_wp2_with fail
      obtain ⟨g3, hgi⟩ : ∃ g, g = w11.heap.size := ⟨_, rfl⟩
      rw [← hgi] at t3 ⊢
      clear hgi
      generalize (w11.alloc (.cells #[.int .i64 C3, .int .u64 D3] 49)) = V11 at *
      clear w11
      refine (dot_at py _ y (multL S y) cy n n _ HYL.out HML.out hVy hVB (by omega) (i64_within HYW.out (by omega)) (i64_bd HMB.out (by omega))).mono ?_
      rintro e w12 ⟨rfl, hbm⟩
      replace hB := hB.trans (hbm.mono hB.size)
      replace hP := hP.below hbm
      replace hSI := hSI.below hbm
      replace hVx := hVx.below hbm
      replace hVy := hVy.below hbm
      replace hVz := hVz.below hbm
      replace t1 := t1.below hbm
      replace t2 := t2.below hbm
      replace hVA := hVA.below hbm
      replace hVB := hVB.below hbm
      replace t3 := t3.below hbm
      clear hbm
      obtain ⟨C4, D4, q1, q2, hS⟩ := wv_parts (dotL y (multL S y))
      clear q1 q2
      rw [hS]
      have HC4 := Lib.hid hS
      clear hS
      have t4 : Duo (w12.alloc (.cells #[.int .i64 C4, .int .u64 D4] 49)) w12.heap.size C4 D4 := ⟨(by simp [RX.cell_drew, RX.cell_alloc, Nat.add_assoc]), (by simp [RX.cell_drew, RX.cell_alloc, Nat.add_assoc])⟩
      have hbm := (Below.refl w12.heap.size w12).alloc (Nat.le_refl _) (.cells #[.int .i64 C4, .int .u64 D4] 49)
      replace hB := hB.trans (hbm.mono hB.size)
      replace hP := hP.below hbm
      replace hSI := hSI.below hbm
      replace hVx := hVx.below hbm
      replace hVy := hVy.below hbm
      replace hVz := hVz.below hbm
      replace t1 := t1.below hbm
      replace t2 := t2.below hbm
      replace hVA := hVA.below hbm
      replace hVB := hVB.below hbm
      replace t3 := t3.below hbm
      clear hbm
      go_wp2_with fail
      obtain ⟨g4, hgi⟩ : ∃ g, g = w12.heap.size := ⟨_, rfl⟩
      rw [← hgi] at t4 ⊢
      clear hgi
      generalize (w12.alloc (.cells #[.int .i64 C4, .int .u64 D4] 49)) = V12 at *
      clear w12
      refine (dot_at py py y y cy cy n _ HYL.out HYL.out hVy hVy (by omega) (i64_within HYW.out (by omega)) (i64_within HYW.out (by omega))).mono ?_
      rintro e w13 ⟨rfl, hbm⟩
      replace hB := hB.trans (hbm.mono hB.size)
      replace hP := hP.below hbm
      replace hSI := hSI.below hbm
      replace hVx := hVx.below hbm
      replace hVy := hVy.below hbm
      replace hVz := hVz.below hbm
      replace t1 := t1.below hbm
      replace t2 := t2.below hbm
      replace hVA := hVA.below hbm
      replace hVB := hVB.below hbm
      replace t3 := t3.below hbm
      replace t4 := t4.below hbm
      clear hbm hVx hVy hVz hVA hVB hSI
      obtain ⟨Dt, hDt⟩ : ∃ Dt, Dt = dotL y y := ⟨_, rfl⟩
      have HDN : Hid (0 ≤ Dt ∧ Dt ≤ 1099511627776000) := Lib.hid (by rw [hDt]; exact ⟨dot_nn y, by have h := dot_bd y (small_within (HYW.out.mono (by omega))); rw [HYL.out] at h; omega⟩)
      have HGE2 : Hid (S.a * Dt ≤ dotL y (multL S y)) := Lib.hid (by rw [hDt]; exact HGE.out)
      rw [← hDt]
      clear hDt
      obtain ⟨C5, D5, q1, q2, hS⟩ := wv_parts (Dt)
      clear q1 q2
      rw [hS]
      have HC5 := Lib.hid hS
      clear hS
      have HQ0 : Hid (wv (2 ^ 0 * Dt) = .agg #[.int .i64 C5, .int .u64 D5]) := Lib.hid (by rw [show (2 : Int) ^ 0 * Dt = Dt by simp]; exact HC5.out)
      have HL0 : Hid (wv (S.a % 2 ^ 0 * Dt) = .agg #[.int .i64 0, .int .u64 0]) := Lib.hid (by rw [show S.a % (2 : Int) ^ 0 * Dt = 0 by simp [Int.emod_one]]; exact wv_zero.symm)
      clear HC5
      obtain ⟨z0, z1, z2, z3, z4⟩ := hP
      have hPl : P < w13.heap.size := World.block_lt_of_cell? _ _ z0
      obtain ⟨N, hN⟩ : ∃ N, N = w13.heap.size := ⟨_, rfl⟩
      have hPN : P < N := by omega
      have HTL : Hid (g1 < N ∧ g2 < N ∧ g3 < N ∧ g4 < N) := Lib.hid (by rw [hN]; exact ⟨World.block_lt_of_cell? _ _ t1.1, World.block_lt_of_cell? _ _ t2.1, World.block_lt_of_cell? _ _ t3.1, World.block_lt_of_cell? _ _ t4.1⟩)
      go_wp2
      refine absW (F := fun w' => w'.cell? ⟨P, 2, none⟩ = some (.int .i64 S.a) ∧ QL w' w13.heap.size C5 D5 0 0 ∧ Below w13.heap.size w13 w') ⟨(by (try have hLt := World.block_lt_of_cell? _ _ z2); (try simp only at hLt); (repeat first | rw [RX.cell_drew] | rw [World.cell?_setCell_other _ _ _ _ (by first | (simp; done) | (simp; omega) | omega)] | rw [RX.cell_alloc, if_neg (by first | (simp; done) | (simp; omega) | omega)]); first | exact z2 | (rw [RX.cell_alloc, if_pos (by first | (simp; done) | omega)]; exact z2)), ⟨(by simp [RX.cell_drew, RX.cell_alloc, Nat.add_assoc]), (by simp [RX.cell_drew, RX.cell_alloc, Nat.add_assoc]), (by simp [RX.cell_drew, RX.cell_alloc, Nat.add_assoc]), (by simp [RX.cell_drew, RX.cell_alloc, Nat.add_assoc]), by simp, by simp, by simp, by simp⟩, (by repeat (first | (with_reducible assumption) | (with_reducible exact Below.refl _ _) | (with_reducible refine Below.setCell ?_ (by first | omega | (simp; done) | (simp; omega)) _) | (with_reducible refine Below.alloc ?_ (by first | omega | (simp; done) | (simp; omega)) _) | (with_reducible apply Below.drew) | assumption))⟩ ?_
      rintro W4 ⟨s0, hQL, hb4⟩
      clear z0 z1 z2 z3 z4 hPl
      have hWN : W.heap.size ≤ N := by have := hB.size; omega
      replace hB := hB.trans (hb4.mono hB.size)
      replace t1 := t1.below hb4
      replace t2 := t2.below hb4
      replace t3 := t3.below hb4
      replace t4 := t4.below hb4
      rw [← hN] at hQL ⊢
      have hN4 : N ≤ W4.heap.size := by have := hb4.size; omega
      have HT := Lib.hid (And.intro t1 (And.intro t2 (And.intro t3 t4)))
      have HB := Lib.hid hB
      clear t1 t2 t3 t4 hB hb4 hN w13
      go_loopw [22] (fun i wr => ∃ (k : Nat) (L1 L2 Q1 Q2 : Int), k ≤ 20 ∧ i = .int .i64 k ∧ Hid (wv (S.a % 2 ^ k * Dt) = .agg #[.int .i64 L1, .int .u64 L2]) ∧ Hid (wv (2 ^ k * Dt) = .agg #[.int .i64 Q1, .int .u64 Q2]) ∧ QL wr N Q1 Q2 L1 L2 ∧ wr.cell? ⟨P, 2, none⟩ = some (.int .i64 S.a) ∧ Below N W4 wr) (fun i _ => 20 - (intOf i).toNat)
      case atStart => exact ⟨0, 0, 0, C5, D5, by omega, rfl, HL0, HQ0, hQL, s0, Below.refl _ _⟩
      case round =>
        clear hQL s0
        obtain ⟨k, L1, L2, Q1, Q2, hk, rfl, HL, HQ, hQL, s0, hbr⟩ := hrel
        by_cases hlt : k < 20
        · have hdk : decide ((k : Int) < 20) = true := decide_eq_true (by omega)
          have HBR := Lib.hid hbr
          have hNr : N + 1 < wr.heap.size := hQL.lt
          clear hbr
          have hk64 : ((k : Int)).toNat = k := by omega
          rcases Int.emod_two_eq (S.a / 2 ^ k) with hbit | hbit
          · have hb1 : (bits .and .i64 (S.a / 2 ^ k) 1 == 1) = false := by rw [i64_and1, hbit]; rfl
            have HL1 : Hid (wv (S.a % 2 ^ (k + 1) * Dt) = .agg #[.int .i64 L1, .int .u64 L2]) := Lib.hid (by
              rw [low_stepI HA.out.1, hbit, Int.mul_zero, Int.add_zero]; exact HL.out)
            have HQS : Hid (2 ^ k * Dt + 2 ^ k * Dt = 2 ^ (k + 1) * Dt) := Lib.hid (by rw [Int.pow_succ, Int.mul_assoc, Int.mul_comm 2 Dt, ← Int.mul_assoc]; omega)
            have HQL := Lib.hid hQL
            obtain ⟨q1, q2, q3, q4, -⟩ := hQL
            clear hbit
            go_wp2_with fail
            refine (add_at _ _ _ _ HQ.out.symm HQ.out.symm _).mono ?_
            rintro e w21 ⟨rfl, hbm⟩
            rw [HQS.out]
            obtain ⟨R1, R2, e1, e2, hS⟩ := wv_parts (2 ^ (k + 1) * Dt)
            clear e1 e2
            rw [hS]
            have HQ1 := Lib.hid hS
            have hQL2 := HQL.out.below hbm
            have s2 := RX.keep hbm s0
            have HBR2 := Lib.hid (HBR.out.trans (hbm.mono (by have := HBR.out.size; omega)))
            clear hS hbm q1 q2 q3 q4 s0
            have HQ2 := Lib.hid hQL2
            obtain ⟨q1, q2, q3, q4, f1, f2, f3, f4⟩ := hQL2
            go_wp2
            go_roundw
            case rel => exact ⟨k + 1, L1, L2, R1, R2, by omega, by go_num, HL1, HQ1, HQ2.out.setQ R1 R2, by rw [World.cell?_setCell_other _ _ _ _ (by simp <;> omega), World.cell?_setCell_other _ _ _ _ (by simp <;> omega)]; exact s2, (HBR2.out.setCell (by simp) _).setCell (by simp) _⟩
            case measure => simp [intOf]; omega
          · have hb1 : (bits .and .i64 (S.a / 2 ^ k) 1 == 1) = true := by rw [i64_and1, hbit]; rfl
            have HLS : Hid (S.a % 2 ^ k * Dt + 2 ^ k * Dt = S.a % 2 ^ (k + 1) * Dt) := Lib.hid (by
              rw [low_stepI HA.out.1, hbit, Int.mul_one, Int.add_mul])
            have HQS : Hid (2 ^ k * Dt + 2 ^ k * Dt = 2 ^ (k + 1) * Dt) := Lib.hid (by rw [Int.pow_succ, Int.mul_assoc, Int.mul_comm 2 Dt, ← Int.mul_assoc]; omega)
            have HQL := Lib.hid hQL
            obtain ⟨q1, q2, q3, q4, -⟩ := hQL
            clear hbit
            go_wp2_with fail
            refine (add_at _ _ _ _ HL.out.symm HQ.out.symm _).mono ?_
            rintro e w20 ⟨rfl, hbm⟩
            rw [HLS.out]
            obtain ⟨T1, T2, e1, e2, hS⟩ := wv_parts (S.a % 2 ^ (k + 1) * Dt)
            clear e1 e2
            rw [hS]
            have HL1 := Lib.hid hS
            have hQL2 := HQL.out.below hbm
            have s2 := RX.keep hbm s0
            have HBR2 := Lib.hid (HBR.out.trans (hbm.mono (by have := HBR.out.size; omega)))
            clear hS hbm q1 q2 q3 q4 s0
            have HQ2 := Lib.hid (hQL2.setL T1 T2)
            have HS2 : Hid (((w20.setCell ⟨N + 1, 0, none⟩ (.int .i64 T1)).setCell ⟨N + 1, 1, none⟩ (.int .u64 T2)).cell? ⟨P, 2, none⟩ = some (.int .i64 S.a)) := Lib.hid (by rw [World.cell?_setCell_other _ _ _ _ (by simp <;> omega), World.cell?_setCell_other _ _ _ _ (by simp <;> omega)]; exact s2)
            have HBR3 : Hid (Below N W4 ((w20.setCell ⟨N + 1, 0, none⟩ (.int .i64 T1)).setCell ⟨N + 1, 1, none⟩ (.int .u64 T2))) := Lib.hid ((HBR2.out.setCell (by simp) _).setCell (by simp) _)
            obtain ⟨q1, q2, q3, q4, f1, f2, f3, f4⟩ := hQL2
            go_wp2_with fail
            clear q1 q2 q3 q4 f1 f2 f3 f4 s2
            generalize (w20.setCell ⟨N + 1, 0, none⟩ (.int .i64 T1)).setCell ⟨N + 1, 1, none⟩ (.int .u64 T2) = V20 at *
            refine (add_at _ _ _ _ HQ.out.symm HQ.out.symm _).mono ?_
            rintro e w21 ⟨rfl, hbm⟩
            rw [HQS.out]
            obtain ⟨R1, R2, e1, e2, hS⟩ := wv_parts (2 ^ (k + 1) * Dt)
            clear e1 e2
            rw [hS]
            have HQ1 := Lib.hid hS
            have hQL2 := HQ2.out.below hbm
            have s2 := RX.keep hbm HS2.out
            have HBR4 := Lib.hid (HBR3.out.trans (hbm.mono (by have := HBR3.out.size; omega)))
            clear hS hbm HQ2
            have HQ2 := Lib.hid hQL2
            obtain ⟨q1, q2, q3, q4, f1, f2, f3, f4⟩ := hQL2
            go_wp2
            go_roundw
            case rel => exact ⟨k + 1, T1, T2, R1, R2, by omega, by go_num, HL1, HQ1, HQ2.out.setQ R1 R2, by rw [World.cell?_setCell_other _ _ _ _ (by simp <;> omega), World.cell?_setCell_other _ _ _ _ (by simp <;> omega)]; exact s2, (HBR4.out.setCell (by simp) _).setCell (by simp) _⟩
            case measure => simp [intOf]; omega
        · have hdk : decide ((k : Int) < 20) = false := decide_eq_false (by omega)
          obtain rfl : k = 20 := by omega
          have HLF : Hid (wv (S.a * Dt) = .agg #[.int .i64 L1, .int .u64 L2]) := Lib.hid (by
            have h := HL.out
            rw [show S.a % 2 ^ 20 = S.a from Int.emod_eq_of_lt HA.out.1 (by have := HA.out.2; omega)] at h; exact h)
          obtain ⟨U1, U2, e1, e2, hS2⟩ := wv_parts (dotL (resL S x) y + dotL (resL S x) y)
          obtain ⟨Z1, Z2, e3, e4, hS3⟩ := wv_parts (costL S x + dotL y (multL S y))
          clear e1 e2 e3 e4
          have HS2 := Lib.hid hS2
          have HS3 := Lib.hid hS3
          obtain ⟨sg, hsg⟩ : ∃ sg, sg = sgn (dotL y (multL S y)) (S.a * Dt) := ⟨_, rfl⟩
          have HSG := Lib.hid hsg
          have hsg0 : 0 ≤ sg := by rw [hsg]; unfold sgn; have := HGE2.out; split <;> (try split) <;> omega
          have HWB := HDA.out
          have HAD : Hid (0 ≤ S.a * Dt ∧ S.a * Dt ≤ 1000000 * 1099511627776000) := Lib.hid ⟨Int.mul_nonneg HA.out.1 HDN.out.1, Int.mul_le_mul (by have := HA.out.2; omega) HDN.out.2 HDN.out.1 (by omega)⟩
          clear hS2 hS3 hsg HL HQ
          obtain ⟨hl1, hl2, hl3, hl4⟩ := HTL.out
          obtain ⟨⟨a1, a2⟩, ⟨b1, b2⟩, ⟨c1, c2⟩, ⟨d1, d2⟩⟩ := HT.out
          obtain ⟨-, -, l1, l2, -⟩ := hQL
          replace a1 := (World.cell?_of_block (a := ⟨g1, 0, none⟩) (hbr.block g1 hl1)).trans a1
          replace a2 := (World.cell?_of_block (a := ⟨g1, 1, none⟩) (hbr.block g1 hl1)).trans a2
          replace b1 := (World.cell?_of_block (a := ⟨g2, 0, none⟩) (hbr.block g2 hl2)).trans b1
          replace b2 := (World.cell?_of_block (a := ⟨g2, 1, none⟩) (hbr.block g2 hl2)).trans b2
          replace c1 := (World.cell?_of_block (a := ⟨g3, 0, none⟩) (hbr.block g3 hl3)).trans c1
          replace c2 := (World.cell?_of_block (a := ⟨g3, 1, none⟩) (hbr.block g3 hl3)).trans c2
          replace d1 := (World.cell?_of_block (a := ⟨g4, 0, none⟩) (hbr.block g4 hl4)).trans d1
          replace d2 := (World.cell?_of_block (a := ⟨g4, 1, none⟩) (hbr.block g4 hl4)).trans d2
          have HBZ := Lib.hid (HB.out.trans (hbr.mono hWN))
          clear hbr hl1 hl2 hl3 hl4 s0 HT HB
          go_wp2
          refine RX.region RX.fN (fun w' => w'.cell? ⟨g1, 0, none⟩ = some (.int .i64 C1) ∧ w'.cell? ⟨g1, 1, none⟩ = some (.int .u64 D1) ∧ w'.cell? ⟨g2, 0, none⟩ = some (.int .i64 C2) ∧ w'.cell? ⟨g2, 1, none⟩ = some (.int .u64 D2) ∧ w'.cell? ⟨g3, 0, none⟩ = some (.int .i64 C3) ∧ w'.cell? ⟨g3, 1, none⟩ = some (.int .u64 D3) ∧ w'.cell? ⟨g4, 0, none⟩ = some (.int .i64 C4) ∧ w'.cell? ⟨g4, 1, none⟩ = some (.int .u64 D4) ∧ w'.cell? ⟨N + 1, 0, none⟩ = some (.int .i64 L1) ∧ w'.cell? ⟨N + 1, 1, none⟩ = some (.int .u64 L2)) (by kernel_rfl) (by kernel_rfl) (⟨a1, a2, b1, b2, c1, c2, d1, d2, l1, l2⟩) (fun OPS HO QR hQR => ?_)
          have HBY := Lib.hid HBZ.out.drew
          clear HBZ
          have HBZ := HBY
          clear HBY
          repeat
            refine RX.step (fun R hR => ?_)
            first
            | (refine RX.one_skip (by first | rfl | (rw [HO.out]; rfl)) (by simp only [RX.put_some, RX.put_none, List.set_cons_zero, List.set_cons_succ]; rfl) ?_
               refine hR _ _ ?_; clear hR R)
            | (refine RX.one_move (by first | rfl | (rw [HO.out]; rfl)) rfl (by first | exact Or.inl rfl | exact Or.inr rfl) (by simp only [RX.eval_tmp, RX.eval_const, List.getD_cons_zero, List.getD_cons_succ]; rfl) (by simp only [RX.put_some, RX.put_none, List.set_cons_zero, List.set_cons_succ]; rfl) ?_
               refine hR _ _ ?_; clear hR R)
            | (refine RX.one_nil (by first | rfl | (rw [HO.out]; rfl)) rfl rfl (by simp only [RX.eval_tmp, RX.eval_const, List.getD_cons_zero, List.getD_cons_succ]; rfl) (by simp only [RX.put_some, RX.put_none, List.set_cons_zero, List.set_cons_succ]; rfl) ?_
               refine hR _ _ ?_; clear hR R)
            | (refine RX.one_float (by first | rfl | (rw [HO.out]; rfl)) rfl rfl rfl ?_
               apply Exists.intro; apply Exists.intro
               refine ⟨fun w' hS K hK => ?_, ?_, ?_⟩
               · obtain ⟨hS0, hS1, hS2, hS3, hS4, hS5, hS6, hS7, hS8, hS9⟩ := hS; go_wp2; exact hK _ _ (by simp only [RX.arr_getD, List.getD_cons_zero, List.getD_cons_succ]; first | exact RX.dec_t (by omega) | exact RX.dec_f (by omega) | exact RX.beq_t (by omega) | exact RX.beq_f (by omega) | exact RX.bne_t (by omega) | exact RX.bne_f (by omega) | exact RX.bneB _ | rfl) rfl
               · simp only [RX.put_some, RX.put_none, List.set_cons_zero, List.set_cons_succ]; rfl
               refine hR _ _ ?_; clear hR R)
          refine RX.step (fun R hR => ?_)
          refine RX.one_chain (by first | rfl | (rw [HO.out]; rfl)) rfl (fun K hK => ?_)
          go_wp2_with fail
          refine (add_at _ _ (dotL (resL S x) y) (dotL (resL S x) y) HC3.out.symm HC3.out.symm _).mono ?_
          rintro e wb ⟨rfl, hbm⟩
          rw [HS2.out]
          have HBY := Lib.hid (HBZ.out.trans (hbm.mono HBZ.out.size))
          have na1 := RX.keep hbm a1
          have na2 := RX.keep hbm a2
          have nb1 := RX.keep hbm b1
          have nb2 := RX.keep hbm b2
          have nc1 := RX.keep hbm c1
          have nc2 := RX.keep hbm c2
          have nd1 := RX.keep hbm d1
          have nd2 := RX.keep hbm d2
          have nl1 := RX.keep hbm l1
          have nl2 := RX.keep hbm l2
          clear hbm HBZ a1 a2 b1 b2 c1 c2 d1 d2 l1 l2
          refine hK _ _ ⟨⟨na1, na2, nb1, nb2, nc1, nc2, nd1, nd2, nl1, nl2⟩, hR _ _ ?_⟩; clear hK K hR R
          have a1 := na1
          have a2 := na2
          have b1 := nb1
          have b2 := nb2
          have c1 := nc1
          have c2 := nc2
          have d1 := nd1
          have d2 := nd2
          have l1 := nl1
          have l2 := nl2
          have HBZ := HBY
          clear HBY na1 na2 nb1 nb2 nc1 nc2 nd1 nd2 nl1 nl2
          repeat
            refine RX.step (fun R hR => ?_)
            first
            | (refine RX.one_skip (by first | rfl | (rw [HO.out]; rfl)) (by simp only [RX.put_some, RX.put_none, List.set_cons_zero, List.set_cons_succ]; rfl) ?_
               refine hR _ _ ?_; clear hR R)
            | (refine RX.one_move (by first | rfl | (rw [HO.out]; rfl)) rfl (by first | exact Or.inl rfl | exact Or.inr rfl) (by simp only [RX.eval_tmp, RX.eval_const, List.getD_cons_zero, List.getD_cons_succ]; rfl) (by simp only [RX.put_some, RX.put_none, List.set_cons_zero, List.set_cons_succ]; rfl) ?_
               refine hR _ _ ?_; clear hR R)
            | (refine RX.one_nil (by first | rfl | (rw [HO.out]; rfl)) rfl rfl (by simp only [RX.eval_tmp, RX.eval_const, List.getD_cons_zero, List.getD_cons_succ]; rfl) (by simp only [RX.put_some, RX.put_none, List.set_cons_zero, List.set_cons_succ]; rfl) ?_
               refine hR _ _ ?_; clear hR R)
            | (refine RX.one_float (by first | rfl | (rw [HO.out]; rfl)) rfl rfl rfl ?_
               apply Exists.intro; apply Exists.intro
               refine ⟨fun w' hS K hK => ?_, ?_, ?_⟩
               · obtain ⟨hS0, hS1, hS2, hS3, hS4, hS5, hS6, hS7, hS8, hS9⟩ := hS; go_wp2; exact hK _ _ (by simp only [RX.arr_getD, List.getD_cons_zero, List.getD_cons_succ]; first | exact RX.dec_t (by omega) | exact RX.dec_f (by omega) | exact RX.beq_t (by omega) | exact RX.beq_f (by omega) | exact RX.bne_t (by omega) | exact RX.bne_f (by omega) | exact RX.bneB _ | rfl) rfl
               · simp only [RX.put_some, RX.put_none, List.set_cons_zero, List.set_cons_succ]; rfl
               refine hR _ _ ?_; clear hR R)
          refine RX.step (fun R hR => ?_)
          refine RX.one_chain (by first | rfl | (rw [HO.out]; rfl)) rfl (fun K hK => ?_)
          go_wp2_with fail
          refine (add_at _ _ (costL S (addL x y)) (dotL (resL S x) y + dotL (resL S x) y) HC2.out.symm HS2.out.symm _).mono ?_
          rintro e wc ⟨rfl, hbm⟩
          rw [HSUM.out, HS3.out]
          have HBY := Lib.hid (HBZ.out.trans (hbm.mono HBZ.out.size))
          have na1 := RX.keep hbm a1
          have na2 := RX.keep hbm a2
          have nb1 := RX.keep hbm b1
          have nb2 := RX.keep hbm b2
          have nc1 := RX.keep hbm c1
          have nc2 := RX.keep hbm c2
          have nd1 := RX.keep hbm d1
          have nd2 := RX.keep hbm d2
          have nl1 := RX.keep hbm l1
          have nl2 := RX.keep hbm l2
          clear hbm HBZ a1 a2 b1 b2 c1 c2 d1 d2 l1 l2
          refine hK _ _ ⟨⟨na1, na2, nb1, nb2, nc1, nc2, nd1, nd2, nl1, nl2⟩, hR _ _ ?_⟩; clear hK K hR R
          have a1 := na1
          have a2 := na2
          have b1 := nb1
          have b2 := nb2
          have c1 := nc1
          have c2 := nc2
          have d1 := nd1
          have d2 := nd2
          have l1 := nl1
          have l2 := nl2
          have HBZ := HBY
          clear HBY na1 na2 nb1 nb2 nc1 nc2 nd1 nd2 nl1 nl2
          repeat
            refine RX.step (fun R hR => ?_)
            first
            | (refine RX.one_skip (by first | rfl | (rw [HO.out]; rfl)) (by simp only [RX.put_some, RX.put_none, List.set_cons_zero, List.set_cons_succ]; rfl) ?_
               refine hR _ _ ?_; clear hR R)
            | (refine RX.one_move (by first | rfl | (rw [HO.out]; rfl)) rfl (by first | exact Or.inl rfl | exact Or.inr rfl) (by simp only [RX.eval_tmp, RX.eval_const, List.getD_cons_zero, List.getD_cons_succ]; rfl) (by simp only [RX.put_some, RX.put_none, List.set_cons_zero, List.set_cons_succ]; rfl) ?_
               refine hR _ _ ?_; clear hR R)
            | (refine RX.one_nil (by first | rfl | (rw [HO.out]; rfl)) rfl rfl (by simp only [RX.eval_tmp, RX.eval_const, List.getD_cons_zero, List.getD_cons_succ]; rfl) (by simp only [RX.put_some, RX.put_none, List.set_cons_zero, List.set_cons_succ]; rfl) ?_
               refine hR _ _ ?_; clear hR R)
            | (refine RX.one_float (by first | rfl | (rw [HO.out]; rfl)) rfl rfl rfl ?_
               apply Exists.intro; apply Exists.intro
               refine ⟨fun w' hS K hK => ?_, ?_, ?_⟩
               · obtain ⟨hS0, hS1, hS2, hS3, hS4, hS5, hS6, hS7, hS8, hS9⟩ := hS; go_wp2; exact hK _ _ (by simp only [RX.arr_getD, List.getD_cons_zero, List.getD_cons_succ]; first | exact RX.dec_t (by omega) | exact RX.dec_f (by omega) | exact RX.beq_t (by omega) | exact RX.beq_f (by omega) | exact RX.bne_t (by omega) | exact RX.bne_f (by omega) | exact RX.bneB _ | rfl) rfl
               · simp only [RX.put_some, RX.put_none, List.set_cons_zero, List.set_cons_succ]; rfl
               refine hR _ _ ?_; clear hR R)
          refine RX.step (fun R hR => ?_)
          refine RX.one_chain (by first | rfl | (rw [HO.out]; rfl)) rfl (fun K hK => ?_)
          go_wp2_with fail
          refine (add_at _ _ (costL S x) (dotL y (multL S y)) HC1.out.symm HC4.out.symm _).mono ?_
          rintro e wd ⟨rfl, hbm⟩
          rw [HS3.out]
          have HBY := Lib.hid (HBZ.out.trans (hbm.mono HBZ.out.size))
          have na1 := RX.keep hbm a1
          have na2 := RX.keep hbm a2
          have nb1 := RX.keep hbm b1
          have nb2 := RX.keep hbm b2
          have nc1 := RX.keep hbm c1
          have nc2 := RX.keep hbm c2
          have nd1 := RX.keep hbm d1
          have nd2 := RX.keep hbm d2
          have nl1 := RX.keep hbm l1
          have nl2 := RX.keep hbm l2
          clear hbm HBZ a1 a2 b1 b2 c1 c2 d1 d2 l1 l2
          refine hK _ _ ⟨⟨na1, na2, nb1, nb2, nc1, nc2, nd1, nd2, nl1, nl2⟩, hR _ _ ?_⟩; clear hK K hR R
          have a1 := na1
          have a2 := na2
          have b1 := nb1
          have b2 := nb2
          have c1 := nc1
          have c2 := nc2
          have d1 := nd1
          have d2 := nd2
          have l1 := nl1
          have l2 := nl2
          have HBZ := HBY
          clear HBY na1 na2 nb1 nb2 nc1 nc2 nd1 nd2 nl1 nl2
          repeat
            refine RX.step (fun R hR => ?_)
            first
            | (refine RX.one_skip (by first | rfl | (rw [HO.out]; rfl)) (by simp only [RX.put_some, RX.put_none, List.set_cons_zero, List.set_cons_succ]; rfl) ?_
               refine hR _ _ ?_; clear hR R)
            | (refine RX.one_move (by first | rfl | (rw [HO.out]; rfl)) rfl (by first | exact Or.inl rfl | exact Or.inr rfl) (by simp only [RX.eval_tmp, RX.eval_const, List.getD_cons_zero, List.getD_cons_succ]; rfl) (by simp only [RX.put_some, RX.put_none, List.set_cons_zero, List.set_cons_succ]; rfl) ?_
               refine hR _ _ ?_; clear hR R)
            | (refine RX.one_nil (by first | rfl | (rw [HO.out]; rfl)) rfl rfl (by simp only [RX.eval_tmp, RX.eval_const, List.getD_cons_zero, List.getD_cons_succ]; rfl) (by simp only [RX.put_some, RX.put_none, List.set_cons_zero, List.set_cons_succ]; rfl) ?_
               refine hR _ _ ?_; clear hR R)
            | (refine RX.one_float (by first | rfl | (rw [HO.out]; rfl)) rfl rfl rfl ?_
               apply Exists.intro; apply Exists.intro
               refine ⟨fun w' hS K hK => ?_, ?_, ?_⟩
               · obtain ⟨hS0, hS1, hS2, hS3, hS4, hS5, hS6, hS7, hS8, hS9⟩ := hS; go_wp2; exact hK _ _ (by simp only [RX.arr_getD, List.getD_cons_zero, List.getD_cons_succ]; first | exact RX.dec_t (by omega) | exact RX.dec_f (by omega) | exact RX.beq_t (by omega) | exact RX.beq_f (by omega) | exact RX.bne_t (by omega) | exact RX.bne_f (by omega) | exact RX.bneB _ | rfl) rfl
               · simp only [RX.put_some, RX.put_none, List.set_cons_zero, List.set_cons_succ]; rfl
               refine hR _ _ ?_; clear hR R)
          refine RX.step (fun R hR => ?_)
          refine RX.one_chain (by first | rfl | (rw [HO.out]; rfl)) rfl (fun K hK => ?_)
          go_wp2_with fail
          refine (compare_wv2 (dotL y (multL S y)) (S.a * Dt) _ _ _ HC4.out.symm HLF.out.symm (by have := HDA.out; omega) (by have := HDA.out; omega) (by have := HAD.out; omega) (by have := HAD.out; omega)).mono ?_
          rintro e we ⟨rfl, hbm⟩
          rw [← HSG.out]
          have HBY := Lib.hid (HBZ.out.trans (hbm.mono HBZ.out.size))
          have na1 := RX.keep hbm a1
          have na2 := RX.keep hbm a2
          have nb1 := RX.keep hbm b1
          have nb2 := RX.keep hbm b2
          have nc1 := RX.keep hbm c1
          have nc2 := RX.keep hbm c2
          have nd1 := RX.keep hbm d1
          have nd2 := RX.keep hbm d2
          have nl1 := RX.keep hbm l1
          have nl2 := RX.keep hbm l2
          clear hbm HBZ a1 a2 b1 b2 c1 c2 d1 d2 l1 l2
          refine hK _ _ ⟨⟨na1, na2, nb1, nb2, nc1, nc2, nd1, nd2, nl1, nl2⟩, hR _ _ ?_⟩; clear hK K hR R
          have a1 := na1
          have a2 := na2
          have b1 := nb1
          have b2 := nb2
          have c1 := nc1
          have c2 := nc2
          have d1 := nd1
          have d2 := nd2
          have l1 := nl1
          have l2 := nl2
          have HBZ := HBY
          clear HBY na1 na2 nb1 nb2 nc1 nc2 nd1 nd2 nl1 nl2
          repeat
            refine RX.step (fun R hR => ?_)
            first
            | (refine RX.one_skip (by first | rfl | (rw [HO.out]; rfl)) (by simp only [RX.put_some, RX.put_none, List.set_cons_zero, List.set_cons_succ]; rfl) ?_
               refine hR _ _ ?_; clear hR R)
            | (refine RX.one_move (by first | rfl | (rw [HO.out]; rfl)) rfl (by first | exact Or.inl rfl | exact Or.inr rfl) (by simp only [RX.eval_tmp, RX.eval_const, List.getD_cons_zero, List.getD_cons_succ]; rfl) (by simp only [RX.put_some, RX.put_none, List.set_cons_zero, List.set_cons_succ]; rfl) ?_
               refine hR _ _ ?_; clear hR R)
            | (refine RX.one_nil (by first | rfl | (rw [HO.out]; rfl)) rfl rfl (by simp only [RX.eval_tmp, RX.eval_const, List.getD_cons_zero, List.getD_cons_succ]; rfl) (by simp only [RX.put_some, RX.put_none, List.set_cons_zero, List.set_cons_succ]; rfl) ?_
               refine hR _ _ ?_; clear hR R)
            | (refine RX.one_float (by first | rfl | (rw [HO.out]; rfl)) rfl rfl rfl ?_
               apply Exists.intro; apply Exists.intro
               refine ⟨fun w' hS K hK => ?_, ?_, ?_⟩
               · obtain ⟨hS0, hS1, hS2, hS3, hS4, hS5, hS6, hS7, hS8, hS9⟩ := hS; go_wp2; exact hK _ _ (by simp only [RX.arr_getD, List.getD_cons_zero, List.getD_cons_succ]; first | exact RX.dec_t (by omega) | exact RX.dec_f (by omega) | exact RX.beq_t (by omega) | exact RX.beq_f (by omega) | exact RX.bne_t (by omega) | exact RX.bne_f (by omega) | exact RX.bneB _ | rfl) rfl
               · simp only [RX.put_some, RX.put_none, List.set_cons_zero, List.set_cons_succ]; rfl
               refine hR _ _ ?_; clear hR R)
          refine RX.wpL_nil (hQR _ _ (⟨a1, a2, b1, b2, c1, c2, d1, d2, l1, l2⟩) ?_); clear hQR QR HO OPS
          go_wp2
          go_ret
          refine ⟨?_, HBZ.out⟩
          have hd : decide (sg ≥ 0) = true := decide_eq_true hsg0
          simp [hd, hsg0]
end Go.Proofs.YtblgchhmcifdgaaGreatDoor
