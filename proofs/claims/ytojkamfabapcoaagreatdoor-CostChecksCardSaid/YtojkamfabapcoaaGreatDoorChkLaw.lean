import Derived.Test.YtojkamfabapcoaaGreatDoorKSpoil
import Derived.Test.YtojkamfabapcoaaGreatDoorKLaw23
import Derived.Test.YtojkamfabapcoaaGreatDoorKRC
set_option linter.unusedSimpArgs false
set_option linter.unusedVariables false
namespace Go.Proofs.YtojkamfabapcoaaGreatDoor
open Go.RowKit Go.Grid

/-! CostChecks. -/
theorem sum_ge : ∀ l : List (Int × Int), (∀ c ∈ l, 1 ≤ c.2) → (l.length : Int) ≤ sumI l
  | [], _ => by simp [sumI]
  | c :: l, h => by
    have ih := sum_ge l (fun x hx => h x (List.mem_cons_of_mem _ hx))
    have := h c (List.mem_cons_self ..)
    unfold sumI at *
    simp only [List.map_cons, List.sum_cons, List.length_cons]
    omega
theorem SyOk.sh840 {S : Sy} (h : SyOk S) : ∀ r ∈ S.rows, r.sh.length ≤ 840 := fun r hr => by
  obtain ⟨k, hk, rfl⟩ := List.mem_iff_getElem.1 hr
  obtain ⟨h1, h2, h3, h4⟩ := h
  obtain ⟨_, ho, hs, _⟩ := h4 k hk (by omega)
  have := sum_ge _ (fun c hc => (ho c hc).2.1)
  omega
/-- A system and its error's number, by both. -/
def SyAt (w : World) (v : Value) (S : Sy) : Prop := SysIn w v S ∧ SyLen S
theorem SyAt.below {w w' : World} {v : Value} {S : Sy} (h : SyAt w v S) (hb : Below w.heap.size w w') : SyAt w' v S := ⟨h.1.below hb, h.2⟩
/-- The system of number k in a row of systems. -/
def SAt (w : World) (A k : Nat) : Prop := ∃ (S : Sy) (p : Option Addr) (c : Nat) (p' : Option Addr) (c' : Nat), (w.cell? ⟨A, k * 5, none⟩ = some (.int .i64 S.f) ∧ w.cell? ⟨A, k * 5 + 1, none⟩ = some (.int .i64 S.s) ∧ w.cell? ⟨A, k * 5 + 2, none⟩ = some (.int .i64 S.a) ∧ w.cell? ⟨A, k * 5 + 3, none⟩ = some (.slice p S.rows.length c) ∧ w.cell? ⟨A, k * 5 + 4, none⟩ = some (.slice p' S.targets.length c')) ∧
  SysIn w (.agg #[.int .i64 S.f, .int .i64 S.s, .int .i64 S.a, .slice p S.rows.length c, .slice p' S.targets.length c']) S ∧ SyLen S
theorem SAt.below {w w' : World} {A k : Nat} (h : SAt w A k) (hb : Below w.heap.size w w') : SAt w' A k := by
  obtain ⟨S, p, c, p', c', ⟨h0, h1, h2, h3, h4⟩, h5, h6⟩ := h
  exact ⟨S, p, c, p', c', ⟨RX.keep hb h0, RX.keep hb h1, RX.keep hb h2, RX.keep hb h3, RX.keep hb h4⟩, h5.below hb, h6⟩
set_option maxRecDepth 100000 in
set_option maxHeartbeats 4000000 in
theorem chk_law (W : World) (v0 : Value) (S0 : Sy) (hS0 : SysIn W v0 S0) (hl0 : SyLen S0) (q : Option Addr) (cap cb co : Nat) (L : List Int) (hp : 0 < L.length → q = some ⟨cb, co, none⟩) (hl : L.length ≤ cap) (hc : cap ≤ 9223372036854775807)
    (hcell : ∀ k (h : k < L.length), W.cell? ⟨cb, co + k, none⟩ = some (.int .u8 L[k]) ∧ 0 ≤ L[k] ∧ L[k] < 256) (hT : HasTab W) :
    Calls Tryz.prog 3 #[v0, .slice q L.length cap] W fun e w' => e = .returned (.bool true) ∧ Below W.heap.size W w' := by
  have HIN := Lib.hid (And.intro hp hcell)
  clear hp hcell
  have HS0 := Lib.hid hS0
  have HL0 := Lib.hid hl0
  obtain ⟨p1, c1, p2, c2, rfl, -⟩ := hS0
  have hll1 := hl0.1
  have hll2 := hl0.2.1
  clear hl0
  go_enter Tryz.func3, Tryz.ntmps3
  go_wp2_with fail
  have hF0 : Five (W.alloc (.cells #[.int .i64 S0.f, .int .i64 S0.s, .int .i64 S0.a, .slice p1 S0.rows.length c1, .slice p2 S0.targets.length c2] 27)) W.heap.size S0.f S0.s S0.a (.slice p1 S0.rows.length c1) (.slice p2 S0.targets.length c2) := ⟨(by simp [RX.cell_drew, RX.cell_alloc, Nat.add_assoc]), (by simp [RX.cell_drew, RX.cell_alloc, Nat.add_assoc]), (by simp [RX.cell_drew, RX.cell_alloc, Nat.add_assoc]), (by simp [RX.cell_drew, RX.cell_alloc, Nat.add_assoc]), (by simp [RX.cell_drew, RX.cell_alloc, Nat.add_assoc])⟩
  have hB : Below W.heap.size W (W.alloc (.cells #[.int .i64 S0.f, .int .i64 S0.s, .int .i64 S0.a, .slice p1 S0.rows.length c1, .slice p2 S0.targets.length c2] 27)) := (by repeat (first | (with_reducible assumption) | (with_reducible exact Below.refl _ _) | (with_reducible refine Below.setCell ?_ (by first | omega | (simp; done) | (simp; omega)) _) | (with_reducible refine Below.alloc ?_ (by first | omega | (simp; done) | (simp; omega)) _) | (with_reducible apply Below.drew) | assumption))
  obtain ⟨N, hN⟩ : ∃ N, N = W.heap.size := ⟨_, rfl⟩
  have hNW : N < (W.alloc (.cells #[.int .i64 S0.f, .int .i64 S0.s, .int .i64 S0.a, .slice p1 S0.rows.length c1, .slice p2 S0.targets.length c2] 27)).heap.size := by rw [hN]; simp
  rw [← hN] at hF0 ⊢
  have HN := Lib.hid hN
  clear hN
  generalize (W.alloc (.cells #[.int .i64 S0.f, .int .i64 S0.s, .int .i64 S0.a, .slice p1 S0.rows.length c1, .slice p2 S0.targets.length c2] 27)) = W1 at *
  refine (awake23_any W1 (hT.below hB)).mono ?_
  rintro e w1 ⟨rfl, hb⟩
  replace hF0 := hF0.below hb
  replace hB := hB.trans (hb.mono hB.size)
  replace hNW : N < w1.heap.size := Nat.lt_of_lt_of_le hNW hb.size
  clear hb
  clear W1
  obtain ⟨x0, x1, x2, x3, x4⟩ := hF0
  by_cases h1 : 300 < S0.rows.length
  · have e1 : decide ((S0.rows.length : Int) > 300) = true := decide_eq_true (by omega)
    go_wp2
    refine bodyPost_ret (v := .bool true) ?_ rfl ⟨rfl, hB⟩
    simp [results, Tryz.results3, go_sem]
  by_cases h2 : 300 < S0.targets.length
  · have e1 : decide ((S0.rows.length : Int) > 300) = false := decide_eq_false (by omega)
    have e2 : decide ((S0.targets.length : Int) > 300) = true := decide_eq_true (by omega)
    go_wp2
    refine bodyPost_ret (v := .bool true) ?_ rfl ⟨rfl, hB⟩
    simp [results, Tryz.results3, go_sem]
  have e1 : decide ((S0.rows.length : Int) > 300) = false := decide_eq_false (by omega)
  have e2 : decide ((S0.targets.length : Int) > 300) = false := decide_eq_false (by omega)
  go_wp2_with fail
  clear e1 e2 h1 h2
  have hF0 : Five w1 N S0.f S0.s S0.a (.slice p1 S0.rows.length c1) (.slice p2 S0.targets.length c2) := ⟨x0, x1, x2, x3, x4⟩
  clear x0 x1 x2 x3 x4
  refine (start_any W q cap cb co 200 L w1 (by omega) HIN.out.1 hl hc HIN.out.2 hB).mono ?_
  rintro e w2 ⟨g, b, M, rfl, hg, hb2, hbM, hC⟩
  have hgW : W.heap.size ≤ g := by have := hB.size; omega
  have hNg : N < g := by omega
  replace hB := hB.trans (hb2.mono hB.size)
  replace hF0 := hF0.below hb2
  have hgl := hC.lt
  have hbg : 0 < M.length → b < g := fun h0 => by have := hbM h0; omega
  clear hb2 hbM hg HIN hl hc hNW
  clear w1
  go_wp2_with fail
  refine (csys_any w2 g b M 0 6 hC (by omega)).mono ?_
  rintro e w3 ⟨v, S, rfl, hSO, hOk, hPC, hSr, hg3, j3, hC3⟩
  replace hB := hB.grown hg3 hB.size (fun k hk => by injection hk with hk; omega)
  replace hF0 := hF0.turn hg3 (by omega)
  have hs3 := hg3.size
  have hSt := Lib.hid hOk.2.2.1
  have hS8 := Lib.hid hOk.sh840
  have HOK := Lib.hid hOk
  have hSr1 := Lib.hid hSr
  clear hC hg3 hPC hOk hSr
  obtain ⟨p3, d1, p4, d2, rfl, -⟩ := hSO.sysin
  go_wp2_with fail
  have hP : Five (w3.alloc (.cells #[.int .i64 S.f, .int .i64 S.s, .int .i64 S.a, .slice p3 S.rows.length d1, .slice p4 S.targets.length d2] 27)) w3.heap.size S.f S.s S.a (.slice p3 S.rows.length d1) (.slice p4 S.targets.length d2) := ⟨(by simp [RX.cell_drew, RX.cell_alloc, Nat.add_assoc]), (by simp [RX.cell_drew, RX.cell_alloc, Nat.add_assoc]), (by simp [RX.cell_drew, RX.cell_alloc, Nat.add_assoc]), (by simp [RX.cell_drew, RX.cell_alloc, Nat.add_assoc]), (by simp [RX.cell_drew, RX.cell_alloc, Nat.add_assoc])⟩
  have hb4 := (Below.refl w3.heap.size w3).alloc (Nat.le_refl _) (.cells #[.int .i64 S.f, .int .i64 S.s, .int .i64 S.a, .slice p3 S.rows.length d1, .slice p4 S.targets.length d2] 27)
  replace hB := hB.trans (hb4.mono hB.size)
  replace hF0 := hF0.below hb4
  replace hSO := hSO.grown (grw_below hb4 none) (fun k hk => by cases hk)
  have hC4 := hC3.below hb4
  have hs4 : w3.heap.size < (w3.alloc (.cells #[.int .i64 S.f, .int .i64 S.s, .int .i64 S.a, .slice p3 S.rows.length d1, .slice p4 S.targets.length d2] 27)).heap.size := by simp
  obtain ⟨P, hPe⟩ : ∃ P, P = w3.heap.size := ⟨_, rfl⟩
  have hgP : g < P := by omega
  have hNg2 : N ≠ g := by omega
  have hPg2 : P ≠ g := by omega
  rw [← hPe] at hP hs4 ⊢
  have hgb : g < w2.heap.size := hgl
  have hbw : w2.heap.size ≤ (w3.alloc (.cells #[.int .i64 S.f, .int .i64 S.s, .int .i64 S.a, .slice p3 S.rows.length d1, .slice p4 S.targets.length d2] 27)).heap.size := by omega
  obtain ⟨Bs, hBs⟩ : ∃ Bs, Bs = w2.heap.size := ⟨_, rfl⟩
  rw [← hBs] at hSO hgb hbw
  clear hC3 hb4 hPe hs3 hgl hBs
  generalize (w3.alloc (.cells #[.int .i64 S.f, .int .i64 S.s, .int .i64 S.a, .slice p3 S.rows.length d1, .slice p4 S.targets.length d2] 27)) = W4 at *
  clear w2 w3
  have HSO := Lib.hid hSO
  clear hSO
  refine RX.region RX.fL (fun w' => Five w' N S0.f S0.s S0.a (.slice p1 S0.rows.length c1) (.slice p2 S0.targets.length c2) ∧ Five w' P S.f S.s S.a (.slice p3 S.rows.length d1) (.slice p4 S.targets.length d2)) (by kernel_rfl) (by kernel_rfl) (⟨hF0, hP⟩) (fun OPS HO QR hQR => ?_)
  repeat
    refine RX.step (fun R hR => ?_)
    first
    | (refine RX.one_skip (by first | rfl | (rw [HO.out]; rfl)) (by simp only [RX.put_some, RX.put_none, List.set_cons_zero, List.set_cons_succ]; rfl) ?_
       refine hR _ _ ?_; clear hR R)
    | (refine RX.one_move (by first | rfl | (rw [HO.out]; rfl)) rfl (by first | exact Or.inl rfl | exact Or.inr rfl) (by simp only [RX.eval_tmp, RX.eval_const, List.getD_cons_zero, List.getD_cons_succ]; rfl) (by simp only [RX.put_some, RX.put_none, List.set_cons_zero, List.set_cons_succ]; rfl) ?_
       refine hR _ _ ?_; clear hR R)
    | (refine RX.one_nil (by first | rfl | (rw [HO.out]; rfl)) rfl rfl (by simp only [RX.eval_tmp, RX.eval_const, List.getD_cons_zero, List.getD_cons_succ]; rfl) (by simp only [RX.put_some, RX.put_none, List.set_cons_zero, List.set_cons_succ]; rfl) ?_
       refine hR _ _ ?_; clear hR R)
    | (refine RX.one_float (by first | rfl | (rw [HO.out]; rfl)) rfl rfl rfl ?_
       apply Exists.intro; apply Exists.intro
       refine ⟨fun w' hS K hK => ?_, ?_, ?_⟩
       · obtain ⟨⟨y0, y1, y2, y3, y4⟩, z0, z1, z2, z3, z4⟩ := hS; go_wp2; exact hK _ _ (by simp only [RX.arr_getD, List.getD_cons_zero, List.getD_cons_succ]; first | exact RX.dec_t (by omega) | exact RX.dec_f (by omega) | exact RX.beq_t (by omega) | exact RX.beq_f (by omega) | exact RX.bne_t (by omega) | exact RX.bne_f (by omega) | exact RX.bneB _ | rfl) rfl
       · simp only [RX.put_some, RX.put_none, List.set_cons_zero, List.set_cons_succ]; rfl
       refine hR _ _ ?_; clear hR R)
  refine RX.step (fun R hR => ?_)
  refine RX.one_chain (by first | rfl | (rw [HO.out]; rfl)) rfl (fun K hK => ?_)
  go_wp2_with fail
  have hdr : Hid (SysOwn W4.drew Bs (.agg #[.int .i64 S.f, .int .i64 S.s, .int .i64 S.a, .slice p3 S.rows.length d1, .slice p4 S.targets.length d2]) S) := Lib.hid (HSO.out.grown (grw_drew (grw_refl W4 none)) (fun k hk => by cases hk))
  refine (spoilsys_any W4.drew g b M j3 (hC4.below (by repeat (first | (with_reducible assumption) | (with_reducible exact Below.refl _ _) | (with_reducible refine Below.setCell ?_ (by first | omega | (simp; done) | (simp; omega)) _) | (with_reducible refine Below.alloc ?_ (by first | omega | (simp; done) | (simp; omega)) _) | (with_reducible apply Below.drew) | assumption))) _ S Bs 840 hdr.out hgb hbw (by have := hSr1.out; omega) (by have := hSr1.out; have := hSt.out; omega) hS8.out (by omega)).mono ?_
  rintro e w5 ⟨va, Sa, rfl, hSa, hra, hta, hsa, hg5, j5, hC5⟩
  replace hg5 : W4.grownBy w5 (some g) := ⟨hg5.os, hg5.tape, hg5.output, hg5.size, hg5.block⟩
  replace hB := hB.grown hg5 hB.size (fun k hk => by injection hk with hk; omega)
  replace hF0 := hF0.turn hg5 hNg2
  replace hP := hP.turn hg5 hPg2
  have HSO5 := Lib.hid (HSO.out.grown hg5 (fun k hk => by injection hk with hk; omega))
  have hbw5 : Bs ≤ w5.heap.size := by have := hg5.size; omega
  have HSa := Lib.hid hSa
  have HLa := Lib.hid (And.intro hra (And.intro hta hsa))
  obtain ⟨p5, d5, p6, d6, rfl, -⟩ := hSa.sysin
  clear hC4 hg5 hSa hra hta hsa hdr HSO hs4 hbw
  refine hK _ _ ⟨⟨hF0, hP⟩, hR _ _ ?_⟩; clear hK K hR R
  clear W4
  repeat
    refine RX.step (fun R hR => ?_)
    first
    | (refine RX.one_skip (by first | rfl | (rw [HO.out]; rfl)) (by simp only [RX.put_some, RX.put_none, List.set_cons_zero, List.set_cons_succ]; rfl) ?_
       refine hR _ _ ?_; clear hR R)
    | (refine RX.one_move (by first | rfl | (rw [HO.out]; rfl)) rfl (by first | exact Or.inl rfl | exact Or.inr rfl) (by simp only [RX.eval_tmp, RX.eval_const, List.getD_cons_zero, List.getD_cons_succ]; rfl) (by simp only [RX.put_some, RX.put_none, List.set_cons_zero, List.set_cons_succ]; rfl) ?_
       refine hR _ _ ?_; clear hR R)
    | (refine RX.one_nil (by first | rfl | (rw [HO.out]; rfl)) rfl rfl (by simp only [RX.eval_tmp, RX.eval_const, List.getD_cons_zero, List.getD_cons_succ]; rfl) (by simp only [RX.put_some, RX.put_none, List.set_cons_zero, List.set_cons_succ]; rfl) ?_
       refine hR _ _ ?_; clear hR R)
    | (refine RX.one_float (by first | rfl | (rw [HO.out]; rfl)) rfl rfl rfl ?_
       apply Exists.intro; apply Exists.intro
       refine ⟨fun w' hS K hK => ?_, ?_, ?_⟩
       · obtain ⟨⟨y0, y1, y2, y3, y4⟩, z0, z1, z2, z3, z4⟩ := hS; go_wp2; exact hK _ _ (by simp only [RX.arr_getD, List.getD_cons_zero, List.getD_cons_succ]; first | exact RX.dec_t (by omega) | exact RX.dec_f (by omega) | exact RX.beq_t (by omega) | exact RX.beq_f (by omega) | exact RX.bne_t (by omega) | exact RX.bne_f (by omega) | exact RX.bneB _ | rfl) rfl
       · simp only [RX.put_some, RX.put_none, List.set_cons_zero, List.set_cons_succ]; rfl
       refine hR _ _ ?_; clear hR R)
  refine RX.step (fun R hR => ?_)
  refine RX.one_chain (by first | rfl | (rw [HO.out]; rfl)) rfl (fun K hK => ?_)
  go_wp2_with fail
  refine (spoilsys_any w5 g b M j5 hC5 _ S Bs 840 HSO5.out hgb hbw5 (by have := hSr1.out; omega) (by have := hSr1.out; have := hSt.out; omega) hS8.out (by omega)).mono ?_
  rintro e w6 ⟨vb, Sb, rfl, hSb, hrb, htb, hsb, hg6, j6, hC6⟩
  replace hB := hB.grown hg6 hB.size (fun k hk => by injection hk with hk; omega)
  replace hF0 := hF0.turn hg6 hNg2
  replace hP := hP.turn hg6 hPg2
  have HSO6 := Lib.hid (HSO5.out.grown hg6 (fun k hk => by injection hk with hk; omega))
  have HSa6 := Lib.hid (HSa.out.grown hg6 (fun k hk => by injection hk with hk; omega))
  have hbw6 : Bs ≤ w6.heap.size := by have := hg6.size; omega
  have HSb := Lib.hid hSb
  have HLb := Lib.hid (And.intro hrb (And.intro htb hsb))
  obtain ⟨p7, d7, p8, d8, rfl, -⟩ := hSb.sysin
  clear hC5 hg6 hSb hrb htb hsb hbw5 HSO5 HSa
  refine hK _ _ ⟨⟨hF0, hP⟩, hR _ _ ?_⟩; clear hK K hR R
  clear w5
  repeat
    refine RX.step (fun R hR => ?_)
    first
    | (refine RX.one_skip (by first | rfl | (rw [HO.out]; rfl)) (by simp only [RX.put_some, RX.put_none, List.set_cons_zero, List.set_cons_succ]; rfl) ?_
       refine hR _ _ ?_; clear hR R)
    | (refine RX.one_move (by first | rfl | (rw [HO.out]; rfl)) rfl (by first | exact Or.inl rfl | exact Or.inr rfl) (by simp only [RX.eval_tmp, RX.eval_const, List.getD_cons_zero, List.getD_cons_succ]; rfl) (by simp only [RX.put_some, RX.put_none, List.set_cons_zero, List.set_cons_succ]; rfl) ?_
       refine hR _ _ ?_; clear hR R)
    | (refine RX.one_nil (by first | rfl | (rw [HO.out]; rfl)) rfl rfl (by simp only [RX.eval_tmp, RX.eval_const, List.getD_cons_zero, List.getD_cons_succ]; rfl) (by simp only [RX.put_some, RX.put_none, List.set_cons_zero, List.set_cons_succ]; rfl) ?_
       refine hR _ _ ?_; clear hR R)
    | (refine RX.one_float (by first | rfl | (rw [HO.out]; rfl)) rfl rfl rfl ?_
       apply Exists.intro; apply Exists.intro
       refine ⟨fun w' hS K hK => ?_, ?_, ?_⟩
       · obtain ⟨⟨y0, y1, y2, y3, y4⟩, z0, z1, z2, z3, z4⟩ := hS; go_wp2; exact hK _ _ (by simp only [RX.arr_getD, List.getD_cons_zero, List.getD_cons_succ]; first | exact RX.dec_t (by omega) | exact RX.dec_f (by omega) | exact RX.beq_t (by omega) | exact RX.beq_f (by omega) | exact RX.bne_t (by omega) | exact RX.bne_f (by omega) | exact RX.bneB _ | rfl) rfl
       · simp only [RX.put_some, RX.put_none, List.set_cons_zero, List.set_cons_succ]; rfl
       refine hR _ _ ?_; clear hR R)
  refine RX.step (fun R hR => ?_)
  refine RX.one_chain (by first | rfl | (rw [HO.out]; rfl)) rfl (fun K hK => ?_)
  go_wp2_with fail
  refine (spoilsys_any w6 g b M j6 hC6 _ Sb Bs 1680 HSb.out hgb hbw6 (by have := hSr1.out; have := HLb.out.1; omega) (by have := hSr1.out; have := hSt.out; have := HLb.out.2.1; omega) HLb.out.2.2 (by omega)).mono ?_
  rintro e w7 ⟨vc, Sc, rfl, hSc, hrc, htc, hsc, hg7, j7, hC7⟩
  replace hB := hB.grown hg7 hB.size (fun k hk => by injection hk with hk; omega)
  replace hF0 := hF0.turn hg7 hNg2
  replace hP := hP.turn hg7 hPg2
  have HSO7 := Lib.hid (HSO6.out.grown hg7 (fun k hk => by injection hk with hk; omega))
  have HSa7 := Lib.hid (HSa6.out.grown hg7 (fun k hk => by injection hk with hk; omega))
  have HSc := Lib.hid hSc
  have HLc := Lib.hid (And.intro hrc (And.intro htc hsc))
  obtain ⟨p9, d9, p10, d10, rfl, -⟩ := hSc.sysin
  clear hC6 hg7 hSc hrc htc hsc hbw6 HSO6 HSa6 HSb hC7
  refine hK _ _ ⟨⟨hF0, hP⟩, hR _ _ ?_⟩; clear hK K hR R
  clear w6
  repeat
    refine RX.step (fun R hR => ?_)
    first
    | (refine RX.one_skip (by first | rfl | (rw [HO.out]; rfl)) (by simp only [RX.put_some, RX.put_none, List.set_cons_zero, List.set_cons_succ]; rfl) ?_
       refine hR _ _ ?_; clear hR R)
    | (refine RX.one_move (by first | rfl | (rw [HO.out]; rfl)) rfl (by first | exact Or.inl rfl | exact Or.inr rfl) (by simp only [RX.eval_tmp, RX.eval_const, List.getD_cons_zero, List.getD_cons_succ]; rfl) (by simp only [RX.put_some, RX.put_none, List.set_cons_zero, List.set_cons_succ]; rfl) ?_
       refine hR _ _ ?_; clear hR R)
    | (refine RX.one_nil (by first | rfl | (rw [HO.out]; rfl)) rfl rfl (by simp only [RX.eval_tmp, RX.eval_const, List.getD_cons_zero, List.getD_cons_succ]; rfl) (by simp only [RX.put_some, RX.put_none, List.set_cons_zero, List.set_cons_succ]; rfl) ?_
       refine hR _ _ ?_; clear hR R)
    | (refine RX.one_float (by first | rfl | (rw [HO.out]; rfl)) rfl rfl rfl ?_
       apply Exists.intro; apply Exists.intro
       refine ⟨fun w' hS K hK => ?_, ?_, ?_⟩
       · obtain ⟨⟨y0, y1, y2, y3, y4⟩, z0, z1, z2, z3, z4⟩ := hS; go_wp2; exact hK _ _ (by simp only [RX.arr_getD, List.getD_cons_zero, List.getD_cons_succ]; first | exact RX.dec_t (by omega) | exact RX.dec_f (by omega) | exact RX.beq_t (by omega) | exact RX.beq_f (by omega) | exact RX.bne_t (by omega) | exact RX.bne_f (by omega) | exact RX.bneB _ | rfl) rfl
       · simp only [RX.put_some, RX.put_none, List.set_cons_zero, List.set_cons_succ]; rfl
       refine hR _ _ ?_; clear hR R)
  refine RX.step (fun R hR => ?_)
  refine RX.one_chain (by first | rfl | (rw [HO.out]; rfl)) rfl (fun K hK => ?_)
  go_wp2
  refine ⟨⟨hF0.below (by repeat (first | (with_reducible assumption) | (with_reducible exact Below.refl _ _) | (with_reducible refine Below.setCell ?_ (by first | omega | (simp; done) | (simp; omega)) _) | (with_reducible refine Below.alloc ?_ (by first | omega | (simp; done) | (simp; omega)) _) | (with_reducible apply Below.drew) | assumption)), hP.below (by repeat (first | (with_reducible assumption) | (with_reducible exact Below.refl _ _) | (with_reducible refine Below.setCell ?_ (by first | omega | (simp; done) | (simp; omega)) _) | (with_reducible refine Below.alloc ?_ (by first | omega | (simp; done) | (simp; omega)) _) | (with_reducible apply Below.drew) | assumption))⟩, hR _ _ ?_⟩; clear hR R
  repeat
    refine RX.step (fun R hR => ?_)
    first
    | (refine RX.one_skip (by first | rfl | (rw [HO.out]; rfl)) (by simp only [RX.put_some, RX.put_none, List.set_cons_zero, List.set_cons_succ]; rfl) ?_
       refine hR _ _ ?_; clear hR R)
    | (refine RX.one_move (by first | rfl | (rw [HO.out]; rfl)) rfl (by first | exact Or.inl rfl | exact Or.inr rfl) (by simp only [RX.eval_tmp, RX.eval_const, List.getD_cons_zero, List.getD_cons_succ]; rfl) (by simp only [RX.put_some, RX.put_none, List.set_cons_zero, List.set_cons_succ]; rfl) ?_
       refine hR _ _ ?_; clear hR R)
    | (refine RX.one_nil (by first | rfl | (rw [HO.out]; rfl)) rfl rfl (by simp only [RX.eval_tmp, RX.eval_const, List.getD_cons_zero, List.getD_cons_succ]; rfl) (by simp only [RX.put_some, RX.put_none, List.set_cons_zero, List.set_cons_succ]; rfl) ?_
       refine hR _ _ ?_; clear hR R)
    | (refine RX.one_float (by first | rfl | (rw [HO.out]; rfl)) rfl rfl rfl ?_
       apply Exists.intro; apply Exists.intro
       refine ⟨fun w' hS K hK => ?_, ?_, ?_⟩
       · obtain ⟨⟨y0, y1, y2, y3, y4⟩, z0, z1, z2, z3, z4⟩ := hS; go_wp2; exact hK _ _ (by simp only [RX.arr_getD, List.getD_cons_zero, List.getD_cons_succ]; first | exact RX.dec_t (by omega) | exact RX.dec_f (by omega) | exact RX.beq_t (by omega) | exact RX.beq_f (by omega) | exact RX.bne_t (by omega) | exact RX.bne_f (by omega) | exact RX.bneB _ | rfl) rfl
       · simp only [RX.put_some, RX.put_none, List.set_cons_zero, List.set_cons_succ]; rfl
       refine hR _ _ ?_; clear hR R)
  refine RX.wpL_nil (hQR _ _ (⟨hF0.below (by repeat (first | (with_reducible assumption) | (with_reducible exact Below.refl _ _) | (with_reducible refine Below.setCell ?_ (by first | omega | (simp; done) | (simp; omega)) _) | (with_reducible refine Below.alloc ?_ (by first | omega | (simp; done) | (simp; omega)) _) | (with_reducible apply Below.drew) | assumption)), hP.below (by repeat (first | (with_reducible assumption) | (with_reducible exact Below.refl _ _) | (with_reducible refine Below.setCell ?_ (by first | omega | (simp; done) | (simp; omega)) _) | (with_reducible refine Below.alloc ?_ (by first | omega | (simp; done) | (simp; omega)) _) | (with_reducible apply Below.drew) | assumption))⟩) ?_); clear hQR QR HO OPS
  have hA : ∀ k, k < 4 → SAt (w7.alloc (.cells #[.int .i64 S0.f, .int .i64 S0.s, .int .i64 S0.a, .slice p1 S0.rows.length c1, .slice p2 S0.targets.length c2, .int .i64 S.f, .int .i64 S.s, .int .i64 S.a, .slice p3 S.rows.length d1, .slice p4 S.targets.length d2, .int .i64 Sa.f, .int .i64 Sa.s, .int .i64 Sa.a, .slice p5 Sa.rows.length d5, .slice p6 Sa.targets.length d6, .int .i64 Sc.f, .int .i64 Sc.s, .int .i64 Sc.a, .slice p9 Sc.rows.length d9, .slice p10 Sc.targets.length d10] 27)) w7.heap.size k := fun k hk => by
    have hb8 : Below w7.heap.size w7 (w7.alloc (.cells #[.int .i64 S0.f, .int .i64 S0.s, .int .i64 S0.a, .slice p1 S0.rows.length c1, .slice p2 S0.targets.length c2, .int .i64 S.f, .int .i64 S.s, .int .i64 S.a, .slice p3 S.rows.length d1, .slice p4 S.targets.length d2, .int .i64 Sa.f, .int .i64 Sa.s, .int .i64 Sa.a, .slice p5 Sa.rows.length d5, .slice p6 Sa.targets.length d6, .int .i64 Sc.f, .int .i64 Sc.s, .int .i64 Sc.a, .slice p9 Sc.rows.length d9, .slice p10 Sc.targets.length d10] 27)) := (by repeat (first | (with_reducible assumption) | (with_reducible exact Below.refl _ _) | (with_reducible refine Below.setCell ?_ (by first | omega | (simp; done) | (simp; omega)) _) | (with_reducible refine Below.alloc ?_ (by first | omega | (simp; done) | (simp; omega)) _) | (with_reducible apply Below.drew) | assumption))
    match k, hk with
    | 0, _ => exact ⟨S0, p1, c1, p2, c2, ⟨(by simp [RX.cell_drew, RX.cell_alloc, Nat.add_assoc]), (by simp [RX.cell_drew, RX.cell_alloc, Nat.add_assoc]), (by simp [RX.cell_drew, RX.cell_alloc, Nat.add_assoc]), (by simp [RX.cell_drew, RX.cell_alloc, Nat.add_assoc]), (by simp [RX.cell_drew, RX.cell_alloc, Nat.add_assoc])⟩, HS0.out.below (hB.trans (hb8.mono hB.size)), HL0.out⟩
    | 1, _ => exact ⟨S, p3, d1, p4, d2, ⟨(by simp [RX.cell_drew, RX.cell_alloc, Nat.add_assoc]), (by simp [RX.cell_drew, RX.cell_alloc, Nat.add_assoc]), (by simp [RX.cell_drew, RX.cell_alloc, Nat.add_assoc]), (by simp [RX.cell_drew, RX.cell_alloc, Nat.add_assoc]), (by simp [RX.cell_drew, RX.cell_alloc, Nat.add_assoc])⟩, HSO7.out.sysin.below hb8, by have := hSr1.out; omega, by have := hSr1.out; have := hSt.out; omega, fun r hr => by have := hS8.out r hr; omega⟩
    | 2, _ => exact ⟨Sa, p5, d5, p6, d6, ⟨(by simp [RX.cell_drew, RX.cell_alloc, Nat.add_assoc]), (by simp [RX.cell_drew, RX.cell_alloc, Nat.add_assoc]), (by simp [RX.cell_drew, RX.cell_alloc, Nat.add_assoc]), (by simp [RX.cell_drew, RX.cell_alloc, Nat.add_assoc]), (by simp [RX.cell_drew, RX.cell_alloc, Nat.add_assoc])⟩, HSa7.out.sysin.below hb8, by have := hSr1.out; have := HLa.out.1; omega, by have := hSr1.out; have := hSt.out; have := HLa.out.2.1; omega, fun r hr => by have := HLa.out.2.2 r hr; omega⟩
    | 3, _ => exact ⟨Sc, p9, d9, p10, d10, ⟨(by simp [RX.cell_drew, RX.cell_alloc, Nat.add_assoc]), (by simp [RX.cell_drew, RX.cell_alloc, Nat.add_assoc]), (by simp [RX.cell_drew, RX.cell_alloc, Nat.add_assoc]), (by simp [RX.cell_drew, RX.cell_alloc, Nat.add_assoc]), (by simp [RX.cell_drew, RX.cell_alloc, Nat.add_assoc])⟩, HSc.out.sysin.below hb8, by have := hSr1.out; have := HLb.out.1; have := HLc.out.1; omega, by have := hSr1.out; have := hSt.out; have := HLb.out.2.1; have := HLc.out.2.1; omega, fun r hr => by have := HLc.out.2.2 r hr; omega⟩
    | k + 4, hk => omega
  have HA := Lib.hid hA
  have hSI8 : SysIn (w7.alloc (.cells #[.int .i64 S0.f, .int .i64 S0.s, .int .i64 S0.a, .slice p1 S0.rows.length c1, .slice p2 S0.targets.length c2, .int .i64 S.f, .int .i64 S.s, .int .i64 S.a, .slice p3 S.rows.length d1, .slice p4 S.targets.length d2, .int .i64 Sa.f, .int .i64 Sa.s, .int .i64 Sa.a, .slice p5 Sa.rows.length d5, .slice p6 Sa.targets.length d6, .int .i64 Sc.f, .int .i64 Sc.s, .int .i64 Sc.a, .slice p9 Sc.rows.length d9, .slice p10 Sc.targets.length d10] 27)) (.agg #[.int .i64 S.f, .int .i64 S.s, .int .i64 S.a, .slice p3 S.rows.length d1, .slice p4 S.targets.length d2]) S := HSO7.out.sysin.below (by repeat (first | (with_reducible assumption) | (with_reducible exact Below.refl _ _) | (with_reducible refine Below.setCell ?_ (by first | omega | (simp; done) | (simp; omega)) _) | (with_reducible refine Below.alloc ?_ (by first | omega | (simp; done) | (simp; omega)) _) | (with_reducible apply Below.drew) | assumption))
  have hP8 : Five (w7.alloc (.cells #[.int .i64 S0.f, .int .i64 S0.s, .int .i64 S0.a, .slice p1 S0.rows.length c1, .slice p2 S0.targets.length c2, .int .i64 S.f, .int .i64 S.s, .int .i64 S.a, .slice p3 S.rows.length d1, .slice p4 S.targets.length d2, .int .i64 Sa.f, .int .i64 Sa.s, .int .i64 Sa.a, .slice p5 Sa.rows.length d5, .slice p6 Sa.targets.length d6, .int .i64 Sc.f, .int .i64 Sc.s, .int .i64 Sc.a, .slice p9 Sc.rows.length d9, .slice p10 Sc.targets.length d10] 27)) P S.f S.s S.a (.slice p3 S.rows.length d1) (.slice p4 S.targets.length d2) := hP.below (by repeat (first | (with_reducible assumption) | (with_reducible exact Below.refl _ _) | (with_reducible refine Below.setCell ?_ (by first | omega | (simp; done) | (simp; omega)) _) | (with_reducible refine Below.alloc ?_ (by first | omega | (simp; done) | (simp; omega)) _) | (with_reducible apply Below.drew) | assumption))
  have hB8 : Below W.heap.size W (w7.alloc (.cells #[.int .i64 S0.f, .int .i64 S0.s, .int .i64 S0.a, .slice p1 S0.rows.length c1, .slice p2 S0.targets.length c2, .int .i64 S.f, .int .i64 S.s, .int .i64 S.a, .slice p3 S.rows.length d1, .slice p4 S.targets.length d2, .int .i64 Sa.f, .int .i64 Sa.s, .int .i64 Sa.a, .slice p5 Sa.rows.length d5, .slice p6 Sa.targets.length d6, .int .i64 Sc.f, .int .i64 Sc.s, .int .i64 Sc.a, .slice p9 Sc.rows.length d9, .slice p10 Sc.targets.length d10] 27)) := hB.trans ((show Below w7.heap.size w7 (w7.alloc (.cells #[.int .i64 S0.f, .int .i64 S0.s, .int .i64 S0.a, .slice p1 S0.rows.length c1, .slice p2 S0.targets.length c2, .int .i64 S.f, .int .i64 S.s, .int .i64 S.a, .slice p3 S.rows.length d1, .slice p4 S.targets.length d2, .int .i64 Sa.f, .int .i64 Sa.s, .int .i64 Sa.a, .slice p5 Sa.rows.length d5, .slice p6 Sa.targets.length d6, .int .i64 Sc.f, .int .i64 Sc.s, .int .i64 Sc.a, .slice p9 Sc.rows.length d9, .slice p10 Sc.targets.length d10] 27)) from (by repeat (first | (with_reducible assumption) | (with_reducible exact Below.refl _ _) | (with_reducible refine Below.setCell ?_ (by first | omega | (simp; done) | (simp; omega)) _) | (with_reducible refine Below.alloc ?_ (by first | omega | (simp; done) | (simp; omega)) _) | (with_reducible apply Below.drew) | assumption))).mono hB.size)
  have HSL : Hid (SyLen S) := Lib.hid ⟨by have := hSr1.out; omega, by have := hSr1.out; have := hSt.out; omega, fun r hr => by have := hS8.out r hr; omega⟩
  have HSI := Lib.hid hSI8
  clear hA hSI8 hP hB hF0 HSO7 HSa7 HSc HLa HLb HLc
  obtain ⟨A, hAe⟩ : ∃ A, A = w7.heap.size := ⟨_, rfl⟩
  rw [← hAe] at HA ⊢
  clear hAe
  generalize (w7.alloc (.cells #[.int .i64 S0.f, .int .i64 S0.s, .int .i64 S0.a, .slice p1 S0.rows.length c1, .slice p2 S0.targets.length c2, .int .i64 S.f, .int .i64 S.s, .int .i64 S.a, .slice p3 S.rows.length d1, .slice p4 S.targets.length d2, .int .i64 Sa.f, .int .i64 Sa.s, .int .i64 Sa.a, .slice p5 Sa.rows.length d5, .slice p6 Sa.targets.length d6, .int .i64 Sc.f, .int .i64 Sc.s, .int .i64 Sc.a, .slice p9 Sc.rows.length d9, .slice p10 Sc.targets.length d10] 27)) = W8 at *
  clear w7
  go_wp2
  go_loopw [37] (fun i wr => ∃ k : Nat, k ≤ 4 ∧ i = .int .i64 k ∧ Below W8.heap.size W8 wr) (fun i _ => 4 - (intOf i).toNat)
  case atStart => exact ⟨0, by omega, rfl, Below.refl _ _⟩
  case round =>
    obtain ⟨k, hk, rfl, hb⟩ := hrel
    by_cases hlt : k < 4
    · obtain ⟨Sk, p, c, p', c', ⟨k0, k1, k2, k3, k4⟩, hin, hln⟩ := (HA.out k hlt).below hb
      have hk0 : (0 : Int) ≤ (k : Int) := by omega
      have hk4 : (k : Int) < 4 := by omega
      have HIN := Lib.hid hin
      clear hin
      go_wp2
      clear k0 k1 k2 k3 k4
      have h5 : Five (wr.alloc (.cells #[.int .i64 Sk.f, .int .i64 Sk.s, .int .i64 Sk.a, .slice p Sk.rows.length c, .slice p' Sk.targets.length c'] 27)) wr.heap.size Sk.f Sk.s Sk.a (.slice p Sk.rows.length c) (.slice p' Sk.targets.length c') := ⟨(by simp [RX.cell_drew, RX.cell_alloc, Nat.add_assoc]), (by simp [RX.cell_drew, RX.cell_alloc, Nat.add_assoc]), (by simp [RX.cell_drew, RX.cell_alloc, Nat.add_assoc]), (by simp [RX.cell_drew, RX.cell_alloc, Nat.add_assoc]), (by simp [RX.cell_drew, RX.cell_alloc, Nat.add_assoc])⟩
      have hb5 : Below wr.heap.size wr (wr.alloc (.cells #[.int .i64 Sk.f, .int .i64 Sk.s, .int .i64 Sk.a, .slice p Sk.rows.length c, .slice p' Sk.targets.length c'] 27)) := (by repeat (first | (with_reducible assumption) | (with_reducible exact Below.refl _ _) | (with_reducible refine Below.setCell ?_ (by first | omega | (simp; done) | (simp; omega)) _) | (with_reducible refine Below.alloc ?_ (by first | omega | (simp; done) | (simp; omega)) _) | (with_reducible apply Below.drew) | assumption))
      have HI5 := Lib.hid (HIN.out.below hb5)
      have hb6 : Below W8.heap.size W8 (wr.alloc (.cells #[.int .i64 Sk.f, .int .i64 Sk.s, .int .i64 Sk.a, .slice p Sk.rows.length c, .slice p' Sk.targets.length c'] 27)) := hb.trans (hb5.mono hb.size)
      obtain ⟨Q, hQ⟩ : ∃ Q, Q = wr.heap.size := ⟨_, rfl⟩
      rw [← hQ] at h5 ⊢
      clear hQ hb5 hb HIN
      generalize (wr.alloc (.cells #[.int .i64 Sk.f, .int .i64 Sk.s, .int .i64 Sk.a, .slice p Sk.rows.length c, .slice p' Sk.targets.length c'] 27)) = W9 at *
      clear wr
      have HC1 : Hid (∀ w', SysIn w' (.agg #[.int .i64 Sk.f, .int .i64 Sk.s, .int .i64 Sk.a, .slice p Sk.rows.length c, .slice p' Sk.targets.length c']) Sk → Calls Tryz.prog 12 #[.agg #[.int .i64 Sk.f, .int .i64 Sk.s, .int .i64 Sk.a, .slice p Sk.rows.length c, .slice p' Sk.targets.length c']] w' fun e w'' => e = .returned (.int .i64 (sysErr Sk)) ∧ Below w'.heap.size w' w'') := Lib.hid (fun w' h => ccheck_any Sk _ w' h hln)
      have HC2 : Hid (∀ w', SysIn w' (.agg #[.int .i64 Sk.f, .int .i64 Sk.s, .int .i64 Sk.a, .slice p Sk.rows.length c, .slice p' Sk.targets.length c']) Sk → Calls Tryz.prog 13 #[.agg #[.int .i64 Sk.f, .int .i64 Sk.s, .int .i64 Sk.a, .slice p Sk.rows.length c, .slice p' Sk.targets.length c']] w' fun e w'' => e = .returned (.int .i64 (sysErr Sk)) ∧ Below w'.heap.size w' w'') := Lib.hid (fun w' h => rccheck_any Sk _ w' h hln)
      clear hln
      obtain ⟨E, hE⟩ : ∃ E, E = sysErr Sk := ⟨_, rfl⟩
      rw [← hE] at HC1 HC2
      clear hE
      refine RX.region RX.fL (fun w' => Five w' Q Sk.f Sk.s Sk.a (.slice p Sk.rows.length c) (.slice p' Sk.targets.length c')) (by kernel_rfl) (by kernel_rfl) (h5) (fun OPS HO QR hQR => ?_)
      repeat
        refine RX.step (fun R hR => ?_)
        first
        | (refine RX.one_skip (by first | rfl | (rw [HO.out]; rfl)) (by simp only [RX.put_some, RX.put_none, List.set_cons_zero, List.set_cons_succ]; rfl) ?_
           refine hR _ _ ?_; clear hR R)
        | (refine RX.one_move (by first | rfl | (rw [HO.out]; rfl)) rfl (by first | exact Or.inl rfl | exact Or.inr rfl) (by simp only [RX.eval_tmp, RX.eval_const, List.getD_cons_zero, List.getD_cons_succ]; rfl) (by simp only [RX.put_some, RX.put_none, List.set_cons_zero, List.set_cons_succ]; rfl) ?_
           refine hR _ _ ?_; clear hR R)
        | (refine RX.one_nil (by first | rfl | (rw [HO.out]; rfl)) rfl rfl (by simp only [RX.eval_tmp, RX.eval_const, List.getD_cons_zero, List.getD_cons_succ]; rfl) (by simp only [RX.put_some, RX.put_none, List.set_cons_zero, List.set_cons_succ]; rfl) ?_
           refine hR _ _ ?_; clear hR R)
        | (refine RX.one_float (by first | rfl | (rw [HO.out]; rfl)) rfl rfl rfl ?_
           apply Exists.intro; apply Exists.intro
           refine ⟨fun w' hS K hK => ?_, ?_, ?_⟩
           · obtain ⟨y0, y1, y2, y3, y4⟩ := hS; go_wp2; exact hK _ _ (by simp only [RX.arr_getD, List.getD_cons_zero, List.getD_cons_succ]; first | exact RX.dec_t (by omega) | exact RX.dec_f (by omega) | exact RX.beq_t (by omega) | exact RX.beq_f (by omega) | exact RX.bne_t (by omega) | exact RX.bne_f (by omega) | exact RX.bneB _ | rfl) rfl
           · simp only [RX.put_some, RX.put_none, List.set_cons_zero, List.set_cons_succ]; rfl
           refine hR _ _ ?_; clear hR R)
      refine RX.step (fun R hR => ?_)
      refine RX.one_chain (by first | rfl | (rw [HO.out]; rfl)) rfl (fun K hK => ?_)
      go_wp2_with fail
      refine (HC1.out W9.drew (HI5.out.below (by repeat (first | (with_reducible assumption) | (with_reducible exact Below.refl _ _) | (with_reducible refine Below.setCell ?_ (by first | omega | (simp; done) | (simp; omega)) _) | (with_reducible refine Below.alloc ?_ (by first | omega | (simp; done) | (simp; omega)) _) | (with_reducible apply Below.drew) | assumption)))).mono ?_
      rintro e w10 ⟨rfl, hb7⟩
      have hb8 : Below W9.heap.size W9 w10 := (show Below W9.heap.size W9 W9.drew from (by repeat (first | (with_reducible assumption) | (with_reducible exact Below.refl _ _) | (with_reducible refine Below.setCell ?_ (by first | omega | (simp; done) | (simp; omega)) _) | (with_reducible refine Below.alloc ?_ (by first | omega | (simp; done) | (simp; omega)) _) | (with_reducible apply Below.drew) | assumption))).trans hb7
      have h5a := h5.below hb8
      have HI6 := Lib.hid (HI5.out.below hb8)
      have hb9 := hb6.trans (hb8.mono hb6.size)
      clear hb7 hb8 HI5 hb6 h5
      refine hK _ _ ⟨h5a, hR _ _ ?_⟩; clear hK K hR R
      clear W9
      repeat
        refine RX.step (fun R hR => ?_)
        first
        | (refine RX.one_skip (by first | rfl | (rw [HO.out]; rfl)) (by simp only [RX.put_some, RX.put_none, List.set_cons_zero, List.set_cons_succ]; rfl) ?_
           refine hR _ _ ?_; clear hR R)
        | (refine RX.one_move (by first | rfl | (rw [HO.out]; rfl)) rfl (by first | exact Or.inl rfl | exact Or.inr rfl) (by simp only [RX.eval_tmp, RX.eval_const, List.getD_cons_zero, List.getD_cons_succ]; rfl) (by simp only [RX.put_some, RX.put_none, List.set_cons_zero, List.set_cons_succ]; rfl) ?_
           refine hR _ _ ?_; clear hR R)
        | (refine RX.one_nil (by first | rfl | (rw [HO.out]; rfl)) rfl rfl (by simp only [RX.eval_tmp, RX.eval_const, List.getD_cons_zero, List.getD_cons_succ]; rfl) (by simp only [RX.put_some, RX.put_none, List.set_cons_zero, List.set_cons_succ]; rfl) ?_
           refine hR _ _ ?_; clear hR R)
        | (refine RX.one_float (by first | rfl | (rw [HO.out]; rfl)) rfl rfl rfl ?_
           apply Exists.intro; apply Exists.intro
           refine ⟨fun w' hS K hK => ?_, ?_, ?_⟩
           · obtain ⟨y0, y1, y2, y3, y4⟩ := hS; go_wp2; exact hK _ _ (by simp only [RX.arr_getD, List.getD_cons_zero, List.getD_cons_succ]; first | exact RX.dec_t (by omega) | exact RX.dec_f (by omega) | exact RX.beq_t (by omega) | exact RX.beq_f (by omega) | exact RX.bne_t (by omega) | exact RX.bne_f (by omega) | exact RX.bneB _ | rfl) rfl
           · simp only [RX.put_some, RX.put_none, List.set_cons_zero, List.set_cons_succ]; rfl
           refine hR _ _ ?_; clear hR R)
      refine RX.step (fun R hR => ?_)
      refine RX.one_chain (by first | rfl | (rw [HO.out]; rfl)) rfl (fun K hK => ?_)
      go_wp2_with fail
      refine (HC2.out w10 HI6.out).mono ?_
      rintro e w11 ⟨rfl, hb7⟩
      have h5b := h5a.below hb7
      have hb10 := hb9.trans (hb7.mono hb9.size)
      clear hb7 HI6 hb9 h5a
      refine hK _ _ ⟨h5b, hR _ _ ?_⟩; clear hK K hR R
      clear w10
      repeat
        refine RX.step (fun R hR => ?_)
        first
        | (refine RX.one_skip (by first | rfl | (rw [HO.out]; rfl)) (by simp only [RX.put_some, RX.put_none, List.set_cons_zero, List.set_cons_succ]; rfl) ?_
           refine hR _ _ ?_; clear hR R)
        | (refine RX.one_move (by first | rfl | (rw [HO.out]; rfl)) rfl (by first | exact Or.inl rfl | exact Or.inr rfl) (by simp only [RX.eval_tmp, RX.eval_const, List.getD_cons_zero, List.getD_cons_succ]; rfl) (by simp only [RX.put_some, RX.put_none, List.set_cons_zero, List.set_cons_succ]; rfl) ?_
           refine hR _ _ ?_; clear hR R)
        | (refine RX.one_nil (by first | rfl | (rw [HO.out]; rfl)) rfl rfl (by simp only [RX.eval_tmp, RX.eval_const, List.getD_cons_zero, List.getD_cons_succ]; rfl) (by simp only [RX.put_some, RX.put_none, List.set_cons_zero, List.set_cons_succ]; rfl) ?_
           refine hR _ _ ?_; clear hR R)
        | (refine RX.one_float (by first | rfl | (rw [HO.out]; rfl)) rfl rfl rfl ?_
           apply Exists.intro; apply Exists.intro
           refine ⟨fun w' hS K hK => ?_, ?_, ?_⟩
           · obtain ⟨y0, y1, y2, y3, y4⟩ := hS; go_wp2; exact hK _ _ (by simp only [RX.arr_getD, List.getD_cons_zero, List.getD_cons_succ]; first | exact RX.dec_t (by omega) | exact RX.dec_f (by omega) | exact RX.beq_t (by omega) | exact RX.beq_f (by omega) | exact RX.bne_t (by omega) | exact RX.bne_f (by omega) | exact RX.bneB _ | rfl) rfl
           · simp only [RX.put_some, RX.put_none, List.set_cons_zero, List.set_cons_succ]; rfl
           refine hR _ _ ?_; clear hR R)
      refine RX.wpL_nil (hQR _ _ (h5b) ?_); clear hQR QR HO OPS
      clear h5b
      go_wp2
      go_roundw
      case rel => exact ⟨k + 1, by omega, by go_num, hb10⟩
      case measure => simp [intOf]; omega
    · have hk4 : decide ((k : Int) < 4) = false := decide_eq_false (by omega)
      have hin := HSI.out.below hb
      have hP9 := hP8.below hb
      have hB9 := hB8.trans (hb.mono hB8.size)
      clear hP8 hb hB8 HA
      obtain ⟨y0, y1, y2, y3, y4⟩ := hP9
      go_wp2_with fail
      refine (ccheck_any S _ _ hin HSL.out).mono ?_
      rintro e w9 ⟨rfl, hb⟩
      rw [syOk_iff.2 HOK.out]
      have hB9 := hB9.trans (hb.mono hB9.size)
      go_wp2
      refine bodyPost_ret (v := .bool true) ?_ rfl ⟨rfl, hB9⟩
      simp [results, Tryz.results3, go_sem]
end Go.Proofs.YtojkamfabapcoaaGreatDoor
