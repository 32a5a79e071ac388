import Derived.Test.YtpbfgnffkhabnaaDoorLinQ
import Derived.Test.YtpbfgnffkhabnaaDoorKAwake
import Derived.Test.YtpbfgnffkhabnaaDoorWideLaw
set_option linter.unusedSimpArgs false
set_option linter.unusedVariables false
namespace Go.Proofs.YtpbfgnffkhabnaaDoor
open Go.RowKit Go.Grid Go.Maps Go.Sort Go.Shelf

/-- A precision in block g. -/
def Three (w : World) (g : Nat) (f s a : Int) : Prop := w.cell? ⟨g, 0, none⟩ = some (.int .i64 f) ∧ w.cell? ⟨g, 1, none⟩ = some (.int .i64 s) ∧ w.cell? ⟨g, 2, none⟩ = some (.int .i64 a)
theorem Three.keep {w w' : World} {g : Nat} {f s a : Int} (h : Three w g f s a) (hb : Below w.heap.size w w') : Three w' g f s a := ⟨RX.keep hb h.1, RX.keep hb h.2.1, RX.keep hb h.2.2⟩
theorem Three.turn {w w' : World} {g k : Nat} {f s a : Int} (h : Three w g f s a) (hg : w.grownBy w' (some k)) (hne : g ≠ k) : Three w' g f s a := ⟨hg.cell h.1 (by simpa using hne), hg.cell h.2.1 (by simpa using hne), hg.cell h.2.2 (by simpa using hne)⟩
theorem len42 {n k : Nat} (h1 : 1 ≤ n) (h2 : n ≤ 2) (h : (k : Int) = 10 * (n : Int) * n + 2) : 12 ≤ k ∧ k ≤ 42 := by
  have : n = 1 ∨ n = 2 := by omega
  rcases this with rfl | rfl <;> omega
/-- The reader and the precision that it has made: how a law of this chapter begins. -/
theorem start_any (W : World) (q : Option Addr) (cap cb co most : Nat) (L : List Int) (w : World) (hm : most ≤ 240) (hp : 0 < L.length → q = some ⟨cb, co, none⟩) (hl : L.length ≤ cap) (hc : cap ≤ 9223372036854775807)
    (hcell : ∀ k (h : k < L.length), W.cell? ⟨cb, co + k, none⟩ = some (.int .u8 L[k]) ∧ 0 ≤ L[k] ∧ L[k] < 256) (hB : Below W.heap.size W w) :
    Calls Tryd.prog 35 #[.slice q L.length cap, .int .i64 most] w fun e w' => ∃ (g b : Nat) (M : List Int), e = .returned (.pointer (some ⟨g, 0, none⟩)) ∧ g = w.heap.size ∧ Below w.heap.size w w' ∧ (0 < M.length → b < w.heap.size) ∧ CodesAt w' g b M 0 := by
  refine (new_any w q cap cb co most L hm hp hl hc (fun k hk => ⟨RX.keep hB (hcell k hk).1, (hcell k hk).2⟩)).mono ?_
  rintro e w' ⟨rfl, hb, b', hb', hC⟩
  exact ⟨w.heap.size, b', L.take most, rfl, rfl, hb, fun h0 => hb' (by simp at h0; omega), hC⟩

set_option maxRecDepth 100000 in
set_option maxHeartbeats 3000000 in
theorem linear_law (W : World) (q : Option Addr) (cap cb co : Nat) (L : List Int) (hp : 0 < L.length → q = some ⟨cb, co, none⟩) (hl : L.length ≤ cap) (hc : cap ≤ 9223372036854775807)
    (hcell : ∀ k (h : k < L.length), W.cell? ⟨cb, co + k, none⟩ = some (.int .u8 L[k]) ∧ 0 ≤ L[k] ∧ L[k] < 256) (hT : HasTab W) :
    Calls Tryd.prog 7 #[.slice q L.length cap] W fun e w' => e = .returned (.bool true) ∧ Below W.heap.size W w' := by
  have HIN := Lib.hid (And.intro hp hcell)
  clear hp hcell
  go_enter Tryd.func7, Tryd.ntmps7
  go_wp2_with fail
  refine (awake22_any W hT).mono ?_
  rintro e w1 ⟨rfl, hB⟩
  go_wp2_with fail
  refine (start_any W q cap cb co 160 L w1 (by omega) HIN.out.1 hl hc HIN.out.2 hB).mono ?_
  rintro e w2 ⟨g, b, M, rfl, hg, hb2, hbM, hC⟩
  have hgW : W.heap.size ≤ g := by have := hB.size; omega
  replace hB := hB.trans (hb2.mono hB.size)
  have hgl := hC.lt
  have hbg : 0 < M.length → b < g := fun h0 => by have := hbM h0; omega
  clear hb2 hbM hg HIN hl hc
  clear w1
  go_wp2_with fail
  refine (cprec_any w2 g b M 0 hC).mono ?_
  rintro e w3 ⟨f, s, a, rfl, hPC, hg3, j3, hC3⟩
  obtain ⟨hOk, n, rfl, hn1, hn2⟩ := prc_ok hPC
  obtain ⟨_, _, hs0, hs1, ha0, ha1⟩ := hOk
  replace hB := hB.grown hg3 hB.size (fun k hk => by injection hk with hk; omega)
  have hs3 := hg3.size
  clear hC hg3
  have hpv : Hid (prv n s a = .agg #[.int .i64 n, .int .i64 s, .int .i64 a]) := Lib.hid rfl
  rw [hpv.out]
  go_wp2
  have hP : Three (w3.alloc (.cells #[.int .i64 n, .int .i64 s, .int .i64 a] 69)) w3.heap.size n s a := ⟨(by simp [RX.cell_drew, RX.cell_alloc, Nat.add_assoc]), (by simp [RX.cell_drew, RX.cell_alloc, Nat.add_assoc]), (by simp [RX.cell_drew, RX.cell_alloc, Nat.add_assoc])⟩
  have hb4 := (Below.refl w3.heap.size w3).alloc (Nat.le_refl _) (.cells #[.int .i64 n, .int .i64 s, .int .i64 a] 69)
  replace hB := hB.trans (hb4.mono hB.size)
  have hC4 := hC3.below hb4
  have hs4 : w3.heap.size < (w3.alloc (.cells #[.int .i64 n, .int .i64 s, .int .i64 a] 69)).heap.size := by simp
  have hP0 : w3.heap.size ≠ g := by omega
  obtain ⟨P, hPe⟩ : ∃ P, P = w3.heap.size := ⟨_, rfl⟩
  have hgP : g < P := by omega
  rw [← hPe] at hP hs4 hP0 ⊢
  clear hC3 hb4 hPe hs3
  generalize (w3.alloc (.cells #[.int .i64 n, .int .i64 s, .int .i64 a] 69)) = W4 at *
  clear w3 hgl
  clear w2
  have hgl4 : g < W4.heap.size := by omega
  refine RX.region RX.fL (fun w' => Three w' P n s a) (by kernel_rfl) (by kernel_rfl) (hP) (fun OPS HO QR hQR => ?_)
  have hC := hC4.kept (w' := W4.drew) rfl (fun _ => rfl)
  clear hC4
  repeat
    refine RX.step (fun R hR => ?_)
    first
    | (refine RX.one_skip (by first | rfl | (rw [HO.out]; rfl)) (by simp only [RX.put_some, RX.put_none, List.set_cons_zero, List.set_cons_succ]; rfl) ?_
       refine hR _ _ ?_; clear hR R)
    | (refine RX.one_move (by first | rfl | (rw [HO.out]; rfl)) rfl (by first | exact Or.inl rfl | exact Or.inr rfl) (by simp only [RX.eval_tmp, RX.eval_const, List.getD_cons_zero, List.getD_cons_succ]; rfl) (by simp only [RX.put_some, RX.put_none, List.set_cons_zero, List.set_cons_succ]; rfl) ?_
       refine hR _ _ ?_; clear hR R)
    | (refine RX.one_nil (by first | rfl | (rw [HO.out]; rfl)) rfl rfl (by simp only [RX.eval_tmp, RX.eval_const, List.getD_cons_zero, List.getD_cons_succ]; rfl) (by simp only [RX.put_some, RX.put_none, List.set_cons_zero, List.set_cons_succ]; rfl) ?_
       refine hR _ _ ?_; clear hR R)
    | (refine RX.one_float (by first | rfl | (rw [HO.out]; rfl)) rfl rfl rfl ?_
       apply Exists.intro; apply Exists.intro
       refine ⟨fun w' hS K hK => ?_, ?_, ?_⟩
       · obtain ⟨hS1, hS2, hS3⟩ := hS; go_wp2; exact hK _ _ (by simp only [RX.arr_getD, List.getD_cons_zero, List.getD_cons_succ]; first | exact RX.dec_t (by omega) | exact RX.dec_f (by omega) | exact RX.beq_t (by omega) | exact RX.beq_f (by omega) | exact RX.bne_t (by omega) | exact RX.bne_f (by omega) | exact RX.bneB _ | rfl) rfl
       · simp only [RX.put_some, RX.put_none, List.set_cons_zero, List.set_cons_succ]; rfl
       refine hR _ _ ?_; clear hR R)
  refine RX.step (fun R hR => ?_)
  refine RX.one_chain (by first | rfl | (rw [HO.out]; rfl)) rfl (fun K hK => ?_)
  go_wp2_with fail
  refine (cfor_any _ g b M j3 n s a hC (fun h0 => by have := hbg h0; simp; omega) hPC).mono ?_
  rintro e w5 ⟨v5, z1, rfl, hl1, hW1, hr1, hg5, j5, hC5⟩
  have hg5 : W4.grownBy w5 (some g) := ⟨hg5.os, hg5.tape, hg5.output, hg5.size, hg5.block⟩
  replace hB := hB.grown hg5 hB.size (fun k hk => by injection hk with hk; omega)
  replace hP := hP.turn hg5 hP0
  have hgl5 : g < w5.heap.size := Nat.lt_of_lt_of_le hgl4 hg5.size
  obtain ⟨p5, c5, rfl, hV5⟩ := hr1.vec
  have hk1 := len42 hn1 hn2 hl1
  have HL1 := Lib.hid (And.intro hl1 (And.intro hW1 hr1))
  clear hC hg5 hgl4 hl1 hr1
  refine hK _ _ ⟨hP, hR _ _ ?_⟩; clear hK K hR R
  repeat
    refine RX.step (fun R hR => ?_)
    first
    | (refine RX.one_skip (by first | rfl | (rw [HO.out]; rfl)) (by simp only [RX.put_some, RX.put_none, List.set_cons_zero, List.set_cons_succ]; rfl) ?_
       refine hR _ _ ?_; clear hR R)
    | (refine RX.one_move (by first | rfl | (rw [HO.out]; rfl)) rfl (by first | exact Or.inl rfl | exact Or.inr rfl) (by simp only [RX.eval_tmp, RX.eval_const, List.getD_cons_zero, List.getD_cons_succ]; rfl) (by simp only [RX.put_some, RX.put_none, List.set_cons_zero, List.set_cons_succ]; rfl) ?_
       refine hR _ _ ?_; clear hR R)
    | (refine RX.one_nil (by first | rfl | (rw [HO.out]; rfl)) rfl rfl (by simp only [RX.eval_tmp, RX.eval_const, List.getD_cons_zero, List.getD_cons_succ]; rfl) (by simp only [RX.put_some, RX.put_none, List.set_cons_zero, List.set_cons_succ]; rfl) ?_
       refine hR _ _ ?_; clear hR R)
    | (refine RX.one_float (by first | rfl | (rw [HO.out]; rfl)) rfl rfl rfl ?_
       apply Exists.intro; apply Exists.intro
       refine ⟨fun w' hS K hK => ?_, ?_, ?_⟩
       · obtain ⟨hS1, hS2, hS3⟩ := hS; go_wp2; exact hK _ _ (by simp only [RX.arr_getD, List.getD_cons_zero, List.getD_cons_succ]; first | exact RX.dec_t (by omega) | exact RX.dec_f (by omega) | exact RX.beq_t (by omega) | exact RX.beq_f (by omega) | exact RX.bne_t (by omega) | exact RX.bne_f (by omega) | exact RX.bneB _ | rfl) rfl
       · simp only [RX.put_some, RX.put_none, List.set_cons_zero, List.set_cons_succ]; rfl
       refine hR _ _ ?_; clear hR R)
  refine RX.step (fun R hR => ?_)
  refine RX.one_chain (by first | rfl | (rw [HO.out]; rfl)) rfl (fun K hK => ?_)
  go_wp2_with fail
  refine (halves_any p5 z1 c5 _ hV5 (by omega) hW1).mono ?_
  rintro e w6 ⟨v6, rfl, hr6, hb6⟩
  replace hB := hB.trans (hb6.mono hB.size)
  replace hP := hP.keep hb6
  have hC6 := hC5.below hb6
  have hgl6 : g < w6.heap.size := Nat.lt_of_lt_of_le hgl5 hb6.size
  have hbase6 : g < w5.heap.size := hgl5
  obtain ⟨p6, c6, rfl, -⟩ := hr6.vec
  rw [halves_len]
  have hX := halves_within hW1
  have HXL : Hid ((halvesL z1).length = z1.length) := Lib.hid (halves_len z1)
  have HL1' := Lib.hid HL1.out.1
  generalize halvesL z1 = x at *
  clear hV5 hC5 hgl5 hb6 HL1 hW1
  refine hK _ _ ⟨hP, hR _ _ ?_⟩; clear hK K hR R
  repeat
    refine RX.step (fun R hR => ?_)
    first
    | (refine RX.one_skip (by first | rfl | (rw [HO.out]; rfl)) (by simp only [RX.put_some, RX.put_none, List.set_cons_zero, List.set_cons_succ]; rfl) ?_
       refine hR _ _ ?_; clear hR R)
    | (refine RX.one_move (by first | rfl | (rw [HO.out]; rfl)) rfl (by first | exact Or.inl rfl | exact Or.inr rfl) (by simp only [RX.eval_tmp, RX.eval_const, List.getD_cons_zero, List.getD_cons_succ]; rfl) (by simp only [RX.put_some, RX.put_none, List.set_cons_zero, List.set_cons_succ]; rfl) ?_
       refine hR _ _ ?_; clear hR R)
    | (refine RX.one_nil (by first | rfl | (rw [HO.out]; rfl)) rfl rfl (by simp only [RX.eval_tmp, RX.eval_const, List.getD_cons_zero, List.getD_cons_succ]; rfl) (by simp only [RX.put_some, RX.put_none, List.set_cons_zero, List.set_cons_succ]; rfl) ?_
       refine hR _ _ ?_; clear hR R)
    | (refine RX.one_float (by first | rfl | (rw [HO.out]; rfl)) rfl rfl rfl ?_
       apply Exists.intro; apply Exists.intro
       refine ⟨fun w' hS K hK => ?_, ?_, ?_⟩
       · obtain ⟨hS1, hS2, hS3⟩ := hS; go_wp2; exact hK _ _ (by simp only [RX.arr_getD, List.getD_cons_zero, List.getD_cons_succ]; first | exact RX.dec_t (by omega) | exact RX.dec_f (by omega) | exact RX.beq_t (by omega) | exact RX.beq_f (by omega) | exact RX.bne_t (by omega) | exact RX.bne_f (by omega) | exact RX.bneB _ | rfl) rfl
       · simp only [RX.put_some, RX.put_none, List.set_cons_zero, List.set_cons_succ]; rfl
       refine hR _ _ ?_; clear hR R)
  refine RX.step (fun R hR => ?_)
  refine RX.one_chain (by first | rfl | (rw [HO.out]; rfl)) rfl (fun K hK => ?_)
  go_wp2_with fail
  refine (cfor_any _ g b M j5 n s a hC6 (fun h0 => by have := hbg h0; omega) hPC).mono ?_
  rintro e w7 ⟨v7, z2, rfl, hl2, hW2, hr2, hg7, j7, hC7⟩
  replace hB := hB.grown hg7 hB.size (fun k hk => by injection hk with hk; omega)
  replace hP := hP.turn hg7 hP0
  have hr7 := hr6.kept hg7 (fun k hk => by injection hk with hk; omega)
  obtain ⟨p7, c7, rfl, hV7⟩ := hr2.vec
  have hk2 := len42 hn1 hn2 hl2
  have HZZ : Hid (z2.length = z1.length) := Lib.hid (by have := HL1'.out; omega)
  clear hC6 hg7 hgl6 hr6 hr2 hC7 hbase6
  refine hK _ _ ⟨hP, hR _ _ ?_⟩; clear hK K hR R
  repeat
    refine RX.step (fun R hR => ?_)
    first
    | (refine RX.one_skip (by first | rfl | (rw [HO.out]; rfl)) (by simp only [RX.put_some, RX.put_none, List.set_cons_zero, List.set_cons_succ]; rfl) ?_
       refine hR _ _ ?_; clear hR R)
    | (refine RX.one_move (by first | rfl | (rw [HO.out]; rfl)) rfl (by first | exact Or.inl rfl | exact Or.inr rfl) (by simp only [RX.eval_tmp, RX.eval_const, List.getD_cons_zero, List.getD_cons_succ]; rfl) (by simp only [RX.put_some, RX.put_none, List.set_cons_zero, List.set_cons_succ]; rfl) ?_
       refine hR _ _ ?_; clear hR R)
    | (refine RX.one_nil (by first | rfl | (rw [HO.out]; rfl)) rfl rfl (by simp only [RX.eval_tmp, RX.eval_const, List.getD_cons_zero, List.getD_cons_succ]; rfl) (by simp only [RX.put_some, RX.put_none, List.set_cons_zero, List.set_cons_succ]; rfl) ?_
       refine hR _ _ ?_; clear hR R)
    | (refine RX.one_float (by first | rfl | (rw [HO.out]; rfl)) rfl rfl rfl ?_
       apply Exists.intro; apply Exists.intro
       refine ⟨fun w' hS K hK => ?_, ?_, ?_⟩
       · obtain ⟨hS1, hS2, hS3⟩ := hS; go_wp2; exact hK _ _ (by simp only [RX.arr_getD, List.getD_cons_zero, List.getD_cons_succ]; first | exact RX.dec_t (by omega) | exact RX.dec_f (by omega) | exact RX.beq_t (by omega) | exact RX.beq_f (by omega) | exact RX.bne_t (by omega) | exact RX.bne_f (by omega) | exact RX.bneB _ | rfl) rfl
       · simp only [RX.put_some, RX.put_none, List.set_cons_zero, List.set_cons_succ]; rfl
       refine hR _ _ ?_; clear hR R)
  refine RX.step (fun R hR => ?_)
  refine RX.one_chain (by first | rfl | (rw [HO.out]; rfl)) rfl (fun K hK => ?_)
  go_wp2_with fail
  refine (halves_any p7 z2 c7 _ hV7 (by omega) hW2).mono ?_
  rintro e w8 ⟨v8, rfl, hr8, hb8⟩
  replace hB := hB.trans (hb8.mono hB.size)
  replace hP := hP.keep hb8
  have hx8 := hr7.keepB hb8
  obtain ⟨p8, c8, rfl, -⟩ := hr8.vec
  rw [halves_len, HZZ.out]
  have hY := halves_within hW2
  have HYL : Hid ((halvesL z2).length = z1.length) := Lib.hid ((halves_len z2).trans HZZ.out)
  generalize halvesL z2 = y at *
  clear hV7 hb8 hW2 hr7 hl2 hk2 HZZ
  refine hK _ _ ⟨hP, hR _ _ ?_⟩; clear hK K hR R
  repeat
    refine RX.step (fun R hR => ?_)
    first
    | (refine RX.one_skip (by first | rfl | (rw [HO.out]; rfl)) (by simp only [RX.put_some, RX.put_none, List.set_cons_zero, List.set_cons_succ]; rfl) ?_
       refine hR _ _ ?_; clear hR R)
    | (refine RX.one_move (by first | rfl | (rw [HO.out]; rfl)) rfl (by first | exact Or.inl rfl | exact Or.inr rfl) (by simp only [RX.eval_tmp, RX.eval_const, List.getD_cons_zero, List.getD_cons_succ]; rfl) (by simp only [RX.put_some, RX.put_none, List.set_cons_zero, List.set_cons_succ]; rfl) ?_
       refine hR _ _ ?_; clear hR R)
    | (refine RX.one_nil (by first | rfl | (rw [HO.out]; rfl)) rfl rfl (by simp only [RX.eval_tmp, RX.eval_const, List.getD_cons_zero, List.getD_cons_succ]; rfl) (by simp only [RX.put_some, RX.put_none, List.set_cons_zero, List.set_cons_succ]; rfl) ?_
       refine hR _ _ ?_; clear hR R)
    | (refine RX.one_float (by first | rfl | (rw [HO.out]; rfl)) rfl rfl rfl ?_
       apply Exists.intro; apply Exists.intro
       refine ⟨fun w' hS K hK => ?_, ?_, ?_⟩
       · obtain ⟨hS1, hS2, hS3⟩ := hS; go_wp2; exact hK _ _ (by simp only [RX.arr_getD, List.getD_cons_zero, List.getD_cons_succ]; first | exact RX.dec_t (by omega) | exact RX.dec_f (by omega) | exact RX.beq_t (by omega) | exact RX.beq_f (by omega) | exact RX.bne_t (by omega) | exact RX.bne_f (by omega) | exact RX.bneB _ | rfl) rfl
       · simp only [RX.put_some, RX.put_none, List.set_cons_zero, List.set_cons_succ]; rfl
       refine hR _ _ ?_; clear hR R)
  refine RX.wpL_nil (hQR _ _ (hP) ?_); clear hQR QR HO OPS
  have hVx := hx8.vecAt
  have hVy := hr8.vecAt
  obtain ⟨m, hm⟩ : ∃ m, m = z1.length := ⟨_, rfl⟩
  have hlm : ((m : Nat) : Int) = 10 * (n : Int) * n + 2 := by rw [hm]; exact HL1'.out
  rw [← hm] at HXL HYL hk1
  try rw [← hm]
  have hOk : PrOk n s a := ⟨by omega, by omega, hs0, hs1, ha0, ha1⟩
  have HVO : Hid (∀ zs : List Int, zs.length = m → Within 1048576 zs → VecOk n s a zs) := Lib.hid fun zs h1 h2 => ⟨hOk, by rw [h1]; exact hlm, small_within h2⟩
  have HIN : Hid (InR m (edgesL n)) := Lib.hid (by
    have := edges_InR (f := n) hn1 (by omega) (x := x) (by rw [HXL.out]; exact hlm)
    rwa [HXL.out] at this)
  have HXW := Lib.hid hX
  have HYW := Lib.hid hY
  clear hx8 hr8 HL1' hm hlm hgP hbg hP0 hOk hPC hX hY hgW
  clear z1 z2
  have k0 := hP.1
  have k1 := hP.2.1
  have k2 := hP.2.2
  go_wp2_with fail
  refine (apply_at n s a p6 x c6 m _ HXL.out (hT.below hB) hVx (HVO.out x HXL.out (HXW.out.mono (by omega)))).mono ?_
  rintro e wA ⟨A, rfl, hVa, hbA⟩
  replace hB := hB.trans (hbA.mono hB.size)
  replace hP := hP.keep hbA
  replace hVx := hVx.below hbA
  replace hVy := hVy.below hbA
  clear hbA k0 k1 k2
  clear w8
  have k0 := hP.1
  have k1 := hP.2.1
  have k2 := hP.2.2
  go_wp2_with fail
  refine (apply_at n s a p8 y c8 m _ HYL.out (hT.below hB) hVy (HVO.out y HYL.out (HYW.out.mono (by omega)))).mono ?_
  rintro e wB ⟨B, rfl, hVb, hbB⟩
  replace hB := hB.trans (hbB.mono hB.size)
  replace hP := hP.keep hbB
  replace hVx := hVx.below hbB
  replace hVy := hVy.below hbB
  replace hVa := hVa.below hbB
  clear hbB k0 k1 k2
  clear wA
  have HUL : Hid ((applyL s a x (edgesL n)).length = m) := Lib.hid ((applyL_len _ _ _ _).trans HXL.out)
  have HVL : Hid ((applyL s a y (edgesL n)).length = m) := Lib.hid ((applyL_len _ _ _ _).trans HYL.out)
  have HUW : Hid (Within 70000000000000000 (applyL s a x (edgesL n))) := Lib.hid (apply_within (by omega) ⟨hs0, hs1⟩ ⟨ha0, ha1⟩ (small_within (HXW.out.mono (by omega))))
  have HVW : Hid (Within 70000000000000000 (applyL s a y (edgesL n))) := Lib.hid (apply_within (by omega) ⟨hs0, hs1⟩ ⟨ha0, ha1⟩ (small_within (HYW.out.mono (by omega))))
  have hxy : x.length = y.length := HXL.out.trans HYL.out.symm
  have HADD : Hid (applyL s a (addL x y) (edgesL n) = addL (applyL s a x (edgesL n)) (applyL s a y (edgesL n))) := Lib.hid (apply_add s a x y (edgesL n) hxy)
  have HSYM : Hid (dotL (applyL s a x (edgesL n)) y = dotL x (applyL s a y (edgesL n))) := Lib.hid (apply_symm s a x y (edgesL n) hxy (by rw [HXL.out]; exact HIN.out))
  have HSUM : Hid (sumL (applyL s a x (edgesL n)) = a * sumL x) := Lib.hid (apply_sum s a x (edgesL n) (by rw [HXL.out]; exact HIN.out))
  have HZL : Hid ((addL x y).length = m) := Lib.hid ((addL_len hxy).trans HXL.out)
  have HZW : Hid (Within 1048576 (addL x y)) := Lib.hid ((addL_within HXW.out HYW.out).mono (by omega))
  clear hxy
  obtain ⟨z, hz⟩ : ∃ z, z = addL x y := ⟨_, rfl⟩
  rw [← hz] at HZL HZW HADD
  have HZ := Lib.hid hz
  clear hz
  generalize applyL s a x (edgesL n) = u at *
  generalize applyL s a y (edgesL n) = v at *
  go_wp2
  refine RX.region RX.fL (fun w' => Three w' P n s a) (by kernel_rfl) (by kernel_rfl) (hP) (fun OPS HO QR hQR => ?_)
  replace hB := hB.drew
  repeat
    refine RX.step (fun R hR => ?_)
    first
    | (refine RX.one_skip (by first | rfl | (rw [HO.out]; rfl)) (by simp only [RX.put_some, RX.put_none, List.set_cons_zero, List.set_cons_succ]; rfl) ?_
       refine hR _ _ ?_; clear hR R)
    | (refine RX.one_move (by first | rfl | (rw [HO.out]; rfl)) rfl (by first | exact Or.inl rfl | exact Or.inr rfl) (by simp only [RX.eval_tmp, RX.eval_const, List.getD_cons_zero, List.getD_cons_succ]; rfl) (by simp only [RX.put_some, RX.put_none, List.set_cons_zero, List.set_cons_succ]; rfl) ?_
       refine hR _ _ ?_; clear hR R)
    | (refine RX.one_nil (by first | rfl | (rw [HO.out]; rfl)) rfl rfl (by simp only [RX.eval_tmp, RX.eval_const, List.getD_cons_zero, List.getD_cons_succ]; rfl) (by simp only [RX.put_some, RX.put_none, List.set_cons_zero, List.set_cons_succ]; rfl) ?_
       refine hR _ _ ?_; clear hR R)
    | (refine RX.one_float (by first | rfl | (rw [HO.out]; rfl)) rfl rfl rfl ?_
       apply Exists.intro; apply Exists.intro
       refine ⟨fun w' hS K hK => ?_, ?_, ?_⟩
       · obtain ⟨hS1, hS2, hS3⟩ := hS; go_wp2; exact hK _ _ (by simp only [RX.arr_getD, List.getD_cons_zero, List.getD_cons_succ]; first | exact RX.dec_t (by omega) | exact RX.dec_f (by omega) | exact RX.beq_t (by omega) | exact RX.beq_f (by omega) | exact RX.bne_t (by omega) | exact RX.bne_f (by omega) | exact RX.bneB _ | rfl) rfl
       · simp only [RX.put_some, RX.put_none, List.set_cons_zero, List.set_cons_succ]; rfl
       refine hR _ _ ?_; clear hR R)
  refine RX.step (fun R hR => ?_)
  refine RX.one_chain (by first | rfl | (rw [HO.out]; rfl)) rfl (fun K hK => ?_)
  go_wp2_with fail
  refine (vsum_at p6 p8 x y c6 c8 m _ HXL.out HYL.out (show VecAt wB.drew p6 x from hVx) (show VecAt wB.drew p8 y from hVy) (by omega) (HXW.out.mono (by omega)) (HYW.out.mono (by omega))).mono ?_
  rintro e wC ⟨pz, cz, rfl, hVz, hbC⟩
  rw [← HZ.out] at hVz
  replace hB := hB.trans (hbC.mono hB.size)
  replace hbC : Below wB.heap.size wB wC := Below_undrew hbC
  replace hP := hP.keep hbC
  replace hVx := hVx.below hbC
  replace hVy := hVy.below hbC
  replace hVa := hVa.below hbC
  replace hVb := hVb.below hbC
  clear hbC
  refine hK _ _ ⟨hP, hR _ _ ?_⟩; clear hK K hR R
  repeat
    refine RX.step (fun R hR => ?_)
    first
    | (refine RX.one_skip (by first | rfl | (rw [HO.out]; rfl)) (by simp only [RX.put_some, RX.put_none, List.set_cons_zero, List.set_cons_succ]; rfl) ?_
       refine hR _ _ ?_; clear hR R)
    | (refine RX.one_move (by first | rfl | (rw [HO.out]; rfl)) rfl (by first | exact Or.inl rfl | exact Or.inr rfl) (by simp only [RX.eval_tmp, RX.eval_const, List.getD_cons_zero, List.getD_cons_succ]; rfl) (by simp only [RX.put_some, RX.put_none, List.set_cons_zero, List.set_cons_succ]; rfl) ?_
       refine hR _ _ ?_; clear hR R)
    | (refine RX.one_nil (by first | rfl | (rw [HO.out]; rfl)) rfl rfl (by simp only [RX.eval_tmp, RX.eval_const, List.getD_cons_zero, List.getD_cons_succ]; rfl) (by simp only [RX.put_some, RX.put_none, List.set_cons_zero, List.set_cons_succ]; rfl) ?_
       refine hR _ _ ?_; clear hR R)
    | (refine RX.one_float (by first | rfl | (rw [HO.out]; rfl)) rfl rfl rfl ?_
       apply Exists.intro; apply Exists.intro
       refine ⟨fun w' hS K hK => ?_, ?_, ?_⟩
       · obtain ⟨hS1, hS2, hS3⟩ := hS; go_wp2; exact hK _ _ (by simp only [RX.arr_getD, List.getD_cons_zero, List.getD_cons_succ]; first | exact RX.dec_t (by omega) | exact RX.dec_f (by omega) | exact RX.beq_t (by omega) | exact RX.beq_f (by omega) | exact RX.bne_t (by omega) | exact RX.bne_f (by omega) | exact RX.bneB _ | rfl) rfl
       · simp only [RX.put_some, RX.put_none, List.set_cons_zero, List.set_cons_succ]; rfl
       refine hR _ _ ?_; clear hR R)
  refine RX.step (fun R hR => ?_)
  refine RX.one_chain (by first | rfl | (rw [HO.out]; rfl)) rfl (fun K hK => ?_)
  go_wp2_with fail
  refine (apply_at n s a pz z cz m _ HZL.out (hT.below hB) hVz (HVO.out z HZL.out HZW.out)).mono ?_
  rintro e wD ⟨D, rfl, hVd, hbD⟩
  rw [HADD.out] at hVd
  replace hB := hB.trans (hbD.mono hB.size)
  replace hP := hP.keep hbD
  replace hVx := hVx.below hbD
  replace hVy := hVy.below hbD
  replace hVa := hVa.below hbD
  replace hVb := hVb.below hbD
  clear hbD hVz
  clear wC
  refine hK _ _ ⟨hP, hR _ _ ?_⟩; clear hK K hR R
  repeat
    refine RX.step (fun R hR => ?_)
    first
    | (refine RX.one_skip (by first | rfl | (rw [HO.out]; rfl)) (by simp only [RX.put_some, RX.put_none, List.set_cons_zero, List.set_cons_succ]; rfl) ?_
       refine hR _ _ ?_; clear hR R)
    | (refine RX.one_move (by first | rfl | (rw [HO.out]; rfl)) rfl (by first | exact Or.inl rfl | exact Or.inr rfl) (by simp only [RX.eval_tmp, RX.eval_const, List.getD_cons_zero, List.getD_cons_succ]; rfl) (by simp only [RX.put_some, RX.put_none, List.set_cons_zero, List.set_cons_succ]; rfl) ?_
       refine hR _ _ ?_; clear hR R)
    | (refine RX.one_nil (by first | rfl | (rw [HO.out]; rfl)) rfl rfl (by simp only [RX.eval_tmp, RX.eval_const, List.getD_cons_zero, List.getD_cons_succ]; rfl) (by simp only [RX.put_some, RX.put_none, List.set_cons_zero, List.set_cons_succ]; rfl) ?_
       refine hR _ _ ?_; clear hR R)
    | (refine RX.one_float (by first | rfl | (rw [HO.out]; rfl)) rfl rfl rfl ?_
       apply Exists.intro; apply Exists.intro
       refine ⟨fun w' hS K hK => ?_, ?_, ?_⟩
       · obtain ⟨hS1, hS2, hS3⟩ := hS; go_wp2; exact hK _ _ (by simp only [RX.arr_getD, List.getD_cons_zero, List.getD_cons_succ]; first | exact RX.dec_t (by omega) | exact RX.dec_f (by omega) | exact RX.beq_t (by omega) | exact RX.beq_f (by omega) | exact RX.bne_t (by omega) | exact RX.bne_f (by omega) | exact RX.bneB _ | rfl) rfl
       · simp only [RX.put_some, RX.put_none, List.set_cons_zero, List.set_cons_succ]; rfl
       refine hR _ _ ?_; clear hR R)
  refine RX.wpL_nil (hQR _ _ (hP) ?_); clear hQR QR HO OPS
  clear wB
  go_wp2_with fail
  refine (vsum_at _ _ u v m m m _ HUL.out HVL.out hVa hVb (by omega) HUW.out HVW.out).mono ?_
  rintro e wE ⟨ps, cs, rfl, hVs, hbE⟩
  replace hB := hB.trans (hbE.mono hB.size)
  replace hP := hP.keep hbE
  replace hVx := hVx.below hbE
  replace hVy := hVy.below hbE
  replace hVa := hVa.below hbE
  replace hVb := hVb.below hbE
  replace hVd := hVd.below hbE
  clear hbE
  clear wD
  have HWL : Hid ((addL u v).length = m) := Lib.hid ((addL_len (HUL.out.trans HVL.out.symm)).trans HUL.out)
  go_wp2_with fail
  refine (kints_at _ ps (addL u v) (addL u v) m cs m _ HWL.out HWL.out hVd hVs (by omega)).mono ?_
  rintro e wF ⟨rfl, hbF⟩
  rw [show decide (addL u v = addL u v) = true from decide_eq_true rfl]
  replace hB := hB.trans (hbF.mono hB.size)
  replace hP := hP.keep hbF
  replace hVx := hVx.below hbF
  replace hVy := hVy.below hbF
  replace hVa := hVa.below hbF
  replace hVb := hVb.below hbF
  clear hbF hVd hVs
  clear wE
  go_wp2_with fail
  refine (dot_at _ p8 u y m c8 m _ HUL.out HYL.out hVa hVy (by omega) (i64_within HUW.out (by omega)) (i64_within HYW.out (by omega))).mono ?_
  rintro e wG ⟨rfl, hbG⟩
  obtain ⟨S1, S2, q1, q2, hS⟩ := wv_parts (dotL u y)
  clear q1 q2
  rw [hS]
  have HS := Lib.hid hS
  clear hS
  replace hB := hB.trans (hbG.mono hB.size)
  replace hP := hP.keep hbG
  replace hVx := hVx.below hbG
  replace hVa := hVa.below hbG
  replace hVb := hVb.below hbG
  clear hbG hVy
  clear wF
  go_wp2_with fail
  have t1 : Two (wG.alloc (.cells #[.int .i64 S1, .int .u64 S2] 58)) wG.heap.size S1 S2 := ⟨(by simp [RX.cell_drew, RX.cell_alloc, Nat.add_assoc]), (by simp [RX.cell_drew, RX.cell_alloc, Nat.add_assoc])⟩
  have hbH := (Below.refl wG.heap.size wG).alloc (Nat.le_refl _) (.cells #[.int .i64 S1, .int .u64 S2] 58)
  obtain ⟨g1, hg1⟩ : ∃ g, g = wG.heap.size := ⟨_, rfl⟩
  rw [← hg1] at t1 ⊢
  clear hg1
  replace hB := hB.trans (hbH.mono hB.size)
  replace hP := hP.keep hbH
  replace hVx := hVx.below hbH
  replace hVa := hVa.below hbH
  replace hVb := hVb.below hbH
  clear hbH
  generalize (wG.alloc (.cells #[.int .i64 S1, .int .u64 S2] 58)) = WH at *
  clear wG
  refine (dot_at p6 _ x v c6 m m _ HXL.out HVL.out hVx hVb (by omega) (i64_within HXW.out (by omega)) (i64_within HVW.out (by omega))).mono ?_
  rintro e wI ⟨rfl, hbI⟩
  rw [← HSYM.out, HS.out]
  replace hB := hB.trans (hbI.mono hB.size)
  replace hP := hP.keep hbI
  replace hVx := hVx.below hbI
  replace hVa := hVa.below hbI
  replace t1 := t1.keep hbI
  clear hbI hVb HSYM HS HVL HVW HYL HYW HADD HZ HZL HZW HWL HIN HVO
  clear WH
  go_wp2
  have t2 : Two (wI.alloc (.cells #[.int .i64 S1, .int .u64 S2] 58)) wI.heap.size S1 S2 := ⟨(by simp [RX.cell_drew, RX.cell_alloc, Nat.add_assoc]), (by simp [RX.cell_drew, RX.cell_alloc, Nat.add_assoc])⟩
  have hbH := (Below.refl wI.heap.size wI).alloc (Nat.le_refl _) (.cells #[.int .i64 S1, .int .u64 S2] 58)
  obtain ⟨g2, hg2⟩ : ∃ g, g = wI.heap.size := ⟨_, rfl⟩
  rw [← hg2] at t2 ⊢
  clear hg2
  replace hB := hB.trans (hbH.mono hB.size)
  replace hP := hP.keep hbH
  replace hVx := hVx.below hbH
  replace hVa := hVa.below hbH
  replace t1 := t1.keep hbH
  clear hbH
  generalize (wI.alloc (.cells #[.int .i64 S1, .int .u64 S2] 58)) = WJ at *
  clear wI
  have HUS : Hid (∀ k, -7000000000000000000 ≤ sumL (u.take k) ∧ sumL (u.take k) ≤ 7000000000000000000) := Lib.hid fun k => sumTo_bd HUW.out (by rw [HUL.out]; omega) (by omega) k
  have HXS : Hid (∀ k, -7000000000000000000 ≤ sumL (x.take k) ∧ sumL (x.take k) ≤ 7000000000000000000) := Lib.hid fun k => sumTo_bd HXW.out (by rw [HXL.out]; omega) (by omega) k
  have HF := Lib.hid (And.intro hVx hVa)
  clear hVx hVa
  go_loopw [15, 16, 98] (fun v1 v2 i wr => ∃ k : Nat, k ≤ m ∧ i = .int .i64 k ∧ v1 = .int .i64 (sumL (u.take k)) ∧ v2 = .int .i64 (sumL (x.take k)) ∧ Below WJ.heap.size WJ wr) (fun v1 v2 i _ => m - (intOf i).toNat)
  case atStart => exact ⟨0, by omega, rfl, by simp [sumL], by simp [sumL], Below.refl _ _⟩
  case round =>
    obtain ⟨k, hk, rfl, rfl, rfl, hBr⟩ := hrel
    by_cases hlt : k < m
    · have hdk : decide ((k : Int) < (m : Int)) = true := decide_eq_true (by omega)
      have hku : k < u.length := by rw [HUL.out]; exact hlt
      have hkx : k < x.length := by rw [HXL.out]; exact hlt
      obtain ⟨bu, ou, hpu, hbu, hcu⟩ := HF.out.2.cell (by omega)
      obtain ⟨bx, ox, rfl, hbx, hcx⟩ := HF.out.1.cell (by omega)
      injection hpu with hpu
      injection hpu with e1 e2 e3
      subst e1 e2
      have uk := RX.keep hBr (hcu k hku)
      have xk := RX.keep hBr (hcx k hkx)
      rw [Nat.zero_add] at uk
      have hus := HUS.out (k + 1)
      have hxs := HXS.out (k + 1)
      have hus0 := HUS.out k
      have hxs0 := HXS.out k
      have hu1 : sumL (u.take k) + u[k] = sumL (u.take (k + 1)) := (sumL_take hku).symm
      have hx1 : sumL (x.take k) + x[k] = sumL (x.take (k + 1)) := (sumL_take hkx).symm
      generalize u[k] = uu at *
      generalize x[k] = xx at *
      generalize sumL (u.take k) = A0 at *
      generalize sumL (x.take k) = B0 at *
      have HA1 : Hid (Value.int .i64 (sumL (u.take (k + 1))) = Value.int .i64 (A0 + uu)) := Lib.hid (by rw [hu1])
      have HB1 : Hid (Value.int .i64 (sumL (x.take (k + 1))) = Value.int .i64 (B0 + xx)) := Lib.hid (by rw [hx1])
      rw [← hu1] at hus
      rw [← hx1] at hxs
      clear hcu hcx hu1 hx1
      go_wp2
      refine RX.region RX.fN (fun w' => w' = _) (by kernel_rfl) (by kernel_rfl) rfl (fun OPS HO QR hQR => ?_)
      repeat
        refine RX.step (fun R hR => ?_)
        first
        | (refine RX.one_skip (by first | rfl | (rw [HO.out]; rfl)) (by simp only [RX.put_some, RX.put_none, List.set_cons_zero, List.set_cons_succ]; rfl) ?_
           refine hR _ _ ?_; clear hR R)
        | (refine RX.one_move (by first | rfl | (rw [HO.out]; rfl)) rfl (by first | exact Or.inl rfl | exact Or.inr rfl) (by simp only [RX.eval_tmp, RX.eval_const, List.getD_cons_zero, List.getD_cons_succ]; rfl) (by simp only [RX.put_some, RX.put_none, List.set_cons_zero, List.set_cons_succ]; rfl) ?_
           refine hR _ _ ?_; clear hR R)
        | (refine RX.one_nil (by first | rfl | (rw [HO.out]; rfl)) rfl rfl (by simp only [RX.eval_tmp, RX.eval_const, List.getD_cons_zero, List.getD_cons_succ]; rfl) (by simp only [RX.put_some, RX.put_none, List.set_cons_zero, List.set_cons_succ]; rfl) ?_
           refine hR _ _ ?_; clear hR R)
        | (refine RX.one_float (by first | rfl | (rw [HO.out]; rfl)) rfl rfl rfl ?_
           apply Exists.intro; apply Exists.intro
           refine ⟨fun w' hS K hK => ?_, ?_, ?_⟩
           · subst hS; go_wp2; exact hK _ _ (by simp only [RX.arr_getD, List.getD_cons_zero, List.getD_cons_succ]; first | exact RX.dec_t (by omega) | exact RX.dec_f (by omega) | exact RX.beq_t (by omega) | exact RX.beq_f (by omega) | exact RX.bne_t (by omega) | exact RX.bne_f (by omega) | exact RX.bneB _ | rfl) rfl
           · simp only [RX.put_some, RX.put_none, List.set_cons_zero, List.set_cons_succ]; rfl
           refine hR _ _ ?_; clear hR R)
      refine RX.wpL_nil (hQR _ _ rfl ?_); clear hQR QR HO OPS
      go_wp2
      go_roundw
      case rel => exact ⟨k + 1, by omega, by go_num, HA1.out.symm, HB1.out.symm, hBr.drew⟩
      case measure => simp [intOf]; omega
    · have hdk : decide ((k : Int) < (m : Int)) = false := decide_eq_false (by omega)
      obtain rfl : k = m := by omega
      have hA : sumL (u.take k) = a * sumL x := by rw [← HSUM.out, ← HUL.out, List.take_length]
      have hX : sumL (x.take k) = sumL x := by rw [← HXL.out, List.take_length]
      have hus := HUS.out k
      have hxs := HXS.out k
      rw [hA] at hus ⊢
      rw [hX] at hxs ⊢
      have q1 := RX.keep hBr t1.1
      have q2 := RX.keep hBr t1.2
      have q3 := RX.keep hBr t2.1
      have q4 := RX.keep hBr t2.2
      have q5 := RX.keep hBr hP.2.2
      have HBB := Lib.hid (hB.trans (hBr.mono hB.size))
      generalize sumL x = X at *
      obtain ⟨Y, hY⟩ : ∃ Y, a * X = Y := ⟨_, rfl⟩
      rw [hY] at hus ⊢
      clear hBr hB hA hX HUS HXS
      go_wp2
      go_ret
      exact ⟨rfl, HBB.out⟩
end Go.Proofs.YtpbfgnffkhabnaaDoor
