import Derived.Test.YtojkamfabapcoaaGreatDoorKCert2
set_option linter.unusedSimpArgs false
set_option linter.unusedVariables false
namespace Go.Proofs.YtojkamfabapcoaaGreatDoor
open Go.RowKit Go.Grid Go.Shelf

/-! CertificateProves. -/
theorem SysOwn.seg {w w' : World} {base : Nat} {v : Value} {S : Sy} (h : SysOwn w base v S) (hs : w.heap.size ≤ w'.heap.size) (hb : ∀ k, base ≤ k → k < w.heap.size → w'.heap[k]? = w.heap[k]?) : SysOwn w' base v S := by
  obtain ⟨p1, c1, p2, c2, X, b1, b2, h1, h2, h3, h4, h5, h6, h7, h8, h9⟩ := h
  refine ⟨p1, c1, p2, c2, X, b1, b2, h1, h2, h3, h4, fun h0 => ⟨(h5 h0).1, (h5 h0).2.1, by have := (h5 h0).2.2; omega⟩, ?_, fun x hx => ⟨(h7 x hx).1, ?_⟩, fun h0 => ⟨(h8 h0).1, (h8 h0).2.1, by have := (h8 h0).2.2; omega⟩, ?_⟩
  · intro k hk
    obtain ⟨_, hb1, hb2⟩ := h5 (by rw [h2, List.length_map]; omega)
    exact RosAt.cellsOf h6 (fun o v e => (World.cell?_of_block (hb b1 hb1 hb2)).trans e) k hk
  · obtain ⟨b, g1, g2⟩ := (h7 x hx).2
    refine ⟨b, fun h0 => ⟨(g1 h0).1, (g1 h0).2.1, by have := (g1 h0).2.2; omega⟩, fun k hk => ?_⟩
    obtain ⟨_, q1, q2⟩ := g1 (by omega)
    exact ⟨(World.cell?_of_block (hb b q1 q2)).trans (g2 k hk).1, (World.cell?_of_block (hb b q1 q2)).trans (g2 k hk).2⟩
  · intro j hj
    obtain ⟨_, q1, q2⟩ := h8 (by omega)
    exact IntsAt.block h9 (hb b2 q1 q2) j hj
theorem Five.seg {w w' : World} {P : Nat} {f s a : Int} {v1 v2 : Value} (h : Five w P f s a v1 v2) (hb : w'.heap[P]? = w.heap[P]?) : Five w' P f s a v1 v2 := by
  obtain ⟨a0, a1, a2, a3, a4⟩ := h
  exact ⟨(World.cell?_of_block hb).trans a0, (World.cell?_of_block hb).trans a1, (World.cell?_of_block hb).trans a2, (World.cell?_of_block hb).trans a3, (World.cell?_of_block hb).trans a4⟩
/-- All old blocks but one stand. -/
def SegX (N g : Nat) (w w' : World) : Prop := w.heap.size ≤ w'.heap.size ∧ ∀ k, k < N → k ≠ g → w'.heap[k]? = w.heap[k]?
theorem SegX.refl (N g : Nat) (w : World) : SegX N g w w := ⟨Nat.le_refl _, fun _ _ _ => rfl⟩
theorem SegX.own {N g : Nat} {w w' w'' : World} (h : SegX N g w w') (hN : N ≤ w.heap.size) (hg : w'.grownBy w'' (some g)) : SegX N g w w'' :=
  ⟨Nat.le_trans h.1 hg.size, fun k hk hne => (hg.block k (Nat.lt_of_lt_of_le hk (Nat.le_trans hN h.1)) (by simpa using hne)).trans (h.2 k hk hne)⟩
theorem SegX.set {N g : Nat} {w w' : World} (h : SegX N g w w') (hN : N ≤ w.heap.size) {b o : Nat} (hb : N ≤ b) (v : Value) : SegX N g w (w'.setCell ⟨b, o, none⟩ v) :=
  ⟨by rw [World.size_setCell]; exact h.1, fun k hk hne => ((grownBy_setCell w' b o v).block k (by have := h.1; omega) (by simp; omega)).trans (h.2 k hk hne)⟩

set_option maxRecDepth 100000 in
set_option maxHeartbeats 4000000 in
theorem proves_law (W : World) (q : Option Addr) (cap cb co : Nat) (L : List Int) (hp : 0 < L.length → q = some ⟨cb, co, none⟩) (hl : L.length ≤ cap) (hc : cap ≤ 9223372036854775807)
    (hcell : ∀ k (h : k < L.length), W.cell? ⟨cb, co + k, none⟩ = some (.int .u8 L[k]) ∧ 0 ≤ L[k] ∧ L[k] < 256) (hT : HasTab W)
    (qm : Option Addr) (capm cbm com : Nat) (Lm : List Int) (hpm : 0 < Lm.length → qm = some ⟨cbm, com, none⟩) (hlm : Lm.length ≤ capm) (hcm : capm ≤ 9223372036854775807)
    (hcellm : ∀ k (h : k < Lm.length), W.cell? ⟨cbm, com + k, none⟩ = some (.int .u8 Lm[k]) ∧ 0 ≤ Lm[k] ∧ Lm[k] < 256) :
    Calls Tryz.prog 7 #[.slice q L.length cap, .slice qm Lm.length capm] W fun e w' => e = .returned (.bool true) ∧ Below W.heap.size W w' := by
  have HIN := Lib.hid (And.intro hp hcell)
  have HIM := Lib.hid (And.intro hpm hcellm)
  clear hp hcell hpm hcellm
  go_enter Tryz.func7, Tryz.ntmps7
  go_wp2_with fail
  refine (awake26_any W).mono ?_
  rintro e w1 ⟨rfl, hB⟩
  go_wp2_with fail
  refine (start_any W q cap cb co 240 L w1 (by omega) HIN.out.1 hl hc HIN.out.2 hB).mono ?_
  rintro e w2 ⟨g, b, M, rfl, hg, hb2, hbM, hC⟩
  have hgW : W.heap.size ≤ g := by have := hB.size; omega
  replace hB := hB.trans (hb2.mono hB.size)
  have hgl := hC.lt
  have hbg : 0 < M.length → b < g := fun h0 => by have := hbM h0; omega
  clear hb2 hbM hg HIN hl hc
  clear w1
  go_wp2_with fail
  refine (start_any2 W qm capm cbm com 60 Lm w2 (by omega) HIM.out.1 hlm hcm HIM.out.2 hB).mono ?_
  rintro e w1 ⟨gd, bd, Md, rfl, hgd, hb2, hbd, hD⟩
  have hgdW : g < gd := by omega
  have hbdg : 0 < Md.length → bd < W.heap.size := hbd
  have hC1 := hC.below hb2
  have hgdl := hD.lt
  replace hB := hB.trans (hb2.mono hB.size)
  clear hb2 hbd hgd HIM hlm hcm hC hgl
  clear w2
  go_wp2_with fail
  refine (csys_any w1 g b M 0 5 hC1 (by omega)).mono ?_
  rintro e w3 ⟨v, S, rfl, hSO, hOk, hPC, hSr, hg3, j3, hC3⟩
  replace hB := hB.grown hg3 hB.size (fun k hk => by injection hk with hk; omega)
  have hD3 := hD.grown' hg3 (by omega) (fun h0 => by have := hbdg h0; omega)
  obtain ⟨base, hbase⟩ : ∃ base, base = w1.heap.size := ⟨_, rfl⟩
  rw [← hbase] at hSO hgdl
  have hs3 := hg3.size
  rw [← hbase] at hs3
  have hb0 := hOk.nodes
  obtain ⟨hn1, hn2, hn3⟩ := hb0
  have hf := hPC.1
  clear hC1 hg3 hPC hSr hD hbase
  clear w1
  obtain ⟨p1, d1, p2, d2, rfl, -⟩ := hSO.sysin
  go_wp2_with fail
  have hP : Five (w3.alloc (.cells #[.int .i64 S.f, .int .i64 S.s, .int .i64 S.a, .slice p1 S.rows.length d1, .slice p2 S.targets.length d2] 27)) w3.heap.size S.f S.s S.a (.slice p1 S.rows.length d1) (.slice p2 S.targets.length d2) := ⟨(by simp [RX.cell_drew, RX.cell_alloc, Nat.add_assoc]), (by simp [RX.cell_drew, RX.cell_alloc, Nat.add_assoc]), (by simp [RX.cell_drew, RX.cell_alloc, Nat.add_assoc]), (by simp [RX.cell_drew, RX.cell_alloc, Nat.add_assoc]), (by simp [RX.cell_drew, RX.cell_alloc, Nat.add_assoc])⟩
  have hb4 := (Below.refl w3.heap.size w3).alloc (Nat.le_refl _) (.cells #[.int .i64 S.f, .int .i64 S.s, .int .i64 S.a, .slice p1 S.rows.length d1, .slice p2 S.targets.length d2] 27)
  replace hB := hB.trans (hb4.mono hB.size)
  replace hSO := hSO.grown (grw_below hb4 none) (fun k hk => by cases hk)
  have hC4 := hC3.below hb4
  have hD4 := hD3.below hb4
  have hs4 : w3.heap.size < (w3.alloc (.cells #[.int .i64 S.f, .int .i64 S.s, .int .i64 S.a, .slice p1 S.rows.length d1, .slice p2 S.targets.length d2] 27)).heap.size := by simp
  obtain ⟨P, hPe⟩ : ∃ P, P = w3.heap.size := ⟨_, rfl⟩
  have hgP : gd < P := by omega
  have hgP2 : P ≠ g := by omega
  rw [← hPe] at hP hs4 ⊢
  clear hC3 hD3 hb4 hPe hs3
  generalize (w3.alloc (.cells #[.int .i64 S.f, .int .i64 S.s, .int .i64 S.a, .slice p1 S.rows.length d1, .slice p2 S.targets.length d2] 27)) = W4 at *
  clear w3
  refine (r22nodes_any S.f _ (by omega) (by omega)).mono ?_
  rintro e wq ⟨rfl, rfl⟩
  rw [← hn1]
  obtain ⟨n, hn⟩ : ∃ n, n = S.n := ⟨_, rfl⟩
  have HN := Lib.hid hn
  rw [← hn] at hn1 hn2 hn3 ⊢
  have HOK := Lib.hid hOk
  have HPR : Hid (∀ zs : List Int, zs.length = n → Within 1048576 zs → VecOk S.f S.s S.a zs) := Lib.hid (fun zs h1 h2 => ⟨HOK.out.1, by rw [h1]; exact hn1, small_within h2⟩)
  clear hn hn1 hOk hf
  obtain ⟨k0, k1, k2, k3, k4⟩ := hP
  go_wp2_with fail
  have hP : Five W4 P S.f S.s S.a (.slice p1 S.rows.length d1) (.slice p2 S.targets.length d2) := ⟨k0, k1, k2, k3, k4⟩
  clear k0 k1 k2 k3 k4
  have c : ∀ k, k < 3 → ∃ m : Nat, (W4.alloc (.cells #[.int .i64 10, .int .i64 3000, .int .i64 100000] 3)).cell? ⟨W4.heap.size, k, none⟩ = some (.int .i64 m) ∧ m ≤ 100000 := by
    intro k hk
    match k, hk with
    | 0, _ => exact ⟨10, (by simp [RX.cell_drew, RX.cell_alloc, Nat.add_assoc]), by omega⟩
    | 1, _ => exact ⟨3000, (by simp [RX.cell_drew, RX.cell_alloc, Nat.add_assoc]), by omega⟩
    | 2, _ => exact ⟨100000, (by simp [RX.cell_drew, RX.cell_alloc, Nat.add_assoc]), by omega⟩
    | k + 3, hk => omega
  have hb5 := (Below.refl W4.heap.size W4).alloc (Nat.le_refl _) (.cells #[.int .i64 10, .int .i64 3000, .int .i64 100000] 3)
  replace hB := hB.trans (hb5.mono hB.size)
  replace hSO := hSO.grown (grw_below hb5 none) (fun k hk => by cases hk)
  replace hP := hP.below hb5
  have hC5 := hC4.below hb5
  have hD5 := hD4.below hb5
  have hs5 : W4.heap.size < (W4.alloc (.cells #[.int .i64 10, .int .i64 3000, .int .i64 100000] 3)).heap.size := by simp
  obtain ⟨Q, hQe⟩ : ∃ Q, Q = W4.heap.size := ⟨_, rfl⟩
  rw [← hQe] at c hs4 hs5 ⊢
  clear hC4 hD4 hb5 hQe
  generalize (W4.alloc (.cells #[.int .i64 10, .int .i64 3000, .int .i64 100000] 3)) = W5 at *
  clear W4
  refine (next_any _ g b M j3 3 hC5 (by omega)).mono ?_
  rintro e w5 ⟨r, rfl, hr, hg5, j5, hC6⟩
  have hr3 : r < 3 := by omega
  obtain ⟨m, hm0, hm1⟩ := c r hr3
  have hm := hg5.cell hm0 (by simp; omega)
  replace hB := hB.grown hg5 hB.size (fun k hk => by injection hk with hk; omega)
  replace hP := hP.turn hg5 hgP2
  replace hSO := hSO.grown hg5 (fun k hk => by injection hk with hk; omega)
  have hD6 := hD5.grown' hg5 (by omega) (fun h0 => by have := hbdg h0; omega)
  have hs6 : Q < w5.heap.size := by have := hg5.size; omega
  have hr0 : (0 : Int) ≤ (r : Int) := by omega
  have hr3I : (r : Int) < 3 := by omega
  clear c hm0 hg5 hC5 hD5 hr hs5
  clear W5
  go_wp2_with fail
  clear hm
  refine (cvec_any w5 g b M j5 n m hC6 (fun h0 => by have := hbg h0; omega) (by omega) (by omega)).mono ?_
  rintro e w6 ⟨vt, t, rfl, htl, htw, htr, hg6, j6, hC7⟩
  replace hB := hB.grown hg6 hB.size (fun k hk => by injection hk with hk; omega)
  replace hP := hP.turn hg6 hgP2
  replace hSO := hSO.grown hg6 (fun k hk => by injection hk with hk; omega)
  have hD7 := hD6.grown' hg6 (by omega) (fun h0 => by have := hbdg h0; omega)
  obtain ⟨pt, ct, bt, rfl, htc, htp, hti⟩ := htr.form
  obtain ⟨rfl, hbt1, hbt2⟩ := htp (by omega)
  have HTW : Hid (Within 100000 t) := Lib.hid (htw.mono (by omega))
  have HTL := Lib.hid htl
  rw [htl]
  have hbt : gd < bt := by omega
  clear hC6 hC7 hg6 hD6 htw htp hbg hgP2 hs6 hs4 hr0 hr3I hm1 hr3 htr hbt1
  clear w5
  have hsrc : ∀ j u, (t.map (Value.int .i64))[j]? = some u → w6.cell? ((⟨bt, 0, none⟩ : Addr).add j) = some u := vec_news (fun k hk => (hti k hk).1)
  have hn140 : 0 + n ≤ 140737488355328 := by omega
  have hn8 : (0 + n) * 8 ≤ 140737488355328 := by omega
  have hmapl : (t.map (Value.int .i64)).length = n * 1 := by rw [List.length_map, htl]; omega
  go_wp2_with (refine RX.wpl_appS (by rfl) elInt _ _ (by rfl) w6.heap.size (.slice none 0 0) 0 [] (World.ownsRow_nil _ _ _ _) (by rfl) ⟨bt, 0, none⟩ n ct (t.map (Value.int .i64)) (by rfl) hmapl hsrc (by simp [Value.oneCell']) hn8 hn140 (Nat.le_refl _) ?_; intro v' w7 hown hb7 hg7 hat7)
  clear hsrc hn8 hn140 hmapl hat7
  obtain ⟨A, hA⟩ : ∃ A, A = w6.heap.size := ⟨_, rfl⟩
  rw [← hA] at hown hbt2
  have hrow : RowV w7 A v' t := by
    have h := hown
    rw [Nat.zero_add, List.nil_append] at h
    unfold RowV; rw [htl]; exact h
  obtain ⟨px, cx, bx, rfl, hxc, hxp, hxi⟩ := hrow.form
  obtain ⟨rfl, hbx1, hbx2⟩ := hxp (by omega)
  rw [htl]
  replace hB := hB.trans (hb7.mono hB.size)
  have hD8 := hD7.below hb7
  have hseg : SegX A gd w6 w7 := ⟨hb7.size, fun k hk _ => hb7.block k (by omega)⟩
  have hA6 : A ≤ w6.heap.size := by omega
  have hA7 : w6.heap.size ≤ A := by omega
  have hPA : P < A := by rw [hA]; exact World.block_lt_of_cell? _ _ hP.1
  clear hown hrow hxp hb7 hg7 hD7
  clear hA
  go_wp2_with fail
  refine (next_any _ gd bd Md 0 6 hD8 (by omega)).mono ?_
  rintro e w8 ⟨r2, rfl, hr2, hg8, j8, hD9⟩
  have hr6 : r2 ≤ 5 := by omega
  replace hB := hB.grown hg8 hB.size (fun k hk => by injection hk with hk; omega)
  have hseg2 := hseg.own hA6 hg8
  have hgx : gd ≠ bx := by omega
  have hbdx : 0 < Md.length → bd ≠ bx := fun h0 => by have := hbdg h0; omega
  have hxi2 : IntsAt w8 bx 0 t := hxi.block (hg8.block bx hbx2 (by simpa using (Ne.symm hgx)))
  have HP := Lib.hid hP
  have HSO := Lib.hid hSO
  have HTI := Lib.hid hti
  have HXI := Lib.hid hxi2
  have HBB := Lib.hid hB
  have hWx : W.heap.size ≤ bx := by omega
  have hWgd : W.heap.size ≤ gd := by omega
  have hT0 := Lib.hid htl
  clear hxi hg8 hD8 hseg hP hSO hti hxi2 hB hr2 htl hbx2
  clear w7
  go_wp2
  go_loopw [10] (fun i wr => ∃ (k : Nat) (xs : List Int) (j : Nat), k ≤ 5 ∧ i = .int .i64 k ∧ xs.length = n ∧ Hid (Within (125000 - 5000 * k) xs) ∧ IntsAt wr bx 0 xs ∧ CodesAt wr gd bd Md j ∧ SegX A gd w6 wr ∧ Below W.heap.size W wr) (fun i _ => (intOf i).toNat)
  case atStart => exact ⟨r2, t, j8, hr6, rfl, hT0.out, Lib.hid (HTW.out.mono (by omega)), HXI.out, hD9, hseg2, HBB.out⟩
  case round =>
    clear hD9 hseg2
    obtain ⟨k, xs, j, hk, rfl, hxl, HXW, hI, hD, hsg, hB⟩ := hrel
    by_cases hlt : 0 < k
    · have hdk : decide ((k : Int) > 0) = true := decide_eq_true (by omega)
      have hDd := hD.below (show Below wr.heap.size wr wr.drew from (by repeat (first | (with_reducible assumption) | (with_reducible exact Below.refl _ _) | (with_reducible refine Below.setCell ?_ (by first | omega | (simp; done) | (simp; omega)) _) | (with_reducible refine Below.alloc ?_ (by first | omega | (simp; done) | (simp; omega)) _) | (with_reducible apply Below.drew) | assumption)))
      have hsgD : SegX A gd w6 wr.drew := hsg
      have hBD := hB.drew
      go_wp2
      refine RY.region RX.fN (fun w' => IntsAt w' bx 0 xs) (by kernel_rfl) (by kernel_rfl) (hI) (fun OPS HO QR hQR => ?_)
      repeat
        refine RY.step (fun R hR => ?_)
        first
        | (refine RY.one_skip (by first | rfl | (rw [HO.out]; rfl)) (by simp only [RX.put_some, RX.put_none, List.set_cons_zero, List.set_cons_succ]; rfl) ?_
           refine hR _ _ ?_; clear hR R)
        | (refine RY.one_move (by first | rfl | (rw [HO.out]; rfl)) rfl (by first | exact Or.inl rfl | exact Or.inr rfl) (by simp only [RX.eval_tmp, RX.eval_const, List.getD_cons_zero, List.getD_cons_succ]; rfl) (by simp only [RX.put_some, RX.put_none, List.set_cons_zero, List.set_cons_succ]; rfl) ?_
           refine hR _ _ ?_; clear hR R)
        | (refine RY.one_nil (by first | rfl | (rw [HO.out]; rfl)) rfl rfl (by simp only [RX.eval_tmp, RX.eval_const, List.getD_cons_zero, List.getD_cons_succ]; rfl) (by simp only [RX.put_some, RX.put_none, List.set_cons_zero, List.set_cons_succ]; rfl) ?_
           refine hR _ _ ?_; clear hR R)
        | (refine RY.one_float (by first | rfl | (rw [HO.out]; rfl)) rfl rfl rfl ?_
           apply Exists.intro; apply Exists.intro
           refine ⟨fun w' hS K hK => ?_, ?_, ?_⟩
           · skip; go_wp2; exact hK _ _ (by simp only [RX.arr_getD, List.getD_cons_zero, List.getD_cons_succ]; first | exact RX.dec_t (by omega) | exact RX.dec_f (by omega) | exact RX.beq_t (by omega) | exact RX.beq_f (by omega) | exact RX.bne_t (by omega) | exact RX.bne_f (by omega) | exact RX.bneB _ | rfl) rfl
           · simp only [RX.put_some, RX.put_none, List.set_cons_zero, List.set_cons_succ]; rfl
           refine hR _ _ ?_; clear hR R)
      refine RY.step (fun R hR => ?_)
      refine RY.one_chain (by first | rfl | (rw [HO.out]; rfl)) rfl (fun K hK => ?_)
      go_wp2_with fail
      refine (next_any _ gd bd Md j n hDd (by omega)).mono ?_
      rintro e w9 ⟨r, rfl, hr, hg9, j9, hD9⟩
      have hrn : r < n := by omega
      have hrl : r < xs.length := by omega
      have hI9 : IntsAt w9 bx 0 xs := fun q hq => hI.block (hg9.block bx (by have := hsg.1; have := World.block_lt_of_cell? _ _ (hI 0 (by omega)).1; exact this) (by simpa using (Ne.symm hgx))) q hq
      have hsg9 := hsgD.own hA6 hg9
      have hB9 := hBD.grown hg9 hBD.size (fun k hk => by injection hk with hk; omega)
      obtain ⟨a, ha⟩ : ∃ a, a = xs[r] := ⟨_, rfl⟩
      have hab : -125000 ≤ a ∧ a ≤ 125000 := by have := HXW.out _ (List.getElem_mem hrl); rw [← ha] at this; omega
      have hr0 : (0 : Int) ≤ (r : Int) := by omega
      have hrI : (r : Int) < (n : Int) := by omega
      clear hr hg9 hDd hsgD hBD
      refine hK _ _ ⟨.inr (hI9), hR _ _ ?_⟩; clear hK K hR R
      repeat
        refine RY.step (fun R hR => ?_)
        first
        | (refine RY.one_skip (by first | rfl | (rw [HO.out]; rfl)) (by simp only [RX.put_some, RX.put_none, List.set_cons_zero, List.set_cons_succ]; rfl) ?_
           refine hR _ _ ?_; clear hR R)
        | (refine RY.one_move (by first | rfl | (rw [HO.out]; rfl)) rfl (by first | exact Or.inl rfl | exact Or.inr rfl) (by simp only [RX.eval_tmp, RX.eval_const, List.getD_cons_zero, List.getD_cons_succ]; rfl) (by simp only [RX.put_some, RX.put_none, List.set_cons_zero, List.set_cons_succ]; rfl) ?_
           refine hR _ _ ?_; clear hR R)
        | (refine RY.one_nil (by first | rfl | (rw [HO.out]; rfl)) rfl rfl (by simp only [RX.eval_tmp, RX.eval_const, List.getD_cons_zero, List.getD_cons_succ]; rfl) (by simp only [RX.put_some, RX.put_none, List.set_cons_zero, List.set_cons_succ]; rfl) ?_
           refine hR _ _ ?_; clear hR R)
        | (refine RY.one_float (by first | rfl | (rw [HO.out]; rfl)) rfl rfl rfl ?_
           apply Exists.intro; apply Exists.intro
           refine ⟨fun w' hS K hK => ?_, ?_, ?_⟩
           · have hS1 := (hS r hrl).1; have hS2 := (hS r hrl).2; rw [Nat.zero_add] at hS1 hS2; rw [← ha] at hS1; go_wp2; exact hK _ _ (by simp only [RX.arr_getD, List.getD_cons_zero, List.getD_cons_succ]; first | exact RX.dec_t (by omega) | exact RX.dec_f (by omega) | exact RX.beq_t (by omega) | exact RX.beq_f (by omega) | exact RX.bne_t (by omega) | exact RX.bne_f (by omega) | exact RX.bneB _ | rfl) rfl
           · simp only [RX.put_some, RX.put_none, List.set_cons_zero, List.set_cons_succ]; rfl
           refine hR _ _ ?_; clear hR R)
      refine RY.step (fun R hR => ?_)
      refine RY.one_chain (by first | rfl | (rw [HO.out]; rfl)) rfl (fun K hK => ?_)
      go_wp2_with fail
      refine (signed_any _ gd bd Md j9 5000 hD9 (by omega)).mono ?_
      rintro e w10 ⟨sv, rfl, hs1, hs2, hg10, j10, hD10⟩
      have hI10 : IntsAt w10 bx 0 xs := fun q hq => hI9.block (hg10.block bx (by have := World.block_lt_of_cell? _ _ (hI9 0 (by omega)).1; exact this) (by simpa using (Ne.symm hgx))) q hq
      have hsg10 := hsg9.own hA6 hg10
      have hB10 := hB9.grown hg10 hB9.size (fun k hk => by injection hk with hk; omega)
      clear hg10 hD9 hsg9 hB9 hI9
      refine hK _ _ ⟨.inr (hI10), hR _ _ ?_⟩; clear hK K hR R
      repeat
        refine RY.step (fun R hR => ?_)
        first
        | (refine RY.one_skip (by first | rfl | (rw [HO.out]; rfl)) (by simp only [RX.put_some, RX.put_none, List.set_cons_zero, List.set_cons_succ]; rfl) ?_
           refine hR _ _ ?_; clear hR R)
        | (refine RY.one_move (by first | rfl | (rw [HO.out]; rfl)) rfl (by first | exact Or.inl rfl | exact Or.inr rfl) (by simp only [RX.eval_tmp, RX.eval_const, List.getD_cons_zero, List.getD_cons_succ]; rfl) (by simp only [RX.put_some, RX.put_none, List.set_cons_zero, List.set_cons_succ]; rfl) ?_
           refine hR _ _ ?_; clear hR R)
        | (refine RY.one_nil (by first | rfl | (rw [HO.out]; rfl)) rfl rfl (by simp only [RX.eval_tmp, RX.eval_const, List.getD_cons_zero, List.getD_cons_succ]; rfl) (by simp only [RX.put_some, RX.put_none, List.set_cons_zero, List.set_cons_succ]; rfl) ?_
           refine hR _ _ ?_; clear hR R)
        | (refine RY.one_float (by first | rfl | (rw [HO.out]; rfl)) rfl rfl rfl ?_
           apply Exists.intro; apply Exists.intro
           refine ⟨fun w' hS K hK => ?_, ?_, ?_⟩
           · have hS1 := (hS r hrl).1; have hS2 := (hS r hrl).2; rw [Nat.zero_add] at hS1 hS2; rw [← ha] at hS1; go_wp2; exact hK _ _ (by simp only [RX.arr_getD, List.getD_cons_zero, List.getD_cons_succ]; first | exact RX.dec_t (by omega) | exact RX.dec_f (by omega) | exact RX.beq_t (by omega) | exact RX.beq_f (by omega) | exact RX.bne_t (by omega) | exact RX.bne_f (by omega) | exact RX.bneB _ | rfl) rfl
           · simp only [RX.put_some, RX.put_none, List.set_cons_zero, List.set_cons_succ]; rfl
           refine hR _ _ ?_; clear hR R)
      have HI10 := Lib.hid hI10
      obtain ⟨k1, k2⟩ := hI10 r hrl
      rw [Nat.zero_add] at k1 k2
      have HW2 : Hid (Within (125000 - 5000 * (k - 1)) (xs.set r (a + sv))) := Lib.hid (fun z hz => by
        rcases List.mem_or_eq_of_mem_set hz with h | h
        · have := HXW.out z h; omega
        · have := HXW.out _ (List.getElem_mem hrl); rw [← ha] at this; omega)
      refine RY.step (fun R hR => ?_)
      refine RY.one_chain (by first | rfl | (rw [HO.out]; rfl)) rfl (fun K hK => ?_)
      go_wp2
      first | refine ⟨(by first | exact .inl rfl | exact .inl trivial | trivial), hR _ _ (RY.wpL_nil (hQR _ _ ?_))⟩ | refine hR _ _ (RY.wpL_nil (hQR _ _ ?_)) | refine hQR _ _ ?_
      (try clear hR); (try clear R); clear hQR QR HO OPS
      go_wp2
      go_roundw
      case rel => exact ⟨k - 1, xs.set r (a + sv), j10, by omega, by congr 1; omega, by rw [List.length_set]; exact hxl, HW2, by have := HI10.out.set r (a + sv); rw [Nat.zero_add] at this; rw [← ha]; exact this, hD10.set1 hgx hbdx _ _, hsg10.set hA6 hbx1 _, hB10.setCell (by simp <;> omega) _⟩
      case measure => simp [intOf]; omega
    · have hdk : decide ((k : Int) > 0) = false := decide_eq_false (by omega)
      obtain rfl : k = 0 := by omega
      go_wp2_with fail
      refine (next_any _ gd bd Md j 3 hD (by omega)).mono ?_
      rintro e w9 ⟨r, rfl, hr, hg9, j9, hD9⟩
      have hB9 := hB.grown hg9 hB.size (fun k hk => by injection hk with hk; omega)
      have hsg9 := hsg.own hA6 hg9
      have hI9 : IntsAt w9 bx 0 xs := fun q hq => hI.block (hg9.block bx (by have := World.block_lt_of_cell? _ _ (hI 0 (by omega)).1; exact this) (by simpa using (Ne.symm hgx))) q hq
      have hSO9 := HSO.out.seg hsg9.1 (fun k h1 h2 => hsg9.2 k (by omega) (by omega))
      have hP9 := HP.out.seg (hsg9.2 P hPA (by omega))
      have hTI9 : IntsAt w9 bt 0 t := HTI.out.block (hsg9.2 bt hbt2 (by omega))
      have hHL := Lib.hid hxl
      have HXW1 : Hid (Within 131072 xs) := Lib.hid (HXW.out.mono (by omega))
      clear hB hsg hI hD hg9 HSO HP HTI HXI HBB HXW hxl hsg9 hr hk
      by_cases hr2 : r = 2
      · subst hr2
        go_wp2_with fail
        refine (cvec_any w9 gd bd Md j9 n 100000 hD9 (fun h0 => hD9.ltb h0) (by omega) (by omega)).mono ?_
        rintro e w10 ⟨vy, xs2, rfl, hyl, hyw, hyr, hg10, j10, hD10⟩
        have hB := hB9.grown hg10 hB9.size (fun k hk => by injection hk with hk; omega)
        have hSI := (hSO9.grown hg10 (fun k hk => by injection hk with hk; omega)).sysin
        have hP := hP9.turn hg10 (by omega)
        have hVt : VecAt w10 (some ⟨bt, 0, none⟩) t := vec_of_ints (hTI9.block (hg10.block bt (by have := World.block_lt_of_cell? _ _ (hTI9 0 (by rw [HTL.out]; omega)).1; exact this) (by simp; omega)))
        obtain ⟨py, cy, rfl, hVx⟩ := hyr.vec
        have HXL : Hid (xs2.length = n) := Lib.hid hyl
        have HXW : Hid (Within 131072 xs2) := Lib.hid (hyw.mono (by omega))
        rw [hyl]
        clear hyl hyw hyr hg10 hD10 hD9 hB9 hSO9 hP9 hTI9 hI9 hHL HXW1
        have HU : Hid ((subL t xs2).length = S.n) := Lib.hid (by rw [subL_len (by rw [HTL.out, HXL.out]), HTL.out, HN.out])
        have HLS : Hid (lessL (multL S t) (multL S xs2) = multL S (subL t xs2)) := Lib.hid (mult_less HOK.out (by rw [HTL.out, HN.out]) (by rw [HXL.out, HN.out]))
        have HSB : Hid (dotL (multL S (subL t xs2)) (multL S (subL t xs2)) ≤ 21267647932558653966460912964485513216) := Lib.hid (by
          have h1 := mult_b4 HOK.out HU.out ((subL_within HTW.out HXW.out).mono (by omega))
          have h2 := (dot_sq (by omega) _ h1).2
          rw [multL_len, HU.out, ← HN.out] at h2
          omega)
        have HMB : Hid (Bd 144115188075855872 (multL S t)) := Lib.hid (by
          have h1 := mult_b8 HOK.out (by rw [HTL.out, HN.out]) (HTW.out.mono (by omega))
          exact h1.mono (by omega))
        have HML : Hid ((multL S t).length = n) := Lib.hid (by rw [multL_len, HTL.out])
        have HM : Hid (∀ (w' : World), HasTab w' → SysIn w' (.agg #[.int .i64 S.f, .int .i64 S.s, .int .i64 S.a, .slice p1 S.rows.length d1, .slice p2 S.targets.length d2]) S → VecAt w' (some ⟨bt, 0, none⟩) t → Calls Tryz.prog 21 #[.agg #[.int .i64 S.f, .int .i64 S.s, .int .i64 S.a, .slice p1 S.rows.length d1, .slice p2 S.targets.length d2], .slice (some ⟨bt, 0, none⟩) n ct] w' fun e w'' => ∃ N, e = .returned (.tuple #[.slice (some ⟨N, 0, none⟩) n n, .int .i64 0]) ∧ VecAt w'' (some ⟨N, 0, none⟩) (multL S t) ∧ Below w'.heap.size w' w'') := Lib.hid (fun w' h1 h2 h3 => by
          have h := cmult_ok S _ (some ⟨bt, 0, none⟩) t ct w' h1 h2 HOK.out h3 (HPR.out t HTL.out (HTW.out.mono (by omega)))
          rw [HTL.out, ← HN.out] at h
          refine h.mono ?_
          rintro e w'' ⟨N, rfl, hI, _, hb⟩
          exact ⟨N, rfl, vec_of_ints hI, hb⟩)
        have HOF : Hid (∀ (w' : World) (Nr : Nat), HasTab w' → SysIn w' (.agg #[.int .i64 S.f, .int .i64 S.s, .int .i64 S.a, .slice p1 S.rows.length d1, .slice p2 S.targets.length d2]) S → VecAt w' py xs2 → VecAt w' (some ⟨Nr, 0, none⟩) (multL S t) → Calls Tryz.prog 42 #[.agg #[.int .i64 S.f, .int .i64 S.s, .int .i64 S.a, .slice p1 S.rows.length d1, .slice p2 S.targets.length d2], .slice (some ⟨Nr, 0, none⟩) n n, .slice py n cy] w' fun e w'' => ∃ (C D : Int) (r : Nat), wv (dotL (multL S (subL t xs2)) (multL S (subL t xs2))) = .agg #[.int .i64 C, .int .u64 D] ∧ e = .returned (.tuple #[.agg #[.int .i64 C, .int .u64 D, .int .i64 S.a, .int .i64 (r : Int)], .int .i64 0]) ∧ CertOf (dotL (multL S (subL t xs2)) (multL S (subL t xs2))) S.a r ∧ Below w'.heap.size w' w'') := Lib.hid (fun w' Nr h1 h2 h3 h4 => by
          have h := cof_ok S _ (some ⟨Nr, 0, none⟩) py (multL S t) xs2 n cy n w' h1 h2 HOK.out h3 (HPR.out xs2 HXL.out (HXW.out.mono (by omega))) h4 HXL.out HML.out HMB.out (by rw [HLS.out]; exact HSB.out)
          rw [HLS.out] at h; exact h)
        have HVE : Hid (∀ (w' : World) (Nr : Nat) (C D : Int) (r : Nat), wv (dotL (multL S (subL t xs2)) (multL S (subL t xs2))) = .agg #[.int .i64 C, .int .u64 D] → CertOf (dotL (multL S (subL t xs2)) (multL S (subL t xs2))) S.a r → HasTab w' → SysIn w' (.agg #[.int .i64 S.f, .int .i64 S.s, .int .i64 S.a, .slice p1 S.rows.length d1, .slice p2 S.targets.length d2]) S → VecAt w' py xs2 → VecAt w' (some ⟨Nr, 0, none⟩) (multL S t) → Calls Tryz.prog 44 #[.agg #[.int .i64 S.f, .int .i64 S.s, .int .i64 S.a, .slice p1 S.rows.length d1, .slice p2 S.targets.length d2], .slice (some ⟨Nr, 0, none⟩) n n, .slice py n cy, .agg #[.int .i64 C, .int .u64 D, .int .i64 S.a, .int .i64 (r : Int)]] w' fun e w'' => e = .returned (.int .i64 0) ∧ Below w'.heap.size w' w'') := Lib.hid (fun w' Nr C D r h5 h6 h1 h2 h3 h4 =>
          cverify_ok S _ (some ⟨Nr, 0, none⟩) py (multL S t) xs2 n cy n w' h1 h2 HOK.out h3 (HPR.out xs2 HXL.out (HXW.out.mono (by omega))) h4 HXL.out HML.out HMB.out (by rw [HLS.out]; exact HSB.out) C D r (by rw [HLS.out]; exact h5) (by rw [HLS.out]; exact h6))
        obtain ⟨k0, k1, k2, k3, k4⟩ := hP
        go_wp2_with fail
        refine (HM.out _ (hT.below hB) hSI hVt).mono ?_
        rintro e wA ⟨Rb, rfl, hVR, hbm⟩
        have hP : Five _ P S.f S.s S.a (.slice p1 S.rows.length d1) (.slice p2 S.targets.length d2) := ⟨k0, k1, k2, k3, k4⟩
        clear k0 k1 k2 k3 k4
        replace hB := hB.trans (hbm.mono hB.size)
        replace hP := hP.below hbm
        replace hSI := hSI.below hbm
        replace hVt := hVt.below hbm
        replace hVx := hVx.below hbm
        clear hbm
        obtain ⟨k0, k1, k2, k3, k4⟩ := hP
        go_wp2_with fail
        refine (HOF.out _ Rb (hT.below hB) hSI hVx hVR).mono ?_
        rintro e wB ⟨C, D, r, hWV, rfl, hCe, hbm⟩
        have hP : Five _ P S.f S.s S.a (.slice p1 S.rows.length d1) (.slice p2 S.targets.length d2) := ⟨k0, k1, k2, k3, k4⟩
        clear k0 k1 k2 k3 k4
        replace hB := hB.trans (hbm.mono hB.size)
        replace hP := hP.below hbm
        replace hSI := hSI.below hbm
        replace hVt := hVt.below hbm
        replace hVx := hVx.below hbm
        replace hVR := hVR.below hbm
        clear hbm
        have HCE := Lib.hid (And.intro hWV hCe)
        have HRR : Hid (dotL (subL xs2 t) (subL xs2 t) ≤ (r : Int) * r) := Lib.hid (by rw [sub_sq]; exact cert_radius HOK.out HU.out hCe.2.1)
        have hrB : (r : Int) ≤ 4611686018427387905 := by
          have h1 := hCe.1
          have h2 : 4611686018427387904 / S.a ≤ 4611686018427387904 := Int.ediv_le_self _ (by omega)
          omega
        have hbm := (Below.refl wB.heap.size wB).alloc (Nat.le_refl _) (.cells #[.int .i64 C, .int .u64 D, .int .i64 S.a, .int .i64 (r : Int)] 70)
        have hCA := CertAt.new wB C D S.a (r : Int)
        replace hB := hB.trans (hbm.mono hB.size)
        replace hP := hP.below hbm
        replace hSI := hSI.below hbm
        replace hVt := hVt.below hbm
        replace hVx := hVx.below hbm
        replace hVR := hVR.below hbm
        clear hbm hWV hCe
        have hWI : Hid (decide (dotL (subL xs2 t) (subL xs2 t) ≤ (r : Int) * r) = true) := Lib.hid (decide_eq_true HRR.out)
        have HXB : Hid (Bd 1099511627776 xs2) := Lib.hid (fun z hz => by have := HXW.out z hz; omega)
        have HTB : Hid (Bd 1099511627776 t) := Lib.hid (fun z hz => by have := HTW.out z hz; omega)
        by_cases hr0 : 0 < r
        · go_wp2_with fail
          obtain ⟨O, hO⟩ : ∃ O, O = wB.heap.size := ⟨_, rfl⟩
          rw [← hO] at hCA ⊢
          clear hO
          generalize (wB.alloc (.cells #[.int .i64 C, .int .u64 D, .int .i64 S.a, .int .i64 (r : Int)] 70)) = V at *
          obtain ⟨k0, k1, k2, k3, k4⟩ := hP
          obtain ⟨c0, c1, c2, c3, -⟩ := hCA
          refine (cwithin_ok C D S.a (r : Int) py (some ⟨bt, 0, none⟩) xs2 t cy ct n _ HXL.out HTL.out hVx hVt (by omega) HXB.out HTB.out (by omega) hrB).mono ?_
          rintro e wC ⟨rfl, hbm⟩
          rw [hWI.out]
          have hBn := hB.trans (hbm.mono hB.size)
          have nc0 := RX.keep hbm c0
          have nc1 := RX.keep hbm c1
          have nc2 := RX.keep hbm c2
          have nc3 := RX.keep hbm c3
          have nk0 := RX.keep hbm k0
          have nk1 := RX.keep hbm k1
          have nk2 := RX.keep hbm k2
          have nk3 := RX.keep hbm k3
          have nk4 := RX.keep hbm k4
          have nhSI := hSI.below hbm
          have nhVx := hVx.below hbm
          have nhVt := hVt.below hbm
          have nhVR := hVR.below hbm
          clear hbm hB c0 c1 c2 c3 k0 k1 k2 k3 k4 hSI hVx hVt hVR
          have c0 := nc0
          have c1 := nc1
          have c2 := nc2
          have c3 := nc3
          have k0 := nk0
          have k1 := nk1
          have k2 := nk2
          have k3 := nk3
          have k4 := nk4
          have hSI := nhSI
          have hVx := nhVx
          have hVt := nhVt
          have hVR := nhVR
          have hB := hBn
          clear hBn nc0 nc1 nc2 nc3 nk0 nk1 nk2 nk3 nk4 nhSI nhVx nhVt nhVR
          go_wp2_with fail
          refine (HVE.out _ Rb C D r HCE.out.1 HCE.out.2 (hT.below hB) hSI hVx hVR).mono ?_
          rintro e wD ⟨rfl, hbm⟩
          have hBn := hB.trans (hbm.mono hB.size)
          have nc0 := RX.keep hbm c0
          have nc1 := RX.keep hbm c1
          have nc2 := RX.keep hbm c2
          have nc3 := RX.keep hbm c3
          have nk0 := RX.keep hbm k0
          have nk1 := RX.keep hbm k1
          have nk2 := RX.keep hbm k2
          have nk3 := RX.keep hbm k3
          have nk4 := RX.keep hbm k4
          have nhSI := hSI.below hbm
          have nhVx := hVx.below hbm
          have nhVt := hVt.below hbm
          have nhVR := hVR.below hbm
          clear hbm hB c0 c1 c2 c3 k0 k1 k2 k3 k4 hSI hVx hVt hVR
          have c0 := nc0
          have c1 := nc1
          have c2 := nc2
          have c3 := nc3
          have k0 := nk0
          have k1 := nk1
          have k2 := nk2
          have k3 := nk3
          have k4 := nk4
          have hSI := nhSI
          have hVx := nhVx
          have hVt := nhVt
          have hVR := nhVR
          have hB := hBn
          clear hBn nc0 nc1 nc2 nc3 nk0 nk1 nk2 nk3 nk4 nhSI nhVx nhVt nhVR
          go_wp2
          go_ret
          exact ⟨rfl, hB⟩
        · have hrz : r = 0 := by omega
          have HEQ : Hid (decide (xs2 = t) = true) := Lib.hid (decide_eq_true (sub_self_zero xs2 t (by rw [HXL.out, HTL.out]) (by have h := HRR.out; rw [hrz] at h; simpa using h)))
          have hrd : decide ((r : Int) > 0) = false := decide_eq_false (by omega)
          have hrd2 : ¬ ((r : Int) > 0) := by omega
          clear hrz hr0
          go_wp2_with fail
          obtain ⟨O, hO⟩ : ∃ O, O = wB.heap.size := ⟨_, rfl⟩
          rw [← hO] at hCA ⊢
          clear hO
          generalize (wB.alloc (.cells #[.int .i64 C, .int .u64 D, .int .i64 S.a, .int .i64 (r : Int)] 70)) = V at *
          obtain ⟨k0, k1, k2, k3, k4⟩ := hP
          obtain ⟨c0, c1, c2, c3, -⟩ := hCA
          refine (cwithin_ok C D S.a (r : Int) py (some ⟨bt, 0, none⟩) xs2 t cy ct n _ HXL.out HTL.out hVx hVt (by omega) HXB.out HTB.out (by omega) hrB).mono ?_
          rintro e wC ⟨rfl, hbm⟩
          rw [hWI.out]
          have hBn := hB.trans (hbm.mono hB.size)
          have nc0 := RX.keep hbm c0
          have nc1 := RX.keep hbm c1
          have nc2 := RX.keep hbm c2
          have nc3 := RX.keep hbm c3
          have nk0 := RX.keep hbm k0
          have nk1 := RX.keep hbm k1
          have nk2 := RX.keep hbm k2
          have nk3 := RX.keep hbm k3
          have nk4 := RX.keep hbm k4
          have nhSI := hSI.below hbm
          have nhVx := hVx.below hbm
          have nhVt := hVt.below hbm
          have nhVR := hVR.below hbm
          clear hbm hB c0 c1 c2 c3 k0 k1 k2 k3 k4 hSI hVx hVt hVR
          have c0 := nc0
          have c1 := nc1
          have c2 := nc2
          have c3 := nc3
          have k0 := nk0
          have k1 := nk1
          have k2 := nk2
          have k3 := nk3
          have k4 := nk4
          have hSI := nhSI
          have hVx := nhVx
          have hVt := nhVt
          have hVR := nhVR
          have hB := hBn
          clear hBn nc0 nc1 nc2 nc3 nk0 nk1 nk2 nk3 nk4 nhSI nhVx nhVt nhVR
          go_wp2_with fail
          refine (HVE.out _ Rb C D r HCE.out.1 HCE.out.2 (hT.below hB) hSI hVx hVR).mono ?_
          rintro e wD ⟨rfl, hbm⟩
          have hBn := hB.trans (hbm.mono hB.size)
          have nc0 := RX.keep hbm c0
          have nc1 := RX.keep hbm c1
          have nc2 := RX.keep hbm c2
          have nc3 := RX.keep hbm c3
          have nk0 := RX.keep hbm k0
          have nk1 := RX.keep hbm k1
          have nk2 := RX.keep hbm k2
          have nk3 := RX.keep hbm k3
          have nk4 := RX.keep hbm k4
          have nhSI := hSI.below hbm
          have nhVx := hVx.below hbm
          have nhVt := hVt.below hbm
          have nhVR := hVR.below hbm
          clear hbm hB c0 c1 c2 c3 k0 k1 k2 k3 k4 hSI hVx hVt hVR
          have c0 := nc0
          have c1 := nc1
          have c2 := nc2
          have c3 := nc3
          have k0 := nk0
          have k1 := nk1
          have k2 := nk2
          have k3 := nk3
          have k4 := nk4
          have hSI := nhSI
          have hVx := nhVx
          have hVt := nhVt
          have hVR := nhVR
          have hB := hBn
          clear hBn nc0 nc1 nc2 nc3 nk0 nk1 nk2 nk3 nk4 nhSI nhVx nhVt nhVR
          go_wp2_with fail
          refine (rints25_at py (some ⟨bt, 0, none⟩) xs2 t cy ct n _ HXL.out HTL.out hVx hVt (by omega)).mono ?_
          rintro e wE ⟨rfl, hbm⟩
          rw [HEQ.out]
          have hBn := hB.trans (hbm.mono hB.size)
          have nc0 := RX.keep hbm c0
          have nc1 := RX.keep hbm c1
          have nc2 := RX.keep hbm c2
          have nc3 := RX.keep hbm c3
          have nk0 := RX.keep hbm k0
          have nk1 := RX.keep hbm k1
          have nk2 := RX.keep hbm k2
          have nk3 := RX.keep hbm k3
          have nk4 := RX.keep hbm k4
          have nhSI := hSI.below hbm
          have nhVx := hVx.below hbm
          have nhVt := hVt.below hbm
          have nhVR := hVR.below hbm
          clear hbm hB c0 c1 c2 c3 k0 k1 k2 k3 k4 hSI hVx hVt hVR
          have c0 := nc0
          have c1 := nc1
          have c2 := nc2
          have c3 := nc3
          have k0 := nk0
          have k1 := nk1
          have k2 := nk2
          have k3 := nk3
          have k4 := nk4
          have hSI := nhSI
          have hVx := nhVx
          have hVt := nhVt
          have hVR := nhVR
          have hB := hBn
          clear hBn nc0 nc1 nc2 nc3 nk0 nk1 nk2 nk3 nk4 nhSI nhVx nhVt nhVR
          go_wp2
          go_ret
          exact ⟨rfl, hB⟩
      · have hrb : ((r : Int) == 2) = false := by rw [beq_eq_false_iff_ne]; omega
        have hB := hB9
        have hSI := hSO9.sysin
        have hP := hP9
        have hVt : VecAt w9 (some ⟨bt, 0, none⟩) t := vec_of_ints hTI9
        have hVx : VecAt w9 (some ⟨bx, 0, none⟩) xs := vec_of_ints hI9
        have HXL := hHL
        have HXW := HXW1
        clear hD9 hB9 hSO9 hP9 hTI9 hI9 hHL HXW1 hr2
        have HU : Hid ((subL t xs).length = S.n) := Lib.hid (by rw [subL_len (by rw [HTL.out, HXL.out]), HTL.out, HN.out])
        have HLS : Hid (lessL (multL S t) (multL S xs) = multL S (subL t xs)) := Lib.hid (mult_less HOK.out (by rw [HTL.out, HN.out]) (by rw [HXL.out, HN.out]))
        have HSB : Hid (dotL (multL S (subL t xs)) (multL S (subL t xs)) ≤ 21267647932558653966460912964485513216) := Lib.hid (by
          have h1 := mult_b4 HOK.out HU.out ((subL_within HTW.out HXW.out).mono (by omega))
          have h2 := (dot_sq (by omega) _ h1).2
          rw [multL_len, HU.out, ← HN.out] at h2
          omega)
        have HMB : Hid (Bd 144115188075855872 (multL S t)) := Lib.hid (by
          have h1 := mult_b8 HOK.out (by rw [HTL.out, HN.out]) (HTW.out.mono (by omega))
          exact h1.mono (by omega))
        have HML : Hid ((multL S t).length = n) := Lib.hid (by rw [multL_len, HTL.out])
        have HM : Hid (∀ (w' : World), HasTab w' → SysIn w' (.agg #[.int .i64 S.f, .int .i64 S.s, .int .i64 S.a, .slice p1 S.rows.length d1, .slice p2 S.targets.length d2]) S → VecAt w' (some ⟨bt, 0, none⟩) t → Calls Tryz.prog 21 #[.agg #[.int .i64 S.f, .int .i64 S.s, .int .i64 S.a, .slice p1 S.rows.length d1, .slice p2 S.targets.length d2], .slice (some ⟨bt, 0, none⟩) n ct] w' fun e w'' => ∃ N, e = .returned (.tuple #[.slice (some ⟨N, 0, none⟩) n n, .int .i64 0]) ∧ VecAt w'' (some ⟨N, 0, none⟩) (multL S t) ∧ Below w'.heap.size w' w'') := Lib.hid (fun w' h1 h2 h3 => by
          have h := cmult_ok S _ (some ⟨bt, 0, none⟩) t ct w' h1 h2 HOK.out h3 (HPR.out t HTL.out (HTW.out.mono (by omega)))
          rw [HTL.out, ← HN.out] at h
          refine h.mono ?_
          rintro e w'' ⟨N, rfl, hI, _, hb⟩
          exact ⟨N, rfl, vec_of_ints hI, hb⟩)
        have HOF : Hid (∀ (w' : World) (Nr : Nat), HasTab w' → SysIn w' (.agg #[.int .i64 S.f, .int .i64 S.s, .int .i64 S.a, .slice p1 S.rows.length d1, .slice p2 S.targets.length d2]) S → VecAt w' (some ⟨bx, 0, none⟩) xs → VecAt w' (some ⟨Nr, 0, none⟩) (multL S t) → Calls Tryz.prog 42 #[.agg #[.int .i64 S.f, .int .i64 S.s, .int .i64 S.a, .slice p1 S.rows.length d1, .slice p2 S.targets.length d2], .slice (some ⟨Nr, 0, none⟩) n n, .slice (some ⟨bx, 0, none⟩) n cx] w' fun e w'' => ∃ (C D : Int) (r : Nat), wv (dotL (multL S (subL t xs)) (multL S (subL t xs))) = .agg #[.int .i64 C, .int .u64 D] ∧ e = .returned (.tuple #[.agg #[.int .i64 C, .int .u64 D, .int .i64 S.a, .int .i64 (r : Int)], .int .i64 0]) ∧ CertOf (dotL (multL S (subL t xs)) (multL S (subL t xs))) S.a r ∧ Below w'.heap.size w' w'') := Lib.hid (fun w' Nr h1 h2 h3 h4 => by
          have h := cof_ok S _ (some ⟨Nr, 0, none⟩) (some ⟨bx, 0, none⟩) (multL S t) xs n cx n w' h1 h2 HOK.out h3 (HPR.out xs HXL.out (HXW.out.mono (by omega))) h4 HXL.out HML.out HMB.out (by rw [HLS.out]; exact HSB.out)
          rw [HLS.out] at h; exact h)
        have HVE : Hid (∀ (w' : World) (Nr : Nat) (C D : Int) (r : Nat), wv (dotL (multL S (subL t xs)) (multL S (subL t xs))) = .agg #[.int .i64 C, .int .u64 D] → CertOf (dotL (multL S (subL t xs)) (multL S (subL t xs))) S.a r → HasTab w' → SysIn w' (.agg #[.int .i64 S.f, .int .i64 S.s, .int .i64 S.a, .slice p1 S.rows.length d1, .slice p2 S.targets.length d2]) S → VecAt w' (some ⟨bx, 0, none⟩) xs → VecAt w' (some ⟨Nr, 0, none⟩) (multL S t) → Calls Tryz.prog 44 #[.agg #[.int .i64 S.f, .int .i64 S.s, .int .i64 S.a, .slice p1 S.rows.length d1, .slice p2 S.targets.length d2], .slice (some ⟨Nr, 0, none⟩) n n, .slice (some ⟨bx, 0, none⟩) n cx, .agg #[.int .i64 C, .int .u64 D, .int .i64 S.a, .int .i64 (r : Int)]] w' fun e w'' => e = .returned (.int .i64 0) ∧ Below w'.heap.size w' w'') := Lib.hid (fun w' Nr C D r h5 h6 h1 h2 h3 h4 =>
          cverify_ok S _ (some ⟨Nr, 0, none⟩) (some ⟨bx, 0, none⟩) (multL S t) xs n cx n w' h1 h2 HOK.out h3 (HPR.out xs HXL.out (HXW.out.mono (by omega))) h4 HXL.out HML.out HMB.out (by rw [HLS.out]; exact HSB.out) C D r (by rw [HLS.out]; exact h5) (by rw [HLS.out]; exact h6))
        obtain ⟨k0, k1, k2, k3, k4⟩ := hP
        go_wp2_with fail
        refine (HM.out _ (hT.below hB) hSI hVt).mono ?_
        rintro e wA ⟨Rb, rfl, hVR, hbm⟩
        have hP : Five _ P S.f S.s S.a (.slice p1 S.rows.length d1) (.slice p2 S.targets.length d2) := ⟨k0, k1, k2, k3, k4⟩
        clear k0 k1 k2 k3 k4
        replace hB := hB.trans (hbm.mono hB.size)
        replace hP := hP.below hbm
        replace hSI := hSI.below hbm
        replace hVt := hVt.below hbm
        replace hVx := hVx.below hbm
        clear hbm
        obtain ⟨k0, k1, k2, k3, k4⟩ := hP
        go_wp2_with fail
        refine (HOF.out _ Rb (hT.below hB) hSI hVx hVR).mono ?_
        rintro e wB ⟨C, D, r, hWV, rfl, hCe, hbm⟩
        have hP : Five _ P S.f S.s S.a (.slice p1 S.rows.length d1) (.slice p2 S.targets.length d2) := ⟨k0, k1, k2, k3, k4⟩
        clear k0 k1 k2 k3 k4
        replace hB := hB.trans (hbm.mono hB.size)
        replace hP := hP.below hbm
        replace hSI := hSI.below hbm
        replace hVt := hVt.below hbm
        replace hVx := hVx.below hbm
        replace hVR := hVR.below hbm
        clear hbm
        have HCE := Lib.hid (And.intro hWV hCe)
        have HRR : Hid (dotL (subL xs t) (subL xs t) ≤ (r : Int) * r) := Lib.hid (by rw [sub_sq]; exact cert_radius HOK.out HU.out hCe.2.1)
        have hrB : (r : Int) ≤ 4611686018427387905 := by
          have h1 := hCe.1
          have h2 : 4611686018427387904 / S.a ≤ 4611686018427387904 := Int.ediv_le_self _ (by omega)
          omega
        have hbm := (Below.refl wB.heap.size wB).alloc (Nat.le_refl _) (.cells #[.int .i64 C, .int .u64 D, .int .i64 S.a, .int .i64 (r : Int)] 70)
        have hCA := CertAt.new wB C D S.a (r : Int)
        replace hB := hB.trans (hbm.mono hB.size)
        replace hP := hP.below hbm
        replace hSI := hSI.below hbm
        replace hVt := hVt.below hbm
        replace hVx := hVx.below hbm
        replace hVR := hVR.below hbm
        clear hbm hWV hCe
        have hWI : Hid (decide (dotL (subL xs t) (subL xs t) ≤ (r : Int) * r) = true) := Lib.hid (decide_eq_true HRR.out)
        have HXB : Hid (Bd 1099511627776 xs) := Lib.hid (fun z hz => by have := HXW.out z hz; omega)
        have HTB : Hid (Bd 1099511627776 t) := Lib.hid (fun z hz => by have := HTW.out z hz; omega)
        by_cases hr0 : 0 < r
        · go_wp2_with fail
          obtain ⟨O, hO⟩ : ∃ O, O = wB.heap.size := ⟨_, rfl⟩
          rw [← hO] at hCA ⊢
          clear hO
          generalize (wB.alloc (.cells #[.int .i64 C, .int .u64 D, .int .i64 S.a, .int .i64 (r : Int)] 70)) = V at *
          obtain ⟨k0, k1, k2, k3, k4⟩ := hP
          obtain ⟨c0, c1, c2, c3, -⟩ := hCA
          refine (cwithin_ok C D S.a (r : Int) (some ⟨bx, 0, none⟩) (some ⟨bt, 0, none⟩) xs t cx ct n _ HXL.out HTL.out hVx hVt (by omega) HXB.out HTB.out (by omega) hrB).mono ?_
          rintro e wC ⟨rfl, hbm⟩
          rw [hWI.out]
          have hBn := hB.trans (hbm.mono hB.size)
          have nc0 := RX.keep hbm c0
          have nc1 := RX.keep hbm c1
          have nc2 := RX.keep hbm c2
          have nc3 := RX.keep hbm c3
          have nk0 := RX.keep hbm k0
          have nk1 := RX.keep hbm k1
          have nk2 := RX.keep hbm k2
          have nk3 := RX.keep hbm k3
          have nk4 := RX.keep hbm k4
          have nhSI := hSI.below hbm
          have nhVx := hVx.below hbm
          have nhVt := hVt.below hbm
          have nhVR := hVR.below hbm
          clear hbm hB c0 c1 c2 c3 k0 k1 k2 k3 k4 hSI hVx hVt hVR
          have c0 := nc0
          have c1 := nc1
          have c2 := nc2
          have c3 := nc3
          have k0 := nk0
          have k1 := nk1
          have k2 := nk2
          have k3 := nk3
          have k4 := nk4
          have hSI := nhSI
          have hVx := nhVx
          have hVt := nhVt
          have hVR := nhVR
          have hB := hBn
          clear hBn nc0 nc1 nc2 nc3 nk0 nk1 nk2 nk3 nk4 nhSI nhVx nhVt nhVR
          go_wp2_with fail
          refine (HVE.out _ Rb C D r HCE.out.1 HCE.out.2 (hT.below hB) hSI hVx hVR).mono ?_
          rintro e wD ⟨rfl, hbm⟩
          have hBn := hB.trans (hbm.mono hB.size)
          have nc0 := RX.keep hbm c0
          have nc1 := RX.keep hbm c1
          have nc2 := RX.keep hbm c2
          have nc3 := RX.keep hbm c3
          have nk0 := RX.keep hbm k0
          have nk1 := RX.keep hbm k1
          have nk2 := RX.keep hbm k2
          have nk3 := RX.keep hbm k3
          have nk4 := RX.keep hbm k4
          have nhSI := hSI.below hbm
          have nhVx := hVx.below hbm
          have nhVt := hVt.below hbm
          have nhVR := hVR.below hbm
          clear hbm hB c0 c1 c2 c3 k0 k1 k2 k3 k4 hSI hVx hVt hVR
          have c0 := nc0
          have c1 := nc1
          have c2 := nc2
          have c3 := nc3
          have k0 := nk0
          have k1 := nk1
          have k2 := nk2
          have k3 := nk3
          have k4 := nk4
          have hSI := nhSI
          have hVx := nhVx
          have hVt := nhVt
          have hVR := nhVR
          have hB := hBn
          clear hBn nc0 nc1 nc2 nc3 nk0 nk1 nk2 nk3 nk4 nhSI nhVx nhVt nhVR
          go_wp2
          go_ret
          exact ⟨rfl, hB⟩
        · have hrz : r = 0 := by omega
          have HEQ : Hid (decide (xs = t) = true) := Lib.hid (decide_eq_true (sub_self_zero xs t (by rw [HXL.out, HTL.out]) (by have h := HRR.out; rw [hrz] at h; simpa using h)))
          have hrd : decide ((r : Int) > 0) = false := decide_eq_false (by omega)
          have hrd2 : ¬ ((r : Int) > 0) := by omega
          clear hrz hr0
          go_wp2_with fail
          obtain ⟨O, hO⟩ : ∃ O, O = wB.heap.size := ⟨_, rfl⟩
          rw [← hO] at hCA ⊢
          clear hO
          generalize (wB.alloc (.cells #[.int .i64 C, .int .u64 D, .int .i64 S.a, .int .i64 (r : Int)] 70)) = V at *
          obtain ⟨k0, k1, k2, k3, k4⟩ := hP
          obtain ⟨c0, c1, c2, c3, -⟩ := hCA
          refine (cwithin_ok C D S.a (r : Int) (some ⟨bx, 0, none⟩) (some ⟨bt, 0, none⟩) xs t cx ct n _ HXL.out HTL.out hVx hVt (by omega) HXB.out HTB.out (by omega) hrB).mono ?_
          rintro e wC ⟨rfl, hbm⟩
          rw [hWI.out]
          have hBn := hB.trans (hbm.mono hB.size)
          have nc0 := RX.keep hbm c0
          have nc1 := RX.keep hbm c1
          have nc2 := RX.keep hbm c2
          have nc3 := RX.keep hbm c3
          have nk0 := RX.keep hbm k0
          have nk1 := RX.keep hbm k1
          have nk2 := RX.keep hbm k2
          have nk3 := RX.keep hbm k3
          have nk4 := RX.keep hbm k4
          have nhSI := hSI.below hbm
          have nhVx := hVx.below hbm
          have nhVt := hVt.below hbm
          have nhVR := hVR.below hbm
          clear hbm hB c0 c1 c2 c3 k0 k1 k2 k3 k4 hSI hVx hVt hVR
          have c0 := nc0
          have c1 := nc1
          have c2 := nc2
          have c3 := nc3
          have k0 := nk0
          have k1 := nk1
          have k2 := nk2
          have k3 := nk3
          have k4 := nk4
          have hSI := nhSI
          have hVx := nhVx
          have hVt := nhVt
          have hVR := nhVR
          have hB := hBn
          clear hBn nc0 nc1 nc2 nc3 nk0 nk1 nk2 nk3 nk4 nhSI nhVx nhVt nhVR
          go_wp2_with fail
          refine (HVE.out _ Rb C D r HCE.out.1 HCE.out.2 (hT.below hB) hSI hVx hVR).mono ?_
          rintro e wD ⟨rfl, hbm⟩
          have hBn := hB.trans (hbm.mono hB.size)
          have nc0 := RX.keep hbm c0
          have nc1 := RX.keep hbm c1
          have nc2 := RX.keep hbm c2
          have nc3 := RX.keep hbm c3
          have nk0 := RX.keep hbm k0
          have nk1 := RX.keep hbm k1
          have nk2 := RX.keep hbm k2
          have nk3 := RX.keep hbm k3
          have nk4 := RX.keep hbm k4
          have nhSI := hSI.below hbm
          have nhVx := hVx.below hbm
          have nhVt := hVt.below hbm
          have nhVR := hVR.below hbm
          clear hbm hB c0 c1 c2 c3 k0 k1 k2 k3 k4 hSI hVx hVt hVR
          have c0 := nc0
          have c1 := nc1
          have c2 := nc2
          have c3 := nc3
          have k0 := nk0
          have k1 := nk1
          have k2 := nk2
          have k3 := nk3
          have k4 := nk4
          have hSI := nhSI
          have hVx := nhVx
          have hVt := nhVt
          have hVR := nhVR
          have hB := hBn
          clear hBn nc0 nc1 nc2 nc3 nk0 nk1 nk2 nk3 nk4 nhSI nhVx nhVt nhVR
          go_wp2_with fail
          refine (rints25_at (some ⟨bx, 0, none⟩) (some ⟨bt, 0, none⟩) xs t cx ct n _ HXL.out HTL.out hVx hVt (by omega)).mono ?_
          rintro e wE ⟨rfl, hbm⟩
          rw [HEQ.out]
          have hBn := hB.trans (hbm.mono hB.size)
          have nc0 := RX.keep hbm c0
          have nc1 := RX.keep hbm c1
          have nc2 := RX.keep hbm c2
          have nc3 := RX.keep hbm c3
          have nk0 := RX.keep hbm k0
          have nk1 := RX.keep hbm k1
          have nk2 := RX.keep hbm k2
          have nk3 := RX.keep hbm k3
          have nk4 := RX.keep hbm k4
          have nhSI := hSI.below hbm
          have nhVx := hVx.below hbm
          have nhVt := hVt.below hbm
          have nhVR := hVR.below hbm
          clear hbm hB c0 c1 c2 c3 k0 k1 k2 k3 k4 hSI hVx hVt hVR
          have c0 := nc0
          have c1 := nc1
          have c2 := nc2
          have c3 := nc3
          have k0 := nk0
          have k1 := nk1
          have k2 := nk2
          have k3 := nk3
          have k4 := nk4
          have hSI := nhSI
          have hVx := nhVx
          have hVt := nhVt
          have hVR := nhVR
          have hB := hBn
          clear hBn nc0 nc1 nc2 nc3 nk0 nk1 nk2 nk3 nk4 nhSI nhVx nhVt nhVR
          go_wp2
          go_ret
          exact ⟨rfl, hB⟩
end Go.Proofs.YtojkamfabapcoaaGreatDoor
