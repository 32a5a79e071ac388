import Derived.Test.YtgemfgfhdbkgfaaCovers
import Derived.Test.YtgemfgfhdbkgfaaDivide
import Derived.Test.YtgemfgfhdbkgfaaRf
set_option linter.unusedSimpArgs false
set_option linter.unusedVariables false
namespace Go.Proofs.Ytgemfgfhdbkgfaa
open Go.RowKit

/-- A part, as the program holds it: From, To, RowFrom, RowTo. -/
structure Pt where
  a : Int
  b : Int
  c : Int
  d : Int
instance : Inhabited Pt := ⟨⟨0, 0, 0, 0⟩⟩
structure PartsAt (w : World) (g o : Nat) (l : List Pt) : Prop where
  c0 : ∀ k (h : k < l.length), w.cell? ⟨g, o + k * 4, none⟩ = some (.int .i64 l[k].a)
  c1 : ∀ k (h : k < l.length), w.cell? ⟨g, o + k * 4 + 1, none⟩ = some (.int .i64 l[k].b)
  c2 : ∀ k (h : k < l.length), w.cell? ⟨g, o + k * 4 + 2, none⟩ = some (.int .i64 l[k].c)
  c3 : ∀ k (h : k < l.length), w.cell? ⟨g, o + k * 4 + 3, none⟩ = some (.int .i64 l[k].d)
theorem PartsAt.kept {w w' : World} {g o : Nat} {l : List Pt} (h : PartsAt w g o l) (hg : 0 < l.length → w'.heap[g]? = w.heap[g]?) : PartsAt w' g o l where
  c0 := fun k hk => (World.cell?_of_block (hg (by omega))).trans (h.c0 k hk)
  c1 := fun k hk => (World.cell?_of_block (hg (by omega))).trans (h.c1 k hk)
  c2 := fun k hk => (World.cell?_of_block (hg (by omega))).trans (h.c2 k hk)
  c3 := fun k hk => (World.cell?_of_block (hg (by omega))).trans (h.c3 k hk)
theorem PartsAt.lt {w : World} {g o : Nat} {l : List Pt} (h : PartsAt w g o l) (h0 : 0 < l.length) : g < w.heap.size := World.block_lt_of_cell? w _ (h.c0 0 h0)
theorem PartsAt.below {w w' : World} {g o : Nat} {l : List Pt} (h : PartsAt w g o l) (hb : Below w.heap.size w w') : PartsAt w' g o l := h.kept fun h0 => hb.block _ (h.lt h0)
theorem PairsAt.grown2 {w w' : World} {g g' : Nat} {d : List (Int × Int)} (h : PairsAt w g d) (hb : w.grownBy w' (some g')) (hne : 0 < d.length → g ≠ g') : PairsAt w' g d := by
  by_cases h0 : 0 < d.length
  · exact h.kept (hb.block _ (World.block_lt_of_cell? w _ (h.c0 0 h0)) (by have := hne h0; simpa using this))
  · exact ⟨fun k hk => by omega, fun k hk => by omega, fun k hk => by omega, fun k hk => by omega⟩
def nodeOf (x : Pt) : Int × Int := (x.a, x.b)
def rowOf (x : Pt) : Int × Int := (x.c, x.d)
def encP (x : Int × Int) : List Value := [.int .i64 x.1, .int .i64 x.2]

theorem pairs_of_own {w : World} {base g n cap : Nat} {d : List (Int × Int)} (h : w.ownsRow base 60 2 (.slice (some ⟨g, 0, none⟩) n cap) d.length (d.flatMap encP)) : PairsAt w g d := by
  have hget : ∀ k (hk : k < d.length), (d.flatMap encP)[k * 2]? = some (.int .i64 d[k].1) ∧ (d.flatMap encP)[k * 2 + 1]? = some (.int .i64 d[k].2) := by
    clear h
    induction d with
    | nil => intro k hk; simp at hk
    | cons x d ih =>
      intro k hk
      cases k with
      | zero => simp [encP]
      | succ k =>
        have := ih k (by simpa using hk)
        rw [show (k + 1) * 2 = k * 2 + 1 + 1 by omega]
        simpa [encP] using this
  rcases h.2 with ⟨h1, _⟩ | ⟨g', cap', cur, h1, hb, hg, hn, hm, hs, ht⟩
  · cases h1
  · injection h1 with h1 h2 h3
    injection h1 with h1
    injection h1 with h1
    subst h1
    have key : ∀ (j : Nat) (v : Value), (d.flatMap encP)[j]? = some v → w.cell? ⟨g, j, none⟩ = some v := by
      intro j v hj
      rw [← ht, List.getElem?_take] at hj
      split at hj
      · simp [World.cell?, hg]; simpa using hj
      · cases hj
    have fz : ∀ j, w.frozen? ⟨g, j, none⟩ = false := fun j => by simp [World.frozen?, hg]
    exact ⟨fun k hk => key _ _ (hget k hk).1, fun k hk => key _ _ (hget k hk).2, fun k hk => fz _, fun k hk => fz _⟩

theorem elPair : RX.ElemOf Try.prog 59 60 (.agg #[.int .i64 0, .int .i64 0]) 2 16 := ⟨Try.underlying59, by kernel_rfl, rfl, by decide⟩

theorem heap_new1 (w : World) (o : Obj) : (w.drew.alloc o).heap[w.heap.size]? = some o := heap_alloc_new w.drew o
theorem heap_old1 (w : World) (o o' : Obj) : ((w.drew.alloc o).alloc o').heap[w.heap.size]? = some o := (Below.heap_alloc _ _ _ (by simp)).trans (heap_new1 w o)
theorem heap_new2 (w : World) (o o' : Obj) : ((w.drew.alloc o).alloc o').heap[w.heap.size + 1]? = some o' := by
  have := heap_alloc_new (w.drew.alloc o) o'
  simpa using this
/-- The four cells of a part that lies in a block of its own. -/
def Four (B : Nat) (x0 x1 x2 x3 : Int) (w : World) : Prop := w.cell? ⟨B, 0, none⟩ = some (.int .i64 x0) ∧ w.cell? ⟨B, 1, none⟩ = some (.int .i64 x1) ∧ w.cell? ⟨B, 2, none⟩ = some (.int .i64 x2) ∧ w.cell? ⟨B, 3, none⟩ = some (.int .i64 x3)
theorem Four.kept {B : Nat} {x0 x1 x2 x3 : Int} {w w' : World} {row : Option Nat} (h : Four B x0 x1 x2 x3 w) (hg : w.grownBy w' row) (hne : some B ≠ row) : Four B x0 x1 x2 x3 w' := ⟨hg.cell h.1 hne, hg.cell h.2.1 hne, hg.cell h.2.2.1 hne, hg.cell h.2.2.2 hne⟩
theorem Four.alloc {B : Nat} {x0 x1 x2 x3 : Int} {w : World} (h : Four B x0 x1 x2 x3 w) (o : Obj) : Four B x0 x1 x2 x3 (w.alloc o) := h.kept (World.grownBy_alloc w o none) (by simp)
theorem Four.drew {B : Nat} {x0 x1 x2 x3 : Int} {w : World} (h : Four B x0 x1 x2 x3 w) : Four B x0 x1 x2 x3 w.drew := h
theorem apart_after {v1 v2 a b : Value} {s0 s1 s2 : Nat} (hne : a.ownBlock = none ∨ a.ownBlock ≠ b.ownBlock) (la : ∀ k, a.ownBlock = some k → k < s0) (lb : ∀ k, b.ownBlock = some k → k < s0) (h1 : v1.ownBlock = a.ownBlock ∨ v1.ownBlock = some s1) (h2 : v2.ownBlock = b.ownBlock ∨ v2.ownBlock = some s2) (h01 : s0 ≤ s1) (l1 : ∀ k, v1.ownBlock = some k → k < s2) : v1.ownBlock = none ∨ v1.ownBlock ≠ v2.ownBlock := by
  rcases h1 with h1 | h1
  · rcases h2 with h2 | h2
    · rw [h1, h2]; exact hne
    · refine Or.inr fun e => ?_
      have := l1 s2 (e.trans h2)
      omega
  · refine Or.inr fun e => ?_
    rcases h2 with h2 | h2
    · have := lb s1 (by rw [← h2, ← e, h1]); omega
    · have := l1 s2 (e.trans h2)
      omega

set_option maxRecDepth 100000 in
set_option maxHeartbeats 4000000 in
theorem check_any (w : World) (g o : Nat) (l : List Pt) (p : Option Addr) (cap : Nat) (nodes rows : Int) (hp : 0 < l.length → p = some ⟨g, o, none⟩) (h : PartsAt w g o l) (hcap : l.length ≤ cap) (h31 : l.length ≤ 1000) :
    Calls Try.prog 16 #[.slice p l.length cap, .int .i64 nodes, .int .i64 rows] w fun e w' => Below w.heap.size w w' ∧ e = .returned (.bool (dividesB (l.map nodeOf) nodes && dividesB (l.map rowOf) rows)) := by
  obtain ⟨i0, hi0, hz0, hz1, hz2⟩ := info_parts elPair.hi
  go_enter Try.func16, Try.ntmps16
  go_wp2
  go_loopw [7, 8, 13] (fun va vb i wr => ∃ k : Nat, k ≤ l.length ∧ i = .int .i64 (k : Int) ∧ wr.ownsRow w.heap.size 60 2 va k (((l.take k).map nodeOf).flatMap encP) ∧ wr.ownsRow w.heap.size 60 2 vb k (((l.take k).map rowOf).flatMap encP) ∧ (va.ownBlock = none ∨ va.ownBlock ≠ vb.ownBlock) ∧ Below w.heap.size w wr) (fun _ _ i _ => l.length - (intOf i).toNat)
  case atStart => exact ⟨0, Nat.zero_le _, rfl, World.ownsRow_nil _ _ _ _, World.ownsRow_nil _ _ _ _, Or.inl rfl, Below.refl _ _⟩
  case round =>
    obtain ⟨k, hk, rfl, hA, hB, hne, hb⟩ := hrel
    by_cases hlt : k < l.length
    · obtain rfl := hp (by omega)
      have hw := h.below hb
      have c0 := hw.c0 k hlt
      have c1 := hw.c1 k hlt
      have c2 := hw.c2 k hlt
      have c3 := hw.c3 k hlt
      obtain ⟨x, hx⟩ : ∃ x, x = l[k] := ⟨_, rfl⟩
      rw [← hx] at c0 c1 c2 c3
      have HX := Lib.hid hx
      clear hx
      obtain ⟨x0, x1, x2, x3⟩ := x
      simp only at c0 c1 c2 c3
      go_wp2
      obtain ⟨B, hB0⟩ : ∃ B, B = wr.heap.size := ⟨_, rfl⟩
      have nA : u7.ownBlock ≠ some B := fun e => by have := (hA.lt _ e).2; omega
      have nB : u8.ownBlock ≠ some B := fun e => by have := (hB.lt _ e).2; omega
      obtain ⟨W, hW⟩ : ∃ W, W = wr.alloc (.cells #[.int .i64 x0, .int .i64 x1, .int .i64 x2, .int .i64 x3] 28) := ⟨_, rfl⟩
      have b0 : W.cell? ⟨B, 0, none⟩ = some (.int .i64 x0) := by rw [hW, RX.cell_alloc, hB0]; simp
      have b1 : W.cell? ⟨B, 1, none⟩ = some (.int .i64 x1) := by rw [hW, RX.cell_alloc, hB0]; simp
      have b2 : W.cell? ⟨B, 2, none⟩ = some (.int .i64 x2) := by rw [hW, RX.cell_alloc, hB0]; simp
      have b3 : W.cell? ⟨B, 3, none⟩ = some (.int .i64 x3) := by rw [hW, RX.cell_alloc, hB0]; simp
      have hA2 : W.ownsRow w.heap.size 60 2 u7 k (((l.take k).map nodeOf).flatMap encP) := hW ▸ hA.alloc _
      have hB2 : W.ownsRow w.heap.size 60 2 u8 k (((l.take k).map rowOf).flatMap encP) := hW ▸ hB.alloc _
      have hbW : Below w.heap.size w W := hW ▸ hb.alloc hb.size _
      have lA : ∀ k, u7.ownBlock = some k → k < W.heap.size := fun k e => (hA2.lt k e).2
      have lB : ∀ k, u8.ownBlock = some k → k < W.heap.size := fun k e => (hB2.lt k e).2
      have hF : Four B x0 x1 x2 x3 W := ⟨b0, b1, b2, b3⟩
      have hneB : u8.ownBlock = none ∨ u8.ownBlock ≠ u7.ownBlock := by
        rcases hne with h1 | h1
        · rw [h1]; cases u8.ownBlock <;> simp
        · exact Or.inr (Ne.symm h1)
      rw [← hW, ← hB0]
      clear hA hB hb hW hB0 hw c0 c1 c2 c3
      refine RX.regionF RX.fL (Four B x0 x1 x2 x3) [[0, 1, 2, 3, 4, 5, 6, 7, 8, 9, 10, 11, 12, 13, 14, 15, 16, 17], [0, 1, 2, 3, 4, 5, 6, 8, 9, 10, 11, 12, 13, 14, 7, 15, 16, 17], [0, 1, 2, 3, 4, 5, 8, 9, 10, 11, 12, 13, 14, 6, 7, 15, 16, 17]] (by kernel_rfl) (by kernel_rfl) (⟨b0, b1, b2, b3⟩) (fun OPS HO QR hQR => ?_)
      refine List.forall_mem_cons.2 ⟨?_, List.forall_mem_cons.2 ⟨?_, List.forall_mem_cons.2 ⟨?_, fun _ h => (by cases h)⟩⟩⟩
      ·
        simp only [RX.pick, RX.nth, List.map_cons, List.map_nil, List.getD_cons_zero, List.getD_cons_succ]
        repeat
          refine RX.step (fun R hR => ?_)
          first
          | (refine RX.one_skip (by first | rfl | (rw [HO.out]; rfl)) (by simp only [RX.put_some, List.set_cons_zero, List.set_cons_succ]; rfl) ?_
             refine hR _ _ ?_; clear hR R)
          | (refine RX.one_move (by first | rfl | (rw [HO.out]; rfl)) rfl (by first | exact Or.inl rfl | exact Or.inr rfl) (by simp only [RX.eval_tmp, RX.eval_const, List.getD_cons_zero, List.getD_cons_succ]; rfl) (by simp only [RX.put_some, List.set_cons_zero, List.set_cons_succ]; rfl) ?_
             refine hR _ _ ?_; clear hR R)
          | (refine RX.one_nil (by first | rfl | (rw [HO.out]; rfl)) rfl rfl (by simp only [RX.eval_tmp, RX.eval_const, List.getD_cons_zero, List.getD_cons_succ]; rfl) (by simp only [RX.put_some, List.set_cons_zero, List.set_cons_succ]; rfl) ?_
             refine hR _ _ ?_; clear hR R)
          | (refine RX.one_float (by first | rfl | (rw [HO.out]; rfl)) rfl rfl rfl ?_
             apply Exists.intro; apply Exists.intro
             refine ⟨fun w' hS K hK => ?_, ?_, ?_⟩
             · obtain ⟨q0, q1, q2, q3⟩ := hS; go_wp2; exact hK _ _ (by simp only [RX.arr_getD, List.getD_cons_zero, List.getD_cons_succ]; first | exact RX.dec_t (by omega) | exact RX.dec_f (by omega) | exact RX.beq_t (by omega) | exact RX.beq_f (by omega) | exact RX.bne_t (by omega) | exact RX.bne_f (by omega) | exact RX.bneB _ | rfl) rfl
             · simp only [RX.put_some, List.set_cons_zero, List.set_cons_succ]; rfl
             refine hR _ _ ?_; clear hR R)
        refine RX.step (fun R hR => ?_)
        refine RX.one_chain (by first | rfl | (rw [HO.out]; rfl)) rfl (fun K hK => ?_)
        go_wp2
        refine ⟨(hF.drew.alloc _), hR _ _ ?_⟩; clear hR R
        refine RX.step (fun R hR => ?_)
        refine RX.one_chain (by first | rfl | (rw [HO.out]; rfl)) rfl (fun K hK => ?_)
        refine RX.wp_app elPair _ _ rfl w.heap.size _ _ _ ((World.ownsRow.drew hA2).alloc _) (by simp only [RX.eval_tmp, RX.eval_const, List.getD_cons_zero, List.getD_cons_succ]) (W.heap.size) _ 1 (by simp only [RX.eval_tmp, RX.eval_const, List.getD_cons_zero, List.getD_cons_succ]) (heap_new1 _ _) rfl (by simp [Value.oneCell']) (by omega) (by omega) (by have := hbW.size; simp; omega) (fun v1 w1 hown1 hb1 hg1 hat1 => ?_)
        refine hK _ _ ⟨((hF.drew.alloc _).kept hg1 (Ne.symm nA)), ?_⟩; clear hK K; refine RX.at_ (by simp only [RX.put_some, List.set_cons_zero, List.set_cons_succ]; rfl) (hR _ _ ?_); clear hR R
        repeat
          refine RX.step (fun R hR => ?_)
          first
          | (refine RX.one_skip (by first | rfl | (rw [HO.out]; rfl)) (by simp only [RX.put_some, List.set_cons_zero, List.set_cons_succ]; rfl) ?_
             refine hR _ _ ?_; clear hR R)
          | (refine RX.one_move (by first | rfl | (rw [HO.out]; rfl)) rfl (by first | exact Or.inl rfl | exact Or.inr rfl) (by simp only [RX.eval_tmp, RX.eval_const, List.getD_cons_zero, List.getD_cons_succ]; rfl) (by simp only [RX.put_some, List.set_cons_zero, List.set_cons_succ]; rfl) ?_
             refine hR _ _ ?_; clear hR R)
          | (refine RX.one_nil (by first | rfl | (rw [HO.out]; rfl)) rfl rfl (by simp only [RX.eval_tmp, RX.eval_const, List.getD_cons_zero, List.getD_cons_succ]; rfl) (by simp only [RX.put_some, List.set_cons_zero, List.set_cons_succ]; rfl) ?_
             refine hR _ _ ?_; clear hR R)
          | (refine RX.one_float (by first | rfl | (rw [HO.out]; rfl)) rfl rfl rfl ?_
             apply Exists.intro; apply Exists.intro
             refine ⟨fun w' hS K hK => ?_, ?_, ?_⟩
             · obtain ⟨q0, q1, q2, q3⟩ := hS; go_wp2; exact hK _ _ (by simp only [RX.arr_getD, List.getD_cons_zero, List.getD_cons_succ]; first | exact RX.dec_t (by omega) | exact RX.dec_f (by omega) | exact RX.beq_t (by omega) | exact RX.beq_f (by omega) | exact RX.bne_t (by omega) | exact RX.bne_f (by omega) | exact RX.bneB _ | rfl) rfl
             · simp only [RX.put_some, List.set_cons_zero, List.set_cons_succ]; rfl
             refine hR _ _ ?_; clear hR R)
        refine RX.step (fun R hR => ?_)
        refine RX.one_chain (by first | rfl | (rw [HO.out]; rfl)) rfl (fun K hK => ?_)
        go_wp2
        refine ⟨(((hF.drew.alloc _).kept hg1 (Ne.symm nA)).alloc _), hR _ _ ?_⟩; clear hR R
        refine RX.step (fun R hR => ?_)
        refine RX.one_chain (by first | rfl | (rw [HO.out]; rfl)) rfl (fun K hK => ?_)
        refine RX.wp_app elPair _ _ rfl w.heap.size _ _ _ ((World.ownsRow.kept ((World.ownsRow.drew hB2).alloc _) hg1 hneB).alloc _) (by simp only [RX.eval_tmp, RX.eval_const, List.getD_cons_zero, List.getD_cons_succ]) (w1.heap.size) _ 1 (by simp only [RX.eval_tmp, RX.eval_const, List.getD_cons_zero, List.getD_cons_succ]) (heap_alloc_new _ _) rfl (by simp [Value.oneCell']) (by omega) (by omega) (by have := hbW.size; have := hb1.size; simp at *; omega) (fun v2 w2 hown2 hb2 hg2 hat2 => ?_)
        refine hK _ _ ⟨((((hF.drew.alloc _).kept hg1 (Ne.symm nA)).alloc _).kept hg2 (Ne.symm nB)), ?_⟩; clear hK K; refine RX.at_ (by simp only [RX.put_some, List.set_cons_zero, List.set_cons_succ]; rfl) (hR _ _ ?_); clear hR R
        repeat
          refine RX.step (fun R hR => ?_)
          first
          | (refine RX.one_skip (by first | rfl | (rw [HO.out]; rfl)) (by simp only [RX.put_some, List.set_cons_zero, List.set_cons_succ]; rfl) ?_
             refine hR _ _ ?_; clear hR R)
          | (refine RX.one_move (by first | rfl | (rw [HO.out]; rfl)) rfl (by first | exact Or.inl rfl | exact Or.inr rfl) (by simp only [RX.eval_tmp, RX.eval_const, List.getD_cons_zero, List.getD_cons_succ]; rfl) (by simp only [RX.put_some, List.set_cons_zero, List.set_cons_succ]; rfl) ?_
             refine hR _ _ ?_; clear hR R)
          | (refine RX.one_nil (by first | rfl | (rw [HO.out]; rfl)) rfl rfl (by simp only [RX.eval_tmp, RX.eval_const, List.getD_cons_zero, List.getD_cons_succ]; rfl) (by simp only [RX.put_some, List.set_cons_zero, List.set_cons_succ]; rfl) ?_
             refine hR _ _ ?_; clear hR R)
          | (refine RX.one_float (by first | rfl | (rw [HO.out]; rfl)) rfl rfl rfl ?_
             apply Exists.intro; apply Exists.intro
             refine ⟨fun w' hS K hK => ?_, ?_, ?_⟩
             · obtain ⟨q0, q1, q2, q3⟩ := hS; go_wp2; exact hK _ _ (by simp only [RX.arr_getD, List.getD_cons_zero, List.getD_cons_succ]; first | exact RX.dec_t (by omega) | exact RX.dec_f (by omega) | exact RX.beq_t (by omega) | exact RX.beq_f (by omega) | exact RX.bne_t (by omega) | exact RX.bne_f (by omega) | exact RX.bneB _ | rfl) rfl
             · simp only [RX.put_some, List.set_cons_zero, List.set_cons_succ]; rfl
             refine hR _ _ ?_; clear hR R)
        refine RX.wpL_nil (hQR _ _ ?_); clear hQR QR HO OPS
        have hl1 : W.heap.size ≤ w1.heap.size := by have := hg1.size; simp at this; omega
        have ap8 : v1.ownBlock = none ∨ v1.ownBlock ≠ u8.ownBlock := apart_after (s2 := w1.heap.size) hne lA lB hat1 (.inl rfl) (by simp <;> omega) (fun k e => (hown1.lt k e).2)
        have ap : v1.ownBlock = none ∨ v1.ownBlock ≠ v2.ownBlock := apart_after hne lA lB hat1 hat2 (by simp <;> omega) (fun k e => by have := (hown1.lt k e).2; simp; omega)
        have hA3 := (hown1.alloc (.cells #[.int .i64 x2, .int .i64 x3] 60)).kept hg2 ap8
        have hb3 : Below w.heap.size w w2 := (((((hbW.drew).alloc (by simpa using hbW.size) (.cells #[.int .i64 x0, .int .i64 x1] 60)).trans hb1).alloc (by have := hbW.size; omega) (.cells #[.int .i64 x2, .int .i64 x3] 60))).trans hb2
        have ta : ((l.take (k + 1)).map nodeOf).flatMap encP = ((l.take k).map nodeOf).flatMap encP ++ [.int .i64 x0, .int .i64 x1] := by
          rw [List.take_succ_eq_append_getElem hlt, ← HX.out]; simp [nodeOf, encP]
        have tb : ((l.take (k + 1)).map rowOf).flatMap encP = ((l.take k).map rowOf).flatMap encP ++ [.int .i64 x2, .int .i64 x3] := by
          rw [List.take_succ_eq_append_getElem hlt, ← HX.out]; simp [rowOf, encP]
        have TA := Lib.hid ta
        have TB := Lib.hid tb
        clear ta tb hat1 hat2 hg1 hg2 hb1 hb2 hown1
        go_wp2
        go_roundw
        case rel => exact ⟨k + 1, by omega, by go_num, by rw [TA.out]; exact hA3, by rw [TB.out]; exact hown2, ap, hb3⟩
        case measure => simp [intOf]; omega
      ·
        simp only [RX.pick, RX.nth, List.map_cons, List.map_nil, List.getD_cons_zero, List.getD_cons_succ]
        repeat
          refine RX.step (fun R hR => ?_)
          first
          | (refine RX.one_skip (by first | rfl | (rw [HO.out]; rfl)) (by simp only [RX.put_some, List.set_cons_zero, List.set_cons_succ]; rfl) ?_
             refine hR _ _ ?_; clear hR R)
          | (refine RX.one_move (by first | rfl | (rw [HO.out]; rfl)) rfl (by first | exact Or.inl rfl | exact Or.inr rfl) (by simp only [RX.eval_tmp, RX.eval_const, List.getD_cons_zero, List.getD_cons_succ]; rfl) (by simp only [RX.put_some, List.set_cons_zero, List.set_cons_succ]; rfl) ?_
             refine hR _ _ ?_; clear hR R)
          | (refine RX.one_nil (by first | rfl | (rw [HO.out]; rfl)) rfl rfl (by simp only [RX.eval_tmp, RX.eval_const, List.getD_cons_zero, List.getD_cons_succ]; rfl) (by simp only [RX.put_some, List.set_cons_zero, List.set_cons_succ]; rfl) ?_
             refine hR _ _ ?_; clear hR R)
          | (refine RX.one_float (by first | rfl | (rw [HO.out]; rfl)) rfl rfl rfl ?_
             apply Exists.intro; apply Exists.intro
             refine ⟨fun w' hS K hK => ?_, ?_, ?_⟩
             · obtain ⟨q0, q1, q2, q3⟩ := hS; go_wp2; exact hK _ _ (by simp only [RX.arr_getD, List.getD_cons_zero, List.getD_cons_succ]; first | exact RX.dec_t (by omega) | exact RX.dec_f (by omega) | exact RX.beq_t (by omega) | exact RX.beq_f (by omega) | exact RX.bne_t (by omega) | exact RX.bne_f (by omega) | exact RX.bneB _ | rfl) rfl
             · simp only [RX.put_some, List.set_cons_zero, List.set_cons_succ]; rfl
             refine hR _ _ ?_; clear hR R)
        refine RX.step (fun R hR => ?_)
        refine RX.one_chain (by first | rfl | (rw [HO.out]; rfl)) rfl (fun K hK => ?_)
        go_wp2
        refine ⟨(hF.drew.alloc _), hR _ _ ?_⟩; clear hR R
        repeat
          refine RX.step (fun R hR => ?_)
          first
          | (refine RX.one_skip (by first | rfl | (rw [HO.out]; rfl)) (by simp only [RX.put_some, List.set_cons_zero, List.set_cons_succ]; rfl) ?_
             refine hR _ _ ?_; clear hR R)
          | (refine RX.one_move (by first | rfl | (rw [HO.out]; rfl)) rfl (by first | exact Or.inl rfl | exact Or.inr rfl) (by simp only [RX.eval_tmp, RX.eval_const, List.getD_cons_zero, List.getD_cons_succ]; rfl) (by simp only [RX.put_some, List.set_cons_zero, List.set_cons_succ]; rfl) ?_
             refine hR _ _ ?_; clear hR R)
          | (refine RX.one_nil (by first | rfl | (rw [HO.out]; rfl)) rfl rfl (by simp only [RX.eval_tmp, RX.eval_const, List.getD_cons_zero, List.getD_cons_succ]; rfl) (by simp only [RX.put_some, List.set_cons_zero, List.set_cons_succ]; rfl) ?_
             refine hR _ _ ?_; clear hR R)
          | (refine RX.one_float (by first | rfl | (rw [HO.out]; rfl)) rfl rfl rfl ?_
             apply Exists.intro; apply Exists.intro
             refine ⟨fun w' hS K hK => ?_, ?_, ?_⟩
             · obtain ⟨q0, q1, q2, q3⟩ := hS; go_wp2; exact hK _ _ (by simp only [RX.arr_getD, List.getD_cons_zero, List.getD_cons_succ]; first | exact RX.dec_t (by omega) | exact RX.dec_f (by omega) | exact RX.beq_t (by omega) | exact RX.beq_f (by omega) | exact RX.bne_t (by omega) | exact RX.bne_f (by omega) | exact RX.bneB _ | rfl) rfl
             · simp only [RX.put_some, List.set_cons_zero, List.set_cons_succ]; rfl
             refine hR _ _ ?_; clear hR R)
        refine RX.step (fun R hR => ?_)
        refine RX.one_chain (by first | rfl | (rw [HO.out]; rfl)) rfl (fun K hK => ?_)
        go_wp2
        refine ⟨((hF.drew.alloc _).alloc _), hR _ _ ?_⟩; clear hR R
        refine RX.step (fun R hR => ?_)
        refine RX.one_chain (by first | rfl | (rw [HO.out]; rfl)) rfl (fun K hK => ?_)
        refine RX.wp_app elPair _ _ rfl w.heap.size _ _ _ (((World.ownsRow.drew hA2).alloc _).alloc _) (by simp only [RX.eval_tmp, RX.eval_const, List.getD_cons_zero, List.getD_cons_succ]) (W.heap.size) _ 1 (by simp only [RX.eval_tmp, RX.eval_const, List.getD_cons_zero, List.getD_cons_succ]) (heap_old1 _ _ _) rfl (by simp [Value.oneCell']) (by omega) (by omega) (by have := hbW.size; simp; omega) (fun v1 w1 hown1 hb1 hg1 hat1 => ?_)
        refine hK _ _ ⟨(((hF.drew.alloc _).alloc _).kept hg1 (Ne.symm nA)), ?_⟩; clear hK K; refine RX.at_ (by simp only [RX.put_some, List.set_cons_zero, List.set_cons_succ]; rfl) (hR _ _ ?_); clear hR R
        refine RX.step (fun R hR => ?_)
        refine RX.one_chain (by first | rfl | (rw [HO.out]; rfl)) rfl (fun K hK => ?_)
        refine RX.wp_app elPair _ _ rfl w.heap.size _ _ _ (World.ownsRow.kept (((World.ownsRow.drew hB2).alloc _).alloc _) hg1 hneB) (by simp only [RX.eval_tmp, RX.eval_const, List.getD_cons_zero, List.getD_cons_succ]) (W.heap.size + 1) _ 1 (by simp only [RX.eval_tmp, RX.eval_const, List.getD_cons_zero, List.getD_cons_succ]) ((hg1.block _ (by simp) (fun e => by have := lA _ e.symm; omega)).trans (heap_new2 _ _ _)) rfl (by simp [Value.oneCell']) (by omega) (by omega) (by have := hbW.size; have := hb1.size; simp at *; omega) (fun v2 w2 hown2 hb2 hg2 hat2 => ?_)
        refine hK _ _ ⟨((((hF.drew.alloc _).alloc _).kept hg1 (Ne.symm nA)).kept hg2 (Ne.symm nB)), ?_⟩; clear hK K; refine RX.at_ (by simp only [RX.put_some, List.set_cons_zero, List.set_cons_succ]; rfl) (hR _ _ ?_); clear hR R
        repeat
          refine RX.step (fun R hR => ?_)
          first
          | (refine RX.one_skip (by first | rfl | (rw [HO.out]; rfl)) (by simp only [RX.put_some, List.set_cons_zero, List.set_cons_succ]; rfl) ?_
             refine hR _ _ ?_; clear hR R)
          | (refine RX.one_move (by first | rfl | (rw [HO.out]; rfl)) rfl (by first | exact Or.inl rfl | exact Or.inr rfl) (by simp only [RX.eval_tmp, RX.eval_const, List.getD_cons_zero, List.getD_cons_succ]; rfl) (by simp only [RX.put_some, List.set_cons_zero, List.set_cons_succ]; rfl) ?_
             refine hR _ _ ?_; clear hR R)
          | (refine RX.one_nil (by first | rfl | (rw [HO.out]; rfl)) rfl rfl (by simp only [RX.eval_tmp, RX.eval_const, List.getD_cons_zero, List.getD_cons_succ]; rfl) (by simp only [RX.put_some, List.set_cons_zero, List.set_cons_succ]; rfl) ?_
             refine hR _ _ ?_; clear hR R)
          | (refine RX.one_float (by first | rfl | (rw [HO.out]; rfl)) rfl rfl rfl ?_
             apply Exists.intro; apply Exists.intro
             refine ⟨fun w' hS K hK => ?_, ?_, ?_⟩
             · obtain ⟨q0, q1, q2, q3⟩ := hS; go_wp2; exact hK _ _ (by simp only [RX.arr_getD, List.getD_cons_zero, List.getD_cons_succ]; first | exact RX.dec_t (by omega) | exact RX.dec_f (by omega) | exact RX.beq_t (by omega) | exact RX.beq_f (by omega) | exact RX.bne_t (by omega) | exact RX.bne_f (by omega) | exact RX.bneB _ | rfl) rfl
             · simp only [RX.put_some, List.set_cons_zero, List.set_cons_succ]; rfl
             refine hR _ _ ?_; clear hR R)
        refine RX.wpL_nil (hQR _ _ ?_); clear hQR QR HO OPS
        have hl1 : W.heap.size ≤ w1.heap.size := by have := hg1.size; simp at this; omega
        have ap8 : v1.ownBlock = none ∨ v1.ownBlock ≠ u8.ownBlock := apart_after (s2 := w1.heap.size) hne lA lB hat1 (.inl rfl) (by simp <;> omega) (fun k e => (hown1.lt k e).2)
        have ap : v1.ownBlock = none ∨ v1.ownBlock ≠ v2.ownBlock := apart_after hne lA lB hat1 hat2 (by simp <;> omega) (fun k e => by have := (hown1.lt k e).2; simp; omega)
        have hA3 := hown1.kept hg2 ap8
        have hb3 : Below w.heap.size w w2 := (((((hbW.drew).alloc (by simpa using hbW.size) (.cells #[.int .i64 x0, .int .i64 x1] 60)).alloc (by have := hbW.size; simp; omega) (.cells #[.int .i64 x2, .int .i64 x3] 60)).trans hb1)).trans hb2
        have ta : ((l.take (k + 1)).map nodeOf).flatMap encP = ((l.take k).map nodeOf).flatMap encP ++ [.int .i64 x0, .int .i64 x1] := by
          rw [List.take_succ_eq_append_getElem hlt, ← HX.out]; simp [nodeOf, encP]
        have tb : ((l.take (k + 1)).map rowOf).flatMap encP = ((l.take k).map rowOf).flatMap encP ++ [.int .i64 x2, .int .i64 x3] := by
          rw [List.take_succ_eq_append_getElem hlt, ← HX.out]; simp [rowOf, encP]
        have TA := Lib.hid ta
        have TB := Lib.hid tb
        clear ta tb hat1 hat2 hg1 hg2 hb1 hb2 hown1
        go_wp2
        go_roundw
        case rel => exact ⟨k + 1, by omega, by go_num, by rw [TA.out]; exact hA3, by rw [TB.out]; exact hown2, ap, hb3⟩
        case measure => simp [intOf]; omega
      ·
        simp only [RX.pick, RX.nth, List.map_cons, List.map_nil, List.getD_cons_zero, List.getD_cons_succ]
        repeat
          refine RX.step (fun R hR => ?_)
          first
          | (refine RX.one_skip (by first | rfl | (rw [HO.out]; rfl)) (by simp only [RX.put_some, List.set_cons_zero, List.set_cons_succ]; rfl) ?_
             refine hR _ _ ?_; clear hR R)
          | (refine RX.one_move (by first | rfl | (rw [HO.out]; rfl)) rfl (by first | exact Or.inl rfl | exact Or.inr rfl) (by simp only [RX.eval_tmp, RX.eval_const, List.getD_cons_zero, List.getD_cons_succ]; rfl) (by simp only [RX.put_some, List.set_cons_zero, List.set_cons_succ]; rfl) ?_
             refine hR _ _ ?_; clear hR R)
          | (refine RX.one_nil (by first | rfl | (rw [HO.out]; rfl)) rfl rfl (by simp only [RX.eval_tmp, RX.eval_const, List.getD_cons_zero, List.getD_cons_succ]; rfl) (by simp only [RX.put_some, List.set_cons_zero, List.set_cons_succ]; rfl) ?_
             refine hR _ _ ?_; clear hR R)
          | (refine RX.one_float (by first | rfl | (rw [HO.out]; rfl)) rfl rfl rfl ?_
             apply Exists.intro; apply Exists.intro
             refine ⟨fun w' hS K hK => ?_, ?_, ?_⟩
             · obtain ⟨q0, q1, q2, q3⟩ := hS; go_wp2; exact hK _ _ (by simp only [RX.arr_getD, List.getD_cons_zero, List.getD_cons_succ]; first | exact RX.dec_t (by omega) | exact RX.dec_f (by omega) | exact RX.beq_t (by omega) | exact RX.beq_f (by omega) | exact RX.bne_t (by omega) | exact RX.bne_f (by omega) | exact RX.bneB _ | rfl) rfl
             · simp only [RX.put_some, List.set_cons_zero, List.set_cons_succ]; rfl
             refine hR _ _ ?_; clear hR R)
        refine RX.step (fun R hR => ?_)
        refine RX.one_chain (by first | rfl | (rw [HO.out]; rfl)) rfl (fun K hK => ?_)
        go_wp2
        refine ⟨(hF.drew.alloc _), hR _ _ ?_⟩; clear hR R
        refine RX.step (fun R hR => ?_)
        refine RX.one_chain (by first | rfl | (rw [HO.out]; rfl)) rfl (fun K hK => ?_)
        go_wp2
        refine ⟨((hF.drew.alloc _).alloc _), hR _ _ ?_⟩; clear hR R
        refine RX.step (fun R hR => ?_)
        refine RX.one_chain (by first | rfl | (rw [HO.out]; rfl)) rfl (fun K hK => ?_)
        refine RX.wp_app elPair _ _ rfl w.heap.size _ _ _ (((World.ownsRow.drew hA2).alloc _).alloc _) (by simp only [RX.eval_tmp, RX.eval_const, List.getD_cons_zero, List.getD_cons_succ]) (W.heap.size + 1) _ 1 (by simp only [RX.eval_tmp, RX.eval_const, List.getD_cons_zero, List.getD_cons_succ]) (heap_new2 _ _ _) rfl (by simp [Value.oneCell']) (by omega) (by omega) (by have := hbW.size; simp; omega) (fun v1 w1 hown1 hb1 hg1 hat1 => ?_)
        refine hK _ _ ⟨(((hF.drew.alloc _).alloc _).kept hg1 (Ne.symm nA)), ?_⟩; clear hK K; refine RX.at_ (by simp only [RX.put_some, List.set_cons_zero, List.set_cons_succ]; rfl) (hR _ _ ?_); clear hR R
        refine RX.step (fun R hR => ?_)
        refine RX.one_chain (by first | rfl | (rw [HO.out]; rfl)) rfl (fun K hK => ?_)
        refine RX.wp_app elPair _ _ rfl w.heap.size _ _ _ (World.ownsRow.kept (((World.ownsRow.drew hB2).alloc _).alloc _) hg1 hneB) (by simp only [RX.eval_tmp, RX.eval_const, List.getD_cons_zero, List.getD_cons_succ]) (W.heap.size) _ 1 (by simp only [RX.eval_tmp, RX.eval_const, List.getD_cons_zero, List.getD_cons_succ]) ((hg1.block _ (by simp; omega) (fun e => by have := lA _ e.symm; omega)).trans (heap_old1 _ _ _)) rfl (by simp [Value.oneCell']) (by omega) (by omega) (by have := hbW.size; have := hb1.size; simp at *; omega) (fun v2 w2 hown2 hb2 hg2 hat2 => ?_)
        refine hK _ _ ⟨((((hF.drew.alloc _).alloc _).kept hg1 (Ne.symm nA)).kept hg2 (Ne.symm nB)), ?_⟩; clear hK K; refine RX.at_ (by simp only [RX.put_some, List.set_cons_zero, List.set_cons_succ]; rfl) (hR _ _ ?_); clear hR R
        repeat
          refine RX.step (fun R hR => ?_)
          first
          | (refine RX.one_skip (by first | rfl | (rw [HO.out]; rfl)) (by simp only [RX.put_some, List.set_cons_zero, List.set_cons_succ]; rfl) ?_
             refine hR _ _ ?_; clear hR R)
          | (refine RX.one_move (by first | rfl | (rw [HO.out]; rfl)) rfl (by first | exact Or.inl rfl | exact Or.inr rfl) (by simp only [RX.eval_tmp, RX.eval_const, List.getD_cons_zero, List.getD_cons_succ]; rfl) (by simp only [RX.put_some, List.set_cons_zero, List.set_cons_succ]; rfl) ?_
             refine hR _ _ ?_; clear hR R)
          | (refine RX.one_nil (by first | rfl | (rw [HO.out]; rfl)) rfl rfl (by simp only [RX.eval_tmp, RX.eval_const, List.getD_cons_zero, List.getD_cons_succ]; rfl) (by simp only [RX.put_some, List.set_cons_zero, List.set_cons_succ]; rfl) ?_
             refine hR _ _ ?_; clear hR R)
          | (refine RX.one_float (by first | rfl | (rw [HO.out]; rfl)) rfl rfl rfl ?_
             apply Exists.intro; apply Exists.intro
             refine ⟨fun w' hS K hK => ?_, ?_, ?_⟩
             · obtain ⟨q0, q1, q2, q3⟩ := hS; go_wp2; exact hK _ _ (by simp only [RX.arr_getD, List.getD_cons_zero, List.getD_cons_succ]; first | exact RX.dec_t (by omega) | exact RX.dec_f (by omega) | exact RX.beq_t (by omega) | exact RX.beq_f (by omega) | exact RX.bne_t (by omega) | exact RX.bne_f (by omega) | exact RX.bneB _ | rfl) rfl
             · simp only [RX.put_some, List.set_cons_zero, List.set_cons_succ]; rfl
             refine hR _ _ ?_; clear hR R)
        refine RX.wpL_nil (hQR _ _ ?_); clear hQR QR HO OPS
        have hl1 : W.heap.size ≤ w1.heap.size := by have := hg1.size; simp at this; omega
        have ap8 : v1.ownBlock = none ∨ v1.ownBlock ≠ u8.ownBlock := apart_after (s2 := w1.heap.size) hne lA lB hat1 (.inl rfl) (by simp <;> omega) (fun k e => (hown1.lt k e).2)
        have ap : v1.ownBlock = none ∨ v1.ownBlock ≠ v2.ownBlock := apart_after hne lA lB hat1 hat2 (by simp <;> omega) (fun k e => by have := (hown1.lt k e).2; simp; omega)
        have hA3 := hown1.kept hg2 ap8
        have hb3 : Below w.heap.size w w2 := (((((hbW.drew).alloc (by simpa using hbW.size) (.cells #[.int .i64 x2, .int .i64 x3] 60)).alloc (by have := hbW.size; simp; omega) (.cells #[.int .i64 x0, .int .i64 x1] 60)).trans hb1)).trans hb2
        have ta : ((l.take (k + 1)).map nodeOf).flatMap encP = ((l.take k).map nodeOf).flatMap encP ++ [.int .i64 x0, .int .i64 x1] := by
          rw [List.take_succ_eq_append_getElem hlt, ← HX.out]; simp [nodeOf, encP]
        have tb : ((l.take (k + 1)).map rowOf).flatMap encP = ((l.take k).map rowOf).flatMap encP ++ [.int .i64 x2, .int .i64 x3] := by
          rw [List.take_succ_eq_append_getElem hlt, ← HX.out]; simp [rowOf, encP]
        have TA := Lib.hid ta
        have TB := Lib.hid tb
        clear ta tb hat1 hat2 hg1 hg2 hb1 hb2 hown1
        go_wp2
        go_roundw
        case rel => exact ⟨k + 1, by omega, by go_num, by rw [TA.out]; exact hA3, by rw [TB.out]; exact hown2, ap, hb3⟩
        case measure => simp [intOf]; omega
    · obtain rfl : k = l.length := by omega
      clear h
      rw [List.take_length] at hA hB
      have lmA : (l.map nodeOf).length = l.length := by simp
      have lmB : (l.map rowOf).length = l.length := by simp
      have key : ∀ (u : Value) (d : List (Int × Int)) (wr' : World), wr'.ownsRow w.heap.size 60 2 u l.length (d.flatMap encP) → d.length = l.length → ∃ (p : Option Addr) (g c : Nat), u = .slice p l.length c ∧ (0 < d.length → p = some ⟨g, 0, none⟩) ∧ PairsAt wr' g d ∧ d.length ≤ c ∧ (0 < d.length → u.ownBlock = some g) ∧ w.heap.size ≤ g := by
        intro u d wr' hown hlen
        rcases hown.2 with ⟨rfl, h0⟩ | ⟨g', c, cur, rfl, hbase, hg, hn, hm, hs, ht⟩
        · have hd : d = [] := List.eq_nil_of_length_eq_zero (by omega)
          subst hd
          exact ⟨none, w.heap.size, 0, by rw [h0], by simp, ⟨fun k hk => by simp at hk, fun k hk => by simp at hk, fun k hk => by simp at hk, fun k hk => by simp at hk⟩, by simp, by simp, Nat.le_refl _⟩
        · refine ⟨some ⟨g', 0, none⟩, g', c, rfl, fun _ => rfl, pairs_of_own (base := w.heap.size) (n := l.length) (cap := c) ?_, by omega, fun _ => rfl, hbase⟩
          rw [hlen]; exact hown
      obtain ⟨pa, ga, ca, rfl, hpa, hPA, hca, hga, hgab⟩ := key _ _ _ hA lmA
      obtain ⟨pb, gb, cb, rfl, hpb, hPB, hcb, hgb, hgbb⟩ := key _ _ _ hB lmB
      have hab : 0 < (l.map rowOf).length → gb ≠ ga := fun h0 e => by
        rcases hne with h1 | h1
        · rw [hga (by omega)] at h1; cases h1
        · rw [hga (by omega), hgb h0, e] at h1; exact h1 rfl
      clear key hA hB hga hgb hne
      go_wp2_with fail
      refine (lmA ▸ covers_any wr ga (l.map nodeOf) pa ca nodes hpa hPA hca (by omega)).mono ?_
      rintro e w1 ⟨hg1, rfl⟩
      have hPB1 := hPB.grown2 hg1 hab
      have hb1 : Below w.heap.size w w1 := hb.grown hg1 hb.size (fun k hk => by injection hk with hk; omega)
      generalize hd1 : dividesB (l.map nodeOf) nodes = d1
      have hcon := lmB ▸ covers_any w1 gb (l.map rowOf) pb cb rows hpb hPB1 hcb (by omega)
      generalize hd2 : dividesB (l.map rowOf) rows = d2 at hcon
      have H1 := Lib.hid hd1
      have H2 := Lib.hid hd2
      clear hPA hPB hPB1 hb hg1 hd1 hd2
      cases d1
      · go_wp2
        go_ret
        exact ⟨hb1, by rw [H1.out]; rfl⟩
      · go_wp2_with fail
        refine hcon.mono ?_
        rintro e w2 ⟨hg2, rfl⟩
        have hb2 : Below w.heap.size w w2 := hb1.grown hg2 hb1.size (fun k hk => by injection hk with hk; omega)
        cases d2
        · go_wp2
          go_ret
          exact ⟨hb2, by rw [H1.out, H2.out]; rfl⟩
        · go_wp2
          go_ret
          exact ⟨hb2, by rw [H1.out, H2.out]; rfl⟩
end Go.Proofs.Ytgemfgfhdbkgfaa
