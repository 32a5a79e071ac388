import Derived.Test.YtgemfgfhdbkgfaaProg
import Derived.Test.YtgemfgfhdbkgfaaRn
import Derived.WalkKit
import Derived.WalkLawsBesides
import Derived.WalkSpells
import Derived.Lib.Hide
import Derived.Maps.AppendAt
set_option linter.unusedSimpArgs false
set_option linter.unusedVariables false
namespace Go.Proofs.Ytgemfgfhdbkgfaa
open Go.RowKit

/-- The reader of codes at block g, over the list in block b: the bytes L, the place i. -/
structure CodesAt (w : World) (g b : Nat) (L : List Int) (i : Nat) : Prop where
  hp : ∃ p cap o, w.cell? ⟨g, 0, none⟩ = some (.slice p L.length cap) ∧ (0 < L.length → p = some ⟨b, o, none⟩) ∧ ∀ k (h : k < L.length), w.cell? ⟨b, o + k, none⟩ = some (.int .u8 L[k])
  hi : w.cell? ⟨g, 1, none⟩ = some (.int .i64 i)
  hf : w.frozen? ⟨g, 1, none⟩ = false
  hle : i ≤ L.length
  hlen : L.length ≤ 240
  hval : ∀ k (h : k < L.length), 0 ≤ L[k] ∧ L[k] < 256
  hgb : g ≠ b

theorem CodesAt.kept {w w' : World} {g b : Nat} {L : List Int} {i : Nat} (h : CodesAt w g b L i) (hg : w'.heap[g]? = w.heap[g]?) (hb : 0 < L.length → w'.heap[b]? = w.heap[b]?) : CodesAt w' g b L i where
  hp := by
    obtain ⟨p, cap, o, h1, h2, h3⟩ := h.hp
    exact ⟨p, cap, o, (World.cell?_of_block hg).trans h1, h2, fun k hk => (World.cell?_of_block (hb (by omega))).trans (h3 k hk)⟩
  hi := (World.cell?_of_block hg).trans h.hi
  hf := (World.frozen?_of_block hg).trans h.hf
  hle := h.hle
  hlen := h.hlen
  hval := h.hval
  hgb := h.hgb

theorem CodesAt.lt {w : World} {g b : Nat} {L : List Int} {i : Nat} (h : CodesAt w g b L i) : g < w.heap.size := World.block_lt_of_cell? w _ h.hi
theorem CodesAt.ltb {w : World} {g b : Nat} {L : List Int} {i : Nat} (h : CodesAt w g b L i) (h0 : 0 < L.length) : b < w.heap.size := by
  obtain ⟨p, cap, o, _, _, h3⟩ := h.hp
  exact World.block_lt_of_cell? w _ (h3 0 h0)

/-- A world in which nothing old has turned. -/
theorem CodesAt.below {w w' : World} {g b : Nat} {L : List Int} {i : Nat} (h : CodesAt w g b L i) (hb : Below w.heap.size w w') : CodesAt w' g b L i :=
  h.kept (hb.block _ h.lt) (fun h0 => hb.block _ (h.ltb h0))

/-- A world in which one other block has turned. -/
theorem CodesAt.grown {w w' : World} {g b : Nat} {L : List Int} {i : Nat} {row : Option Nat} (h : CodesAt w g b L i) (hb : w.grownBy w' row) (h1 : some g ≠ row) (h2 : some b ≠ row) : CodesAt w' g b L i :=
  h.kept (hb.block _ h.lt h1) (fun h0 => hb.block _ (h.ltb h0) h2)

theorem CodesAt.grown' {w w' : World} {g b k : Nat} {L : List Int} {i : Nat} (h : CodesAt w g b L i) (hb : w.grownBy w' (some k)) (h1 : g ≠ k) (h2 : 0 < L.length → b ≠ k) : CodesAt w' g b L i :=
  h.kept (hb.block _ h.lt (by simpa using h1)) (fun h0 => hb.block _ (h.ltb h0) (by simpa using h2 h0))

theorem CodesAt.set {w : World} {g b : Nat} {L : List Int} {i : Nat} (h : CodesAt w g b L i) (j : Nat) (hj : j ≤ L.length) : CodesAt (w.setCell ⟨g, 1, none⟩ (.int .i64 j)) g b L j where
  hp := by
    obtain ⟨p, cap, o, h1, h2, h3⟩ := h.hp
    exact ⟨p, cap, o, (World.cell?_setCell_other _ _ _ _ (by simp)).trans h1, h2, fun k hk => (World.cell?_setCell_other _ _ _ _ (by have := h.hgb; simp [Ne.symm this])).trans (h3 k hk)⟩
  hi := World.cell?_setCell_same' _ _ _ (by rw [h.hi]; rfl)
  hf := by rw [World.frozen?_setCell]; exact h.hf
  hle := hj
  hlen := h.hlen
  hval := h.hval
  hgb := h.hgb

theorem grownBy_setCell (w : World) (g k : Nat) (v : Value) : w.grownBy (w.setCell ⟨g, k, none⟩ v) (some g) :=
  ⟨by simp [World.setCell], by simp [World.setCell], by simp [World.setCell], by simp [World.setCell], fun j _ hj => Below.heap_setCell _ _ _ j (fun e => hj (by rw [e]))⟩

theorem left_any (w : World) (g b : Nat) (L : List Int) (i : Nat) (h : CodesAt w g b L i) :
    Calls Try.prog 27 #[.pointer (some ⟨g, 0, none⟩)] w fun e w' => e = .returned (.bool (decide (i < L.length))) ∧ w' = w.drew := by
  obtain ⟨p, cap, o, hp, _, _⟩ := h.hp
  have hi := h.hi
  have hle := h.hle
  have hlen := h.hlen
  go_enter Try.func27, Try.ntmps27
  go_wp2
  refine RX.region RX.fN (fun w' => w' = _) (by kernel_rfl) (by kernel_rfl) rfl (fun OPS HO QR hQR => ?_)
  repeat
    refine RX.step (fun R hR => ?_)
    first
    | (refine RX.one_skip (by first | rfl | (rw [HO.out]; rfl)) (by simp only [RX.put_some, List.set_cons_zero, List.set_cons_succ]; rfl) ?_
       refine hR _ _ ?_; clear hR R)
    | (refine RX.one_move (by first | rfl | (rw [HO.out]; rfl)) rfl (by first | exact Or.inl rfl | exact Or.inr rfl) (by simp only [RX.eval_tmp, RX.eval_const, List.getD_cons_zero, List.getD_cons_succ]; rfl) (by simp only [RX.put_some, List.set_cons_zero, List.set_cons_succ]; rfl) ?_
       refine hR _ _ ?_; clear hR R)
    | (refine RX.one_nil (by first | rfl | (rw [HO.out]; rfl)) rfl rfl (by simp only [RX.eval_tmp, RX.eval_const, List.getD_cons_zero, List.getD_cons_succ]; rfl) (by simp only [RX.put_some, List.set_cons_zero, List.set_cons_succ]; rfl) ?_
       refine hR _ _ ?_; clear hR R)
    | (refine RX.one_float (by first | rfl | (rw [HO.out]; rfl)) rfl rfl rfl ?_
       apply Exists.intro; apply Exists.intro
       refine ⟨fun w' hS K hK => ?_, ?_, ?_⟩
       · subst hS; go_wp2; exact hK _ _ (by simp only [RX.arr_getD, List.getD_cons_zero, List.getD_cons_succ]; first | exact RX.dec_t (by omega) | exact RX.dec_f (by omega) | exact RX.beq_t (by omega) | exact RX.beq_f (by omega) | exact RX.bne_t (by omega) | exact RX.bne_f (by omega) | exact RX.bneB _ | rfl) rfl
       · simp only [RX.put_some, List.set_cons_zero, List.set_cons_succ]; rfl
       refine hR _ _ ?_; clear hR R)
  refine RX.wpL_nil (hQR _ _ rfl ?_); clear hQR QR HO OPS
  go_wp2
  go_ret
  exact ⟨by simp, rfl⟩

set_option maxHeartbeats 1000000 in
theorem next_none (w : World) (g b : Nat) (L : List Int) (i : Nat) (n : Int) (h : CodesAt w g b L i) (hn : i = L.length ∨ n < 1) :
    Calls Try.prog 14 #[.pointer (some ⟨g, 0, none⟩), .int .i64 n] w fun e w' => e = .returned (.int .i64 0) ∧ w' = w.drew := by
  have hle := h.hle
  go_enter Try.func14, Try.ntmps14
  by_cases hl : i < L.length
  · go_wp2_with (go_at_call 27; refine (left_any _ _ _ _ _ h).mono ?_; rintro e w' ⟨rfl, rfl⟩)
    go_ret
    exact ⟨rfl, rfl⟩
  · go_wp2_with (go_at_call 27; refine (left_any _ _ _ _ _ h).mono ?_; rintro e w' ⟨rfl, rfl⟩)
    go_ret
    exact ⟨rfl, rfl⟩

set_option maxHeartbeats 1000000 in
theorem next_some (w : World) (g b : Nat) (L : List Int) (i : Nat) (n : Int) (h : CodesAt w g b L i) (hl : i < L.length) (hn : 1 ≤ n) (hn' : n ≤ 1000000) :
    Calls Try.prog 14 #[.pointer (some ⟨g, 0, none⟩), .int .i64 n] w fun e w' => e = .returned (.int .i64 (L[i] % n)) ∧ w' = (w.drew.setCell ⟨g, 1, none⟩ (.int .i64 ((i : Int) + 1))).drew := by
  obtain ⟨p, cap, o, hp, hpp, hcc⟩ := h.hp
  obtain rfl := hpp (by omega)
  have hi := h.hi
  have hf := h.hf
  have hle := h.hle
  have hlen := h.hlen
  have hgb := h.hgb
  have hc := hcc i hl
  obtain ⟨hc0, hc1⟩ := h.hval i hl
  clear hcc
  have hp : w.drew.cell? ⟨g, 0, none⟩ = _ := hp
  have hi : w.drew.cell? ⟨g, 1, none⟩ = _ := hi
  have hc : w.drew.cell? ⟨b, o + i, none⟩ = _ := hc
  have hf : w.drew.frozen? ⟨g, 1, none⟩ = _ := hf
  have hn0 : (n == 0) = false := by rw [beq_eq_false_iff_ne]; omega
  go_enter Try.func14, Try.ntmps14
  go_wp2_with (go_at_call 27; refine (left_any _ _ _ _ _ h).mono ?_; rintro e w' ⟨rfl, rfl⟩)
  refine RX.region RX.fN (fun w' => w' = _) (by kernel_rfl) (by kernel_rfl) rfl (fun OPS HO QR hQR => ?_)
  repeat
    refine RX.step (fun R hR => ?_)
    first
    | (refine RX.one_skip (by first | rfl | (rw [HO.out]; rfl)) (by simp only [RX.put_some, List.set_cons_zero, List.set_cons_succ]; rfl) ?_
       refine hR _ _ ?_; clear hR R)
    | (refine RX.one_move (by first | rfl | (rw [HO.out]; rfl)) rfl (by first | exact Or.inl rfl | exact Or.inr rfl) (by simp only [RX.eval_tmp, RX.eval_const, List.getD_cons_zero, List.getD_cons_succ]; rfl) (by simp only [RX.put_some, List.set_cons_zero, List.set_cons_succ]; rfl) ?_
       refine hR _ _ ?_; clear hR R)
    | (refine RX.one_nil (by first | rfl | (rw [HO.out]; rfl)) rfl rfl (by simp only [RX.eval_tmp, RX.eval_const, List.getD_cons_zero, List.getD_cons_succ]; rfl) (by simp only [RX.put_some, List.set_cons_zero, List.set_cons_succ]; rfl) ?_
       refine hR _ _ ?_; clear hR R)
    | (refine RX.one_float (by first | rfl | (rw [HO.out]; rfl)) rfl rfl rfl ?_
       apply Exists.intro; apply Exists.intro
       refine ⟨fun w' hS K hK => ?_, ?_, ?_⟩
       · subst hS; go_wp2; exact hK _ _ (by simp only [RX.arr_getD, List.getD_cons_zero, List.getD_cons_succ]; first | exact RX.dec_t (by omega) | exact RX.dec_f (by omega) | exact RX.beq_t (by omega) | exact RX.beq_f (by omega) | exact RX.bne_t (by omega) | exact RX.bne_f (by omega) | exact RX.bneB _ | rfl) rfl
       · simp only [RX.put_some, List.set_cons_zero, List.set_cons_succ]; rfl
       refine hR _ _ ?_; clear hR R)
  refine RX.wpL_nil (hQR _ _ rfl ?_); clear hQR QR HO OPS
  go_wp2
  go_ret
  exact ⟨rfl, rfl⟩

/-- Any choice: a number from 0 to n - 1 (0 if n is less than 1); only the reader has turned. -/
theorem next_any (w : World) (g b : Nat) (L : List Int) (i : Nat) (n : Int) (h : CodesAt w g b L i) (hn' : n ≤ 1000000) :
    Calls Try.prog 14 #[.pointer (some ⟨g, 0, none⟩), .int .i64 n] w fun e w' => ∃ r : Nat, e = .returned (.int .i64 r) ∧ ((r : Int) < n ∨ n < 1 ∧ r = 0) ∧ w.grownBy w' (some g) ∧ ∃ j, CodesAt w' g b L j := by
  by_cases hc : i = L.length ∨ n < 1
  · refine (next_none w g b L i n h hc).mono ?_
    rintro e w' ⟨rfl, rfl⟩
    exact ⟨0, rfl, by omega, ⟨rfl, rfl, rfl, Nat.le_refl _, fun _ _ _ => rfl⟩, i, h.kept rfl (fun _ => rfl)⟩
  · have hle := h.hle
    have hl : i < L.length := by omega
    refine (next_some w g b L i n h hl (by omega) hn').mono ?_
    rintro e w' ⟨rfl, rfl⟩
    obtain ⟨h0, _⟩ := h.hval i hl
    refine ⟨(L[i] % n).toNat, ?_, ?_, ?_, i + 1, ?_⟩
    · have := Int.emod_nonneg L[i] (show n ≠ 0 by omega)
      rw [Int.toNat_of_nonneg this]
    · have := Int.emod_nonneg L[i] (show n ≠ 0 by omega)
      have := Int.emod_lt_of_pos L[i] (show 0 < n by omega)
      omega
    · have h1 := grownBy_setCell w.drew g 1 (.int .i64 ((i : Int) + 1))
      exact ⟨h1.os, h1.tape, h1.output, h1.size, h1.block⟩
    · have h1 : CodesAt w.drew g b L i := h.kept rfl (fun _ => rfl)
      have h2 := h1.set (i + 1) hl
      exact CodesAt.kept (w := w.drew.setCell ⟨g, 1, none⟩ (.int .i64 ((i + 1 : Nat) : Int))) h2 rfl (fun _ => rfl)

set_option maxHeartbeats 1000000 in
theorem new_any (w : World) (p : Option Addr) (cap b o most : Nat) (L : List Int) (hm : most ≤ 240) (hp : 0 < L.length → p = some ⟨b, o, none⟩) (hcap : L.length ≤ cap) (hcap' : cap ≤ 9223372036854775807)
    (hcell : ∀ k (h : k < L.length), w.cell? ⟨b, o + k, none⟩ = some (.int .u8 L[k]) ∧ 0 ≤ L[k] ∧ L[k] < 256) :
    Calls Try.prog 13 #[.slice p L.length cap, .int .i64 most] w fun e w' => e = .returned (.pointer (some ⟨w.heap.size, 0, none⟩)) ∧ Below w.heap.size w w' ∧ ∃ b', (0 < L.length → b' < w.heap.size) ∧ CodesAt w' w.heap.size b' (L.take most) 0 := by
  have fin : ∀ p' cap', (0 < (L.take most).length → p' = some ⟨b, o, none⟩) → ∃ b', (0 < L.length → b' < w.heap.size) ∧ CodesAt (w.alloc (.cells #[.slice p' (L.take most).length cap', .int .i64 0] 58)) w.heap.size b' (L.take most) 0 := by
    intro p' cap' hp'
    by_cases h0 : 0 < L.length
    · have hb : b < w.heap.size := World.block_lt_of_cell? w _ (hcell 0 h0).1
      refine ⟨b, fun _ => hb, ⟨p', cap', o, by rw [RX.cell_alloc]; simp, hp', fun k hk => ?_⟩, by rw [RX.cell_alloc]; simp, by rw [RX.frozen_alloc]; simp, Nat.zero_le _, by simp; omega, fun k hk => ?_, by omega⟩
      · have hk' : k < L.length := by simp at hk; omega
        rw [RX.cell_alloc, if_neg (by omega)]
        simpa using (hcell k hk').1
      · have hk' : k < L.length := by simp at hk; omega
        simpa using (hcell k hk').2
    · refine ⟨w.heap.size + 1, fun hh => absurd hh h0, ⟨p', cap', 0, by rw [RX.cell_alloc]; simp, fun hh => by simp at hh; omega, fun k hk => by simp at hk; omega⟩, by rw [RX.cell_alloc]; simp, by rw [RX.frozen_alloc]; simp, Nat.zero_le _, by simp; omega, fun k hk => ?_, by omega⟩
      simp at hk; omega
  by_cases hl : most < L.length
  · obtain rfl := hp (by omega)
    have e : (L.take most).length = most := by simp; omega
    rw [e] at fin
    go_enter Try.func13, Try.ntmps13
    go_wp2
    go_ret
    exact ⟨rfl, (Below.refl _ _).alloc (Nat.le_refl _) _, fin _ _ (fun _ => rfl)⟩
  · have e : (L.take most).length = L.length := by simp; omega
    rw [e] at fin
    go_enter Try.func13, Try.ntmps13
    go_wp2
    go_ret
    exact ⟨rfl, (Below.refl _ _).alloc (Nat.le_refl _) _, fin _ _ hp⟩

set_option maxHeartbeats 1000000 in
theorem int_any (w : World) (g b : Nat) (L : List Int) (i : Nat) (h : CodesAt w g b L i) :
    Calls Try.prog 17 #[.pointer (some ⟨g, 0, none⟩)] w fun e w' => ∃ x : Int, e = .returned (.int .i64 x) ∧ -9223372036854775808 ≤ x ∧ x ≤ 9223372036854775807 ∧ w.grownBy w' (some g) ∧ ∃ j, CodesAt w' g b L j := by
  have hg := h.lt
  go_enter Try.func17, Try.ntmps17
  go_wp2_with fail
  obtain ⟨ls, hls⟩ : ∃ l : List Value, l = [.int .i64 9223372036854775807, .int .i64 (-9223372036854775808), .int .i64 144115188075855872, .int .i64 144115188075855873, .int .i64 (-1), .int .i64 4294967296, .int .i64 1048576, .int .i64 1048577, .int .i64 4194304, .int .i64 1000001, .int .i64 0, .int .i64 17] := ⟨_, rfl⟩
  have hall : ∀ k : Nat, k < 12 → ∃ x : Int, ls[k]? = some (.int .i64 x) ∧ -9223372036854775808 ≤ x ∧ x ≤ 9223372036854775807 := by
    subst hls
    intro k hk
    match k, hk with
    | 0, _ | 1, _ | 2, _ | 3, _ | 4, _ | 5, _ | 6, _ | 7, _ | 8, _ | 9, _ | 10, _ | 11, _ => exact ⟨_, rfl, by decide, by decide⟩
    | k + 12, hk => omega
  rw [← show ls.toArray = #[.int .i64 9223372036854775807, .int .i64 (-9223372036854775808), .int .i64 144115188075855872, .int .i64 144115188075855873, .int .i64 (-1), .int .i64 4294967296, .int .i64 1048576, .int .i64 1048577, .int .i64 4194304, .int .i64 1000001, .int .i64 0, .int .i64 17] by rw [hls]]
  clear hls
  have h1 : CodesAt (w.alloc (.cells ls.toArray 3)) g b L i := h.below ((Below.refl _ _).alloc (Nat.le_refl _) _)
  refine (next_any _ g b L i 4 h1 (by omega)).mono ?_
  rintro e w1 ⟨r, rfl, hr, hw1, j, h2⟩
  by_cases hr3 : r = 3
  · subst hr3
    go_wp2_with fail
    refine (next_any _ g b L j 12 h2 (by omega)).mono ?_
    rintro e w2 ⟨s, rfl, hs, hw2, j2, h3⟩
    obtain ⟨x, hx, hx1, hx2⟩ := hall s (by omega)
    have hc : (w.alloc (.cells ls.toArray 3)).cell? ⟨w.heap.size, s, none⟩ = some (.int .i64 x) := by rw [RX.cell_alloc]; simpa using hx
    have hc2 := hw2.cell (hw1.cell hc (by simp; omega)) (by simp; omega)
    go_wp2
    go_ret
    exact ⟨x, rfl, hx1, hx2, (World.grownBy_alloc _ _ _).trans (hw1.trans hw2), j2, h3⟩
  · go_wp2_with fail
    refine (next_any _ g b L j 256 h2 (by omega)).mono ?_
    rintro e w2 ⟨s, rfl, hs, hw2, j2, h3⟩
    go_wp2
    go_ret
    exact ⟨_, rfl, by omega, by omega, (World.grownBy_alloc _ _ _).trans (hw1.trans hw2), j2, h3⟩
end Go.Proofs.Ytgemfgfhdbkgfaa
