import Derived.Test.YtlfhildbjipheaaGreatDoorProg
import Derived.Test.YtlfhildbjipheaaGreatDoorKRegion
import Derived.WalkKit
import Derived.WalkLawsBesides
import Derived.WalkSpells
import Derived.Lib.Hide
import Derived.Maps.AppendAt
import Derived.Test.YtlfhildbjipheaaGreatDoorKPlace
set_option linter.unusedSimpArgs false
set_option linter.unusedVariables false
namespace Go.Proofs.YtlfhildbjipheaaGreatDoor
open Go.RowKit

/-- synopticfield.Mod at a positive number: the remainder that is not negative. -/
theorem kmod_any (x n : Int) (w : World) (hx : -9223372036854775808 ≤ x) (hx' : x ≤ 9223372036854775807) (h1 : 1 ≤ n) (h2 : n ≤ 4611686018427387904) :
    Calls Tryz.prog 8 #[.int .i64 x, .int .i64 n] w fun e w' => e = .returned (.int .i64 (x % n)) ∧ w = w' := by
  have hn0 : (n == 0) = false := by rw [beq_eq_false_iff_ne]; omega
  by_cases h0 : 0 ≤ x
  · have e1 : x.tmod n = x % n := Int.tmod_eq_emod_of_nonneg h0
    have e2 := Int.emod_nonneg x (show n ≠ 0 by omega)
    have e3 := Int.emod_lt_of_pos x (show 0 < n by omega)
    go_enter Tryz.func8, Tryz.ntmps8
    go_wp2
    go_ret
    exact ⟨rfl, rfl⟩
  · obtain ⟨t, ht⟩ : ∃ t, t = x.tmod n := ⟨_, rfl⟩
    have a2 : x.tmod n = -((-x) % n) := by
      rw [show x = -(-x) by omega, Int.neg_tmod, Int.neg_neg, Int.tmod_eq_emod_of_nonneg (by omega)]
    have hr : x % n = if t < 0 then t + n else t := by
      rw [ht]
      rw [a2]
      have a3 := Int.emod_nonneg (-x) (show n ≠ 0 by omega)
      have a4 := Int.emod_lt_of_pos (-x) (show 0 < n by omega)
      have a5 := Int.emod_nonneg x (show n ≠ 0 by omega)
      have a6 := Int.emod_lt_of_pos x (show 0 < n by omega)
      have a7 := Int.mul_ediv_add_emod (-x) n
      have a8 := Int.mul_ediv_add_emod x n
      have a9 : n * ((-x) / n + x / n) = - ((-x) % n) - x % n := by rw [Int.mul_add]; omega
      generalize (-x) / n + x / n = z at a9
      generalize (-x) % n = u at *
      generalize x % n = v at *
      split
      · have : z = -1 := by
          have b1 : n * z < 0 := by omega
          have b2 : n * (-2) < n * z := by omega
          have b3 : z < 0 := by
            by_cases h : z < 0
            · exact h
            · have := Int.mul_nonneg (show 0 ≤ n by omega) (show 0 ≤ z by omega); omega
          have b4 : -2 < z := Int.lt_of_mul_lt_mul_left b2 (by omega)
          omega
        subst this; omega
      · have u0 : u = 0 := by omega
        subst u0
        have : z = 0 := by
          have b2 : n * (-1) < n * z := by omega
          have b4 : -1 < z := Int.lt_of_mul_lt_mul_left b2 (by omega)
          have b5 : n * z < n * 1 := by omega
          have b6 : z < 1 := Int.lt_of_mul_lt_mul_left b5 (by omega)
          omega
        subst this; omega
    have hlt : -n < t := by
      have := Int.emod_lt_of_pos (-x) (show 0 < n by omega); omega
    have hle : t ≤ 0 := by
      have := Int.emod_nonneg (-x) (show n ≠ 0 by omega); omega
    clear a2
    have HR := Lib.hid hr
    have ht' : x.tmod n = t := ht.symm
    clear hr ht
    by_cases hneg : t < 0
    · go_enter Tryz.func8, Tryz.ntmps8
      go_wp2
      go_ret
      rw [HR.out, if_pos hneg]
      exact ⟨rfl, rfl⟩
    · go_enter Tryz.func8, Tryz.ntmps8
      go_wp2
      go_ret
      rw [HR.out, if_neg (by omega)]
      exact ⟨rfl, rfl⟩
end Go.Proofs.YtlfhildbjipheaaGreatDoor

set_option linter.unusedSimpArgs false
set_option linter.unusedVariables false
namespace Go.Proofs.YtlfhildbjipheaaGreatDoor
open Go.RowKit

/-- The source of numbers at block g, over the list in block b: n numbers, at place i. -/
structure SrcAt (w : World) (g b n i : Nat) : Prop where
  hp : ∃ p cap o, w.cell? ⟨g, 0, none⟩ = some (.slice p n cap) ∧ (0 < n → p = some ⟨b, o, none⟩) ∧ ∀ k, k < n → ∃ x : Int, w.cell? ⟨b, o + k, none⟩ = some (.int .i64 x) ∧ -9223372036854775808 ≤ x ∧ x ≤ 9223372036854775807
  hi : w.cell? ⟨g, 1, none⟩ = some (.int .i64 i)
  hf : w.frozen? ⟨g, 1, none⟩ = false
  hle : i ≤ n
  hlen : n ≤ 2000
  hgb : g ≠ b

theorem SrcAt.kept {w w' : World} {g b n i : Nat} (h : SrcAt w g b n i) (hg : w'.heap[g]? = w.heap[g]?) (hb : 0 < n → w'.heap[b]? = w.heap[b]?) : SrcAt w' g b n i where
  hp := by
    obtain ⟨p, cap, o, h1, h2, h3⟩ := h.hp
    exact ⟨p, cap, o, (World.cell?_of_block hg).trans h1, h2, fun k hk => by
      obtain ⟨x, hx, h4⟩ := h3 k hk
      exact ⟨x, (World.cell?_of_block (hb (by omega))).trans hx, h4⟩⟩
  hi := (World.cell?_of_block hg).trans h.hi
  hf := (World.frozen?_of_block hg).trans h.hf
  hle := h.hle
  hlen := h.hlen
  hgb := h.hgb
theorem SrcAt.lt {w : World} {g b n i : Nat} (h : SrcAt w g b n i) : g < w.heap.size := World.block_lt_of_cell? w _ h.hi
theorem SrcAt.ltb {w : World} {g b n i : Nat} (h : SrcAt w g b n i) (h0 : 0 < n) : b < w.heap.size := by
  obtain ⟨p, cap, o, _, _, h3⟩ := h.hp
  obtain ⟨x, hx, _⟩ := h3 0 h0
  exact World.block_lt_of_cell? w _ hx
theorem SrcAt.below {w w' : World} {g b n i : Nat} (h : SrcAt w g b n i) (hb : Below w.heap.size w w') : SrcAt w' g b n i :=
  h.kept (hb.block _ h.lt) (fun h0 => hb.block _ (h.ltb h0))
theorem SrcAt.grown' {w w' : World} {g b n i k : Nat} (h : SrcAt w g b n i) (hb : w.grownBy w' (some k)) (h1 : g ≠ k) (h2 : 0 < n → b ≠ k) : SrcAt w' g b n i :=
  h.kept (hb.block _ h.lt (by simpa using h1)) (fun h0 => hb.block _ (h.ltb h0) (by simpa using h2 h0))
theorem SrcAt.set {w : World} {g b n i : Nat} (h : SrcAt w g b n i) (j : Nat) (hj : j ≤ n) : SrcAt (w.setCell ⟨g, 1, none⟩ (.int .i64 j)) g b n j where
  hp := by
    obtain ⟨p, cap, o, h1, h2, h3⟩ := h.hp
    exact ⟨p, cap, o, (World.cell?_setCell_other _ _ _ _ (by simp)).trans h1, h2, fun k hk => by
      obtain ⟨x, hx, h4⟩ := h3 k hk
      exact ⟨x, (World.cell?_setCell_other _ _ _ _ (by have := h.hgb; simp [Ne.symm this])).trans hx, h4⟩⟩
  hi := World.cell?_setCell_same' _ _ _ (by rw [h.hi]; rfl)
  hf := by rw [World.frozen?_setCell]; exact h.hf
  hle := hj
  hlen := h.hlen
  hgb := h.hgb
theorem src_setCell (w : World) (g k : Nat) (v : Value) : w.grownBy (w.setCell ⟨g, k, none⟩ v) (some g) :=
  ⟨by simp [World.setCell], by simp [World.setCell], by simp [World.setCell], by simp [World.setCell], fun j _ hj => Below.heap_setCell _ _ _ j (fun e => hj (by rw [e]))⟩

set_option maxHeartbeats 1000000 in
/-- The next number as it is: some int; only the source has turned. -/
theorem raw_any (w : World) (g b n i : Nat) (h : SrcAt w g b n i) :
    Calls Tryz.prog 72 #[.pointer (some ⟨g, 0, none⟩)] w fun e w' => ∃ x : Int, e = .returned (.int .i64 x) ∧ -9223372036854775808 ≤ x ∧ x ≤ 9223372036854775807 ∧ w.grownBy w' (some g) ∧ ∃ j, SrcAt w' g b n j := by
  obtain ⟨p, cap, o, hp, hpp, hcc⟩ := h.hp
  have hi := h.hi
  have hf := h.hf
  have hle := h.hle
  have hlen := h.hlen
  have hgb := h.hgb
  by_cases hl : i < n
  · obtain rfl := hpp (by omega)
    obtain ⟨x, hc, hx1, hx2⟩ := hcc i hl
    clear hcc
    go_enter Tryz.func72, Tryz.ntmps72
    go_wp2
    refine RX.region RX.fN (fun w' => w' = _) (by kernel_rfl) (by kernel_rfl) rfl (fun OPS HO QR hQR => ?_)
    repeat
      refine RX.step (fun R hR => ?_)
      first
      | (refine RX.one_skip (by first | rfl | (rw [HO.out]; rfl)) (by simp only [RX.put_some, RX.put_none, List.set_cons_zero, List.set_cons_succ]; rfl) ?_
         refine hR _ _ ?_; clear hR R)
      | (refine RX.one_move (by first | rfl | (rw [HO.out]; rfl)) rfl (by first | exact Or.inl rfl | exact Or.inr rfl) (by simp only [RX.eval_tmp, RX.eval_const, List.getD_cons_zero, List.getD_cons_succ]; rfl) (by simp only [RX.put_some, RX.put_none, List.set_cons_zero, List.set_cons_succ]; rfl) ?_
         refine hR _ _ ?_; clear hR R)
      | (refine RX.one_nil (by first | rfl | (rw [HO.out]; rfl)) rfl rfl (by simp only [RX.eval_tmp, RX.eval_const, List.getD_cons_zero, List.getD_cons_succ]; rfl) (by simp only [RX.put_some, RX.put_none, List.set_cons_zero, List.set_cons_succ]; rfl) ?_
         refine hR _ _ ?_; clear hR R)
      | (refine RX.one_float (by first | rfl | (rw [HO.out]; rfl)) rfl rfl rfl ?_
         apply Exists.intro; apply Exists.intro
         refine ⟨fun w' hS K hK => ?_, ?_, ?_⟩
         · subst hS; go_wp2; exact hK _ _ (by simp only [RX.arr_getD, List.getD_cons_zero, List.getD_cons_succ]; first | exact RX.dec_t (by omega) | exact RX.dec_f (by omega) | exact RX.beq_t (by omega) | exact RX.beq_f (by omega) | exact RX.bne_t (by omega) | exact RX.bne_f (by omega) | exact RX.bneB _ | rfl) rfl
         · simp only [RX.put_some, RX.put_none, List.set_cons_zero, List.set_cons_succ]; rfl
         refine hR _ _ ?_; clear hR R)
    refine RX.wpL_nil (hQR _ _ rfl ?_); clear hQR QR HO OPS
    have hp' : w.drew.cell? ⟨g, 0, none⟩ = _ := hp
    have hi' : w.drew.cell? ⟨g, 1, none⟩ = _ := hi
    have hc' : w.drew.cell? ⟨b, o + i, none⟩ = _ := hc
    have hf' : w.drew.frozen? ⟨g, 1, none⟩ = _ := hf
    go_wp2
    refine RX.region RX.fN (fun w' => w' = _) (by kernel_rfl) (by kernel_rfl) rfl (fun OPS HO QR hQR => ?_)
    repeat
      refine RX.step (fun R hR => ?_)
      first
      | (refine RX.one_skip (by first | rfl | (rw [HO.out]; rfl)) (by simp only [RX.put_some, RX.put_none, List.set_cons_zero, List.set_cons_succ]; rfl) ?_
         refine hR _ _ ?_; clear hR R)
      | (refine RX.one_move (by first | rfl | (rw [HO.out]; rfl)) rfl (by first | exact Or.inl rfl | exact Or.inr rfl) (by simp only [RX.eval_tmp, RX.eval_const, List.getD_cons_zero, List.getD_cons_succ]; rfl) (by simp only [RX.put_some, RX.put_none, List.set_cons_zero, List.set_cons_succ]; rfl) ?_
         refine hR _ _ ?_; clear hR R)
      | (refine RX.one_nil (by first | rfl | (rw [HO.out]; rfl)) rfl rfl (by simp only [RX.eval_tmp, RX.eval_const, List.getD_cons_zero, List.getD_cons_succ]; rfl) (by simp only [RX.put_some, RX.put_none, List.set_cons_zero, List.set_cons_succ]; rfl) ?_
         refine hR _ _ ?_; clear hR R)
      | (refine RX.one_float (by first | rfl | (rw [HO.out]; rfl)) rfl rfl rfl ?_
         apply Exists.intro; apply Exists.intro
         refine ⟨fun w' hS K hK => ?_, ?_, ?_⟩
         · subst hS; go_wp2; exact hK _ _ (by simp only [RX.arr_getD, List.getD_cons_zero, List.getD_cons_succ]; first | exact RX.dec_t (by omega) | exact RX.dec_f (by omega) | exact RX.beq_t (by omega) | exact RX.beq_f (by omega) | exact RX.bne_t (by omega) | exact RX.bne_f (by omega) | exact RX.bneB _ | rfl) rfl
         · simp only [RX.put_some, RX.put_none, List.set_cons_zero, List.set_cons_succ]; rfl
         refine hR _ _ ?_; clear hR R)
    refine RX.wpL_nil (hQR _ _ rfl ?_); clear hQR QR HO OPS
    go_wp2
    go_ret
    have h1 := src_setCell w.drew g 1 (.int .i64 ((i : Int) + 1))
    have h2 : SrcAt w.drew g b n i := h.kept rfl (fun _ => rfl)
    exact ⟨x, rfl, hx1, hx2, ⟨h1.os, h1.tape, h1.output, h1.size, h1.block⟩, i + 1, SrcAt.kept (w := w.drew.setCell ⟨g, 1, none⟩ (.int .i64 ((i + 1 : Nat) : Int))) (h2.set (i + 1) hl) rfl (fun _ => rfl)⟩
  · clear hcc hpp
    go_enter Tryz.func72, Tryz.ntmps72
    go_wp2
    refine RX.region RX.fN (fun w' => w' = _) (by kernel_rfl) (by kernel_rfl) rfl (fun OPS HO QR hQR => ?_)
    repeat
      refine RX.step (fun R hR => ?_)
      first
      | (refine RX.one_skip (by first | rfl | (rw [HO.out]; rfl)) (by simp only [RX.put_some, RX.put_none, List.set_cons_zero, List.set_cons_succ]; rfl) ?_
         refine hR _ _ ?_; clear hR R)
      | (refine RX.one_move (by first | rfl | (rw [HO.out]; rfl)) rfl (by first | exact Or.inl rfl | exact Or.inr rfl) (by simp only [RX.eval_tmp, RX.eval_const, List.getD_cons_zero, List.getD_cons_succ]; rfl) (by simp only [RX.put_some, RX.put_none, List.set_cons_zero, List.set_cons_succ]; rfl) ?_
         refine hR _ _ ?_; clear hR R)
      | (refine RX.one_nil (by first | rfl | (rw [HO.out]; rfl)) rfl rfl (by simp only [RX.eval_tmp, RX.eval_const, List.getD_cons_zero, List.getD_cons_succ]; rfl) (by simp only [RX.put_some, RX.put_none, List.set_cons_zero, List.set_cons_succ]; rfl) ?_
         refine hR _ _ ?_; clear hR R)
      | (refine RX.one_float (by first | rfl | (rw [HO.out]; rfl)) rfl rfl rfl ?_
         apply Exists.intro; apply Exists.intro
         refine ⟨fun w' hS K hK => ?_, ?_, ?_⟩
         · subst hS; go_wp2; exact hK _ _ (by simp only [RX.arr_getD, List.getD_cons_zero, List.getD_cons_succ]; first | exact RX.dec_t (by omega) | exact RX.dec_f (by omega) | exact RX.beq_t (by omega) | exact RX.beq_f (by omega) | exact RX.bne_t (by omega) | exact RX.bne_f (by omega) | exact RX.bneB _ | rfl) rfl
         · simp only [RX.put_some, RX.put_none, List.set_cons_zero, List.set_cons_succ]; rfl
         refine hR _ _ ?_; clear hR R)
    refine RX.wpL_nil (hQR _ _ rfl ?_); clear hQR QR HO OPS
    go_wp2
    go_ret
    exact ⟨0, rfl, by omega, by omega, ⟨rfl, rfl, rfl, Nat.le_refl _, fun _ _ _ => rfl⟩, i, h.kept rfl (fun _ => rfl)⟩
end Go.Proofs.YtlfhildbjipheaaGreatDoor

set_option linter.unusedSimpArgs false
set_option linter.unusedVariables false
namespace Go.Proofs.YtlfhildbjipheaaGreatDoor
open Go.RowKit

/-- A number from 0 to m - 1. -/
theorem srcN_any (w : World) (g b n i : Nat) (m : Int) (h : SrcAt w g b n i) (hm : 1 ≤ m) (hm' : m ≤ 4611686018427387904) :
    Calls Tryz.prog 42 #[.pointer (some ⟨g, 0, none⟩), .int .i64 m] w fun e w' => ∃ x : Int, e = .returned (.int .i64 x) ∧ 0 ≤ x ∧ x < m ∧ w.grownBy w' (some g) ∧ ∃ j, SrcAt w' g b n j := by
  go_enter Tryz.func42, Tryz.ntmps42
  go_wp2_with fail
  refine (raw_any w g b n i h).mono ?_
  rintro e w1 ⟨x, rfl, hx1, hx2, hg, hS⟩
  go_wp2_with fail
  refine (kmod_any x m w1 hx1 hx2 hm hm').mono ?_
  rintro e w2 ⟨rfl, rfl⟩
  have h1 := Int.emod_nonneg x (show m ≠ 0 by omega)
  have h2 := Int.emod_lt_of_pos x (show 0 < m by omega)
  go_wp2
  go_ret
  exact ⟨_, rfl, h1, h2, hg, hS⟩

theorem srcRange_any (w : World) (g b n i : Nat) (lo hi : Int) (h : SrcAt w g b n i) (h1 : -1000000 ≤ lo) (h2 : lo ≤ hi) (h3 : hi ≤ 1000000) :
    Calls Tryz.prog 35 #[.pointer (some ⟨g, 0, none⟩), .int .i64 lo, .int .i64 hi] w fun e w' => ∃ x : Int, e = .returned (.int .i64 x) ∧ lo ≤ x ∧ x ≤ hi ∧ w.grownBy w' (some g) ∧ ∃ j, SrcAt w' g b n j := by
  go_enter Tryz.func35, Tryz.ntmps35
  go_wp2_with fail
  refine (srcN_any w g b n i (hi - lo + 1) h (by omega) (by omega)).mono ?_
  rintro e w1 ⟨x, rfl, hx1, hx2, hg, hS⟩
  go_wp2
  go_ret
  exact ⟨_, rfl, by omega, by omega, hg, hS⟩
end Go.Proofs.YtlfhildbjipheaaGreatDoor

set_option linter.unusedSimpArgs false
set_option linter.unusedVariables false
namespace Go.Proofs.YtlfhildbjipheaaGreatDoor
open Go.RowKit Go.Grid

set_option maxRecDepth 100000 in
set_option maxHeartbeats 1000000 in
theorem knew_any (p : Option Addr) (cap : Nat) (L : List Int) (w : World) (hV : VecAt w p L) (hI : I64L L) (hl : L.length ≤ cap) (hc : cap ≤ 9223372036854775807) :
    Calls Tryz.prog 34 #[.slice p L.length cap] w fun e w' => e = .returned (.pointer (some ⟨w.heap.size, 0, none⟩)) ∧ Below w.heap.size w w' ∧ ∃ b, (0 < min L.length 2000 → b < w.heap.size) ∧ SrcAt w' w.heap.size b (min L.length 2000) 0 := by
  obtain ⟨b, o, hp, hcell⟩ := hV
  have key : ∀ (m : Nat) (cap' : Nat), m = min L.length 2000 → ∃ b, (0 < min L.length 2000 → b < w.heap.size) ∧ SrcAt (w.alloc (.cells #[.slice p m cap', .int .i64 0] 103)) w.heap.size b (min L.length 2000) 0 := by
    intro m cap' hm
    by_cases h0 : 0 < min L.length 2000
    · have hbl : b < w.heap.size := World.block_lt_of_cell? _ _ (hcell 0 (by omega))
      refine ⟨b, fun _ => hbl, ⟨⟨p, cap', o, (by rw [hm]; simp [RX.cell_alloc]), fun _ => hp (by omega), fun k hk => ?_⟩, (by simp [RX.cell_drew, RX.cell_alloc, Nat.add_assoc]), by simp [RX.frozen_alloc], by omega, by omega, by omega⟩⟩
      have hk' : k < L.length := by omega
      have hx := hI L[k] (List.getElem_mem _)
      refine ⟨L[k], ?_, hx.1, hx.2⟩
      rw [RX.cell_alloc, if_neg (by omega)]; exact hcell k hk'
    · exact ⟨w.heap.size + 1, fun h => absurd h h0, ⟨⟨p, cap', 0, (by rw [hm]; simp [RX.cell_alloc]), fun h => absurd h h0, fun k hk => absurd hk (by omega)⟩, (by simp [RX.cell_drew, RX.cell_alloc, Nat.add_assoc]), by simp [RX.frozen_alloc], by omega, by omega, by omega⟩⟩
  have HK := Lib.hid key
  clear key hcell hI hp
  by_cases h2 : L.length ≤ 2000
  · have hmin : min (L.length : Int) 2000 = L.length := by omega
    go_enter Tryz.func34, Tryz.ntmps34
    go_wp2
    go_ret
    exact ⟨rfl, (Below.refl _ _).alloc (Nat.le_refl _) _, HK.out _ _ (by omega)⟩
  · have hmin : min (L.length : Int) 2000 = 2000 := by omega
    go_enter Tryz.func34, Tryz.ntmps34
    go_wp2
    go_ret
    exact ⟨rfl, (Below.refl _ _).alloc (Nat.le_refl _) _, HK.out _ _ (by omega)⟩

/-- A place in block g that can be written. -/
structure PlAt (w : World) (g : Nat) (f a b c : Int) : Prop where
  c0 : w.cell? ⟨g, 0, none⟩ = some (.int .i64 f)
  c1 : w.cell? ⟨g, 1, none⟩ = some (.int .i64 a)
  c2 : w.cell? ⟨g, 2, none⟩ = some (.int .i64 b)
  c3 : w.cell? ⟨g, 3, none⟩ = some (.int .i64 c)
  z0 : w.frozen? ⟨g, 0, none⟩ = false
  z1 : w.frozen? ⟨g, 1, none⟩ = false
  z2 : w.frozen? ⟨g, 2, none⟩ = false
  z3 : w.frozen? ⟨g, 3, none⟩ = false
theorem PlAt.block {w w' : World} {g : Nat} {f a b c : Int} (h : PlAt w g f a b c) (hb : w'.heap[g]? = w.heap[g]?) : PlAt w' g f a b c :=
  ⟨(World.cell?_of_block hb).trans h.c0, (World.cell?_of_block hb).trans h.c1, (World.cell?_of_block hb).trans h.c2, (World.cell?_of_block hb).trans h.c3, (World.frozen?_of_block hb).trans h.z0, (World.frozen?_of_block hb).trans h.z1, (World.frozen?_of_block hb).trans h.z2, (World.frozen?_of_block hb).trans h.z3⟩
theorem PlAt.lt {w : World} {g : Nat} {f a b c : Int} (h : PlAt w g f a b c) : g < w.heap.size := World.block_lt_of_cell? _ _ h.c0
theorem PlAt.below {w w' : World} {g : Nat} {f a b c : Int} (h : PlAt w g f a b c) (hb : Below w.heap.size w w') : PlAt w' g f a b c := h.block (hb.block _ h.lt)
theorem PlAt.grown {w w' : World} {g k : Nat} {f a b c : Int} (h : PlAt w g f a b c) (hb : w.grownBy w' (some k)) (hne : g ≠ k) : PlAt w' g f a b c := h.block (hb.block _ h.lt (by simpa using hne))
theorem PlAt.set {w : World} {g k i : Nat} {v : Value} {f a b c : Int} (h : PlAt w g f a b c) (hne : g ≠ k) : PlAt (w.setCell ⟨k, i, none⟩ v) g f a b c := h.block (Below.heap_setCell _ _ _ g hne)
theorem PlAt.new (w : World) (f a b c : Int) : PlAt (w.alloc (.cells #[.int .i64 f, .int .i64 a, .int .i64 b, .int .i64 c] 32)) w.heap.size f a b c :=
  ⟨(by simp [RX.cell_drew, RX.cell_alloc, Nat.add_assoc]), (by simp [RX.cell_drew, RX.cell_alloc, Nat.add_assoc]), (by simp [RX.cell_drew, RX.cell_alloc, Nat.add_assoc]), (by simp [RX.cell_drew, RX.cell_alloc, Nat.add_assoc]), by simp [RX.frozen_alloc], by simp [RX.frozen_alloc], by simp [RX.frozen_alloc], by simp [RX.frozen_alloc]⟩
theorem PlAt.set1 {w : World} {g : Nat} {f a b c : Int} (h : PlAt w g f a b c) (x : Int) : PlAt (w.setCell ⟨g, 1, none⟩ (.int .i64 x)) g f x b c :=
  ⟨(World.cell?_setCell_other _ _ _ _ (by simp)).trans h.c0, World.cell?_setCell_same' _ _ _ (by rw [h.c1]; rfl), (World.cell?_setCell_other _ _ _ _ (by simp)).trans h.c2, (World.cell?_setCell_other _ _ _ _ (by simp)).trans h.c3,
    by rw [World.frozen?_setCell]; exact h.z0, by rw [World.frozen?_setCell]; exact h.z1, by rw [World.frozen?_setCell]; exact h.z2, by rw [World.frozen?_setCell]; exact h.z3⟩
theorem PlAt.set2 {w : World} {g : Nat} {f a b c : Int} (h : PlAt w g f a b c) (x : Int) : PlAt (w.setCell ⟨g, 2, none⟩ (.int .i64 x)) g f a x c :=
  ⟨(World.cell?_setCell_other _ _ _ _ (by simp)).trans h.c0, (World.cell?_setCell_other _ _ _ _ (by simp)).trans h.c1, World.cell?_setCell_same' _ _ _ (by rw [h.c2]; rfl), (World.cell?_setCell_other _ _ _ _ (by simp)).trans h.c3,
    by rw [World.frozen?_setCell]; exact h.z0, by rw [World.frozen?_setCell]; exact h.z1, by rw [World.frozen?_setCell]; exact h.z2, by rw [World.frozen?_setCell]; exact h.z3⟩
theorem PlAt.set0 {w : World} {g : Nat} {f a b c : Int} (h : PlAt w g f a b c) (x : Int) : PlAt (w.setCell ⟨g, 0, none⟩ (.int .i64 x)) g x a b c :=
  ⟨World.cell?_setCell_same' _ _ _ (by rw [h.c0]; rfl), (World.cell?_setCell_other _ _ _ _ (by simp)).trans h.c1, (World.cell?_setCell_other _ _ _ _ (by simp)).trans h.c2, (World.cell?_setCell_other _ _ _ _ (by simp)).trans h.c3,
    by rw [World.frozen?_setCell]; exact h.z0, by rw [World.frozen?_setCell]; exact h.z1, by rw [World.frozen?_setCell]; exact h.z2, by rw [World.frozen?_setCell]; exact h.z3⟩
theorem PlAt.set3 {w : World} {g : Nat} {f a b c : Int} (h : PlAt w g f a b c) (x : Int) : PlAt (w.setCell ⟨g, 3, none⟩ (.int .i64 x)) g f a b x :=
  ⟨(World.cell?_setCell_other _ _ _ _ (by simp)).trans h.c0, (World.cell?_setCell_other _ _ _ _ (by simp)).trans h.c1, (World.cell?_setCell_other _ _ _ _ (by simp)).trans h.c2, World.cell?_setCell_same' _ _ _ (by rw [h.c3]; rfl),
    by rw [World.frozen?_setCell]; exact h.z0, by rw [World.frozen?_setCell]; exact h.z1, by rw [World.frozen?_setCell]; exact h.z2, by rw [World.frozen?_setCell]; exact h.z3⟩
theorem SrcAt.other {w : World} {g b n i k j : Nat} {v : Value} (h : SrcAt w g b n i) (h1 : g ≠ k) (h2 : 0 < n → b ≠ k) : SrcAt (w.setCell ⟨k, j, none⟩ v) g b n i :=
  h.kept (Below.heap_setCell _ _ _ g h1) (fun h0 => Below.heap_setCell _ _ _ b (h2 h0))

set_option maxRecDepth 100000 in
set_option maxHeartbeats 2000000 in
theorem somewhere_any (w : World) (g b n i : Nat) (h : SrcAt w g b n i) (hb0 : 0 < n → b < w.heap.size) :
    Calls Tryz.prog 36 #[.pointer (some ⟨g, 0, none⟩)] w fun e w' => ∃ p : Pl, e = .returned (pv p) ∧ p.Ok ∧ w.grownBy w' (some g) ∧ ∃ j, SrcAt w' g b n j := by
  have hg := h.lt
  have fin : ∀ f a x : Int, 0 ≤ f → f < 20 → 0 ≤ a → 0 ≤ x → a + x ≤ 840 → ∃ p : Pl, p.Ok ∧ pv p = .agg #[.int .i64 f, .int .i64 a, .int .i64 x, .int .i64 (840 - a - x)] := by
    intro f a x h1 h2 h3 h4 h5
    refine ⟨⟨f.toNat, a.toNat, x.toNat, (840 - a - x).toNat⟩, ⟨by show f.toNat < 20; omega, by show a.toNat + x.toNat + (840 - a - x).toNat = 840; omega⟩, ?_⟩
    show (.agg #[.int .i64 (f.toNat : Int), .int .i64 (a.toNat : Int), .int .i64 (x.toNat : Int), .int .i64 ((840 - a - x).toNat : Int)] : Value) = _
    rw [Int.toNat_of_nonneg h1, Int.toNat_of_nonneg h3, Int.toNat_of_nonneg h4, Int.toNat_of_nonneg (by omega)]
  have FIN := Lib.hid fin
  clear fin
  go_enter Tryz.func36, Tryz.ntmps36
  go_wp2_with fail
  have hb1 : Below w.heap.size w (w.alloc (.cells #[.int .i64 0, .int .i64 0, .int .i64 0, .int .i64 0] 32)) := (by repeat (first | (with_reducible assumption) | (with_reducible exact Below.refl _ _) | (with_reducible refine Below.setCell ?_ (by first | omega | (simp; done) | (simp; omega)) _) | (with_reducible refine Below.alloc ?_ (by first | omega | (simp; done) | (simp; omega)) _) | (with_reducible apply Below.drew) | assumption))
  have hR := PlAt.new w 0 0 0 0
  have hG := grw_below hb1 (some g)
  have h1 := h.below hb1
  clear h hb1
  generalize (w.alloc (.cells #[.int .i64 0, .int .i64 0, .int .i64 0, .int .i64 0] 32)) = W0 at *
  obtain ⟨R, hRe⟩ : ∃ R, R = w.heap.size := ⟨_, rfl⟩
  rw [← hRe] at hR ⊢
  have hRw : w.heap.size ≤ R := by omega
  have hRg : R ≠ g := by omega
  have hbR : 0 < n → b ≠ R := fun h0 => by have := hb0 h0; omega
  clear hRe
  refine (srcN_any W0 g b n i 20 h1 (by omega) (by omega)).mono ?_
  rintro e w1 ⟨f, rfl, hf0, hf1, hg1, i1, h2⟩
  replace hR := hR.grown hg1 hRg
  replace hG := hG.trans hg1
  clear hg1 h1
  clear W0
  go_wp2_with fail
  refine (srcN_any w1 g b n i1 841 h2 (by omega) (by omega)).mono ?_
  rintro e w2 ⟨a, rfl, ha0, ha1, hg2, i2, h3⟩
  replace hR := hR.grown hg2 hRg
  replace hG := hG.trans hg2
  clear hg2 h2
  clear w1
  go_wp2_with fail
  have hb1 := (Below.refl w2.heap.size w2).alloc (Nat.le_refl _) (.cells #[.int .i64 f, .int .i64 a, .int .i64 0, .int .i64 0] 32)
  have hQ := PlAt.new w2 f a 0 0
  have hRl := hR.lt
  have hgl := h3.lt
  have hGs := hG.size
  replace hR := hR.below hb1
  replace h3 := h3.below hb1
  replace hG := grw_alloc hG (.cells #[.int .i64 f, .int .i64 a, .int .i64 0, .int .i64 0] 32)
  obtain ⟨Q, hQe⟩ : ∃ Q, Q = w2.heap.size := ⟨_, rfl⟩
  rw [← hQe] at hQ ⊢
  have hQw : w.heap.size ≤ Q := by omega
  have hQg : Q ≠ g := by omega
  have hQR : Q ≠ R := by omega
  have hRQ : R ≠ Q := by omega
  have hbQ : 0 < n → b ≠ Q := fun h0 => by have := hb0 h0; omega
  clear hb1 hQe hRl hgl hGs
  generalize (w2.alloc (.cells #[.int .i64 f, .int .i64 a, .int .i64 0, .int .i64 0] 32)) = W3 at *
  clear w2
  refine (srcN_any W3 g b n i2 4 h3 (by omega) (by omega)).mono ?_
  rintro e w4 ⟨x4, rfl, hx0, hx1, hg4, i4, h4⟩
  replace hR := hR.grown hg4 hRg
  replace hQ := hQ.grown hg4 hQg
  replace hG := hG.trans hg4
  clear hg4 h3
  clear W3
  by_cases hx4 : x4 = 0
  · subst hx4
    go_wp2_with fail
    refine (srcN_any w4 g b n i4 9 h4 (by omega) (by omega)).mono ?_
    rintro e w5 ⟨x9, rfl, h90, h91, hg5, i5, h5⟩
    replace hR := hR.grown hg5 hRg
    replace hQ := hQ.grown hg5 hQg
    replace hG := hG.trans hg5
    clear hg5 h4
    clear w4
    have HQ := Lib.hid hQ
    have HR := Lib.hid hR
    obtain ⟨c0, c1, c2, c3, z0, z1, z2, z3⟩ := hQ
    clear hR
    go_wp2_with fail
    have hQ := HQ.out.set1 (105 * x9)
    have hR : PlAt (w5.setCell ⟨Q, 1, none⟩ (.int .i64 (105 * x9))) R 0 0 0 0 := HR.out.set hRQ
    replace h5 : SrcAt (w5.setCell ⟨Q, 1, none⟩ (.int .i64 (105 * x9))) g b n i5 := h5.other (Ne.symm hQg) hbQ
    replace hG : w.grownBy (w5.setCell ⟨Q, 1, none⟩ (.int .i64 (105 * x9))) (some g) := grw_set hG (.inr hQw)
    clear c0 c1 c2 c3 z0 z1 z2 z3 HQ HR
    generalize (w5.setCell ⟨Q, 1, none⟩ (.int .i64 (105 * x9))) = W5 at *
    clear w5
    obtain ⟨c0, c1, c2, c3, z0, z1, z2, z3⟩ := hQ
    have HQ : Hid (PlAt W5 Q f (105 * x9) 0 0) := Lib.hid ⟨c0, c1, c2, c3, z0, z1, z2, z3⟩
    have HR := Lib.hid hR
    clear hR
    go_wp2_with fail
    refine (srcN_any _ g b n i5 (840 - (105 * x9) + 1) h5 (by omega) (by omega)).mono ?_
    rintro e w6 ⟨x, rfl, hy0, hy1, hg6, i6, h6⟩
    have hQ6 := HQ.out.grown hg6 hQg
    have hR6 := HR.out.grown hg6 hRg
    have hG6 := hG.trans hg6
    clear hg6 HQ HR c0 c1 c2 c3 z0 z1 z2 z3 hG h5
    obtain ⟨c0, c1, c2, c3, z0, z1, z2, z3⟩ := hQ6
    have HQ : Hid (PlAt w6 Q f (105 * x9) 0 0) := Lib.hid ⟨c0, c1, c2, c3, z0, z1, z2, z3⟩
    have HR := Lib.hid hR6
    clear hR6
    go_wp2_with fail
    have hQ7 := HQ.out.set2 x
    have hR7 : PlAt (w6.setCell ⟨Q, 2, none⟩ (.int .i64 x)) R 0 0 0 0 := HR.out.set hRQ
    have h7 : SrcAt (w6.setCell ⟨Q, 2, none⟩ (.int .i64 x)) g b n i6 := h6.other (Ne.symm hQg) hbQ
    have hG7 : w.grownBy (w6.setCell ⟨Q, 2, none⟩ (.int .i64 x)) (some g) := grw_set hG6 (.inr hQw)
    clear c0 c1 c2 c3 z0 z1 z2 z3 HQ HR h6 hG6
    generalize (w6.setCell ⟨Q, 2, none⟩ (.int .i64 x)) = W7 at *
    clear w6
    refine (srcN_any W7 g b n i6 4 h7 (by omega) (by omega)).mono ?_
    rintro e w8 ⟨y, rfl, hv0, hv1, hg8, i8, h8⟩
    have hQ8 := hQ7.grown hg8 hQg
    have hR8 := hR7.grown hg8 hRg
    have hG8 := hG7.trans hg8
    clear hg8 hQ7 hR7 hG7 h7
    clear W7
    have HQ := Lib.hid hQ8
    have HR := Lib.hid hR8
    obtain ⟨c0, c1, c2, c3, z0, z1, z2, z3⟩ := hQ8
    obtain ⟨r0, r1, r2, r3, s0, s1, s2, s3⟩ := hR8
    have HG := Lib.hid hG8
    have H8 := Lib.hid h8
    clear hG8 h8
    by_cases hy : y = 0
    · subst hy
      obtain ⟨p, hp, hpv⟩ := FIN.out f (105 * x9) 0 hf0 hf1 (by omega) (by omega) (by omega)
      have HP := Lib.hid (And.intro hp hpv)
      clear hp hpv
      go_wp2
      have hRq : PlAt ((w8.setCell ⟨Q, 2, none⟩ (.int .i64 0)).setCell ⟨Q, 3, none⟩ (.int .i64 (840 - (105 * x9)))) R 0 0 0 0 := (HR.out.set hRQ).set hRQ
      have hSq : SrcAt ((w8.setCell ⟨Q, 2, none⟩ (.int .i64 0)).setCell ⟨Q, 3, none⟩ (.int .i64 (840 - (105 * x9)))) g b n i8 := (H8.out.other (Ne.symm hQg) hbQ).other (Ne.symm hQg) hbQ
      have hGq : w.grownBy ((w8.setCell ⟨Q, 2, none⟩ (.int .i64 0)).setCell ⟨Q, 3, none⟩ (.int .i64 (840 - (105 * x9)))) (some g) := grw_set (grw_set HG.out (.inr hQw)) (.inr hQw)
      clear c0 c1 c2 c3 z0 z1 z2 z3 r0 r1 r2 r3 s0 s1 s2 s3 HQ HR HG H8
      generalize ((w8.setCell ⟨Q, 2, none⟩ (.int .i64 0)).setCell ⟨Q, 3, none⟩ (.int .i64 (840 - (105 * x9)))) = W9 at *
      refine bodyPost_ret (v := .agg #[.int .i64 f, .int .i64 (105 * x9), .int .i64 0, .int .i64 (840 - (105 * x9))]) ?_ rfl ⟨p, by rw [HP.out.2, Int.sub_zero], HP.out.1, grw_set (grw_set (grw_set (grw_set hGq (.inr hRw)) (.inr hRw)) (.inr hRw)) (.inr hRw), i8, (((hSq.other (Ne.symm hRg) hbR).other (Ne.symm hRg) hbR).other (Ne.symm hRg) hbR).other (Ne.symm hRg) hbR⟩
      obtain ⟨e0, e1, e2, e3, _, _, _, _⟩ := (((hRq.set0 f).set1 (105 * x9)).set2 0).set3 (840 - (105 * x9))
      generalize ((((W9.setCell ⟨R, 0, none⟩ (.int .i64 f)).setCell ⟨R, 1, none⟩ (.int .i64 (105 * x9))).setCell ⟨R, 2, none⟩ (.int .i64 0)).setCell ⟨R, 3, none⟩ (.int .i64 (840 - (105 * x9)))) = W at e0 e1 e2 e3 ⊢
      simp [results, Tryz.results36, go_sem, e0, e1, e2, e3]
    · by_cases hy1' : y = 1
      · subst hy1'
        have hmod : x.tmod 105 = x % 105 := Int.tmod_eq_emod_of_nonneg hy0
        obtain ⟨u, hu⟩ : ∃ u, x - x % 105 = u := ⟨_, rfl⟩
        have hu0 : 0 ≤ u := by omega
        have hux : u ≤ x := by omega
        obtain ⟨p, hp, hpv⟩ := FIN.out f (105 * x9) u hf0 hf1 (by omega) (by omega) (by omega)
        have HP := Lib.hid (And.intro hp hpv)
        clear hp hpv
        go_wp2
        have hRq : PlAt ((w8.setCell ⟨Q, 2, none⟩ (.int .i64 u)).setCell ⟨Q, 3, none⟩ (.int .i64 (840 - (105 * x9) - u))) R 0 0 0 0 := (HR.out.set hRQ).set hRQ
        have hSq : SrcAt ((w8.setCell ⟨Q, 2, none⟩ (.int .i64 u)).setCell ⟨Q, 3, none⟩ (.int .i64 (840 - (105 * x9) - u))) g b n i8 := (H8.out.other (Ne.symm hQg) hbQ).other (Ne.symm hQg) hbQ
        have hGq : w.grownBy ((w8.setCell ⟨Q, 2, none⟩ (.int .i64 u)).setCell ⟨Q, 3, none⟩ (.int .i64 (840 - (105 * x9) - u))) (some g) := grw_set (grw_set HG.out (.inr hQw)) (.inr hQw)
        clear c0 c1 c2 c3 z0 z1 z2 z3 r0 r1 r2 r3 s0 s1 s2 s3 HQ HR HG H8
        generalize ((w8.setCell ⟨Q, 2, none⟩ (.int .i64 u)).setCell ⟨Q, 3, none⟩ (.int .i64 (840 - (105 * x9) - u))) = W9 at *
        refine bodyPost_ret (v := .agg #[.int .i64 f, .int .i64 (105 * x9), .int .i64 u, .int .i64 (840 - (105 * x9) - u)]) ?_ rfl ⟨p, by rw [HP.out.2], HP.out.1, grw_set (grw_set (grw_set (grw_set hGq (.inr hRw)) (.inr hRw)) (.inr hRw)) (.inr hRw), i8, (((hSq.other (Ne.symm hRg) hbR).other (Ne.symm hRg) hbR).other (Ne.symm hRg) hbR).other (Ne.symm hRg) hbR⟩
        obtain ⟨e0, e1, e2, e3, _, _, _, _⟩ := (((hRq.set0 f).set1 (105 * x9)).set2 u).set3 (840 - (105 * x9) - u)
        generalize ((((W9.setCell ⟨R, 0, none⟩ (.int .i64 f)).setCell ⟨R, 1, none⟩ (.int .i64 (105 * x9))).setCell ⟨R, 2, none⟩ (.int .i64 u)).setCell ⟨R, 3, none⟩ (.int .i64 (840 - (105 * x9) - u))) = W at e0 e1 e2 e3 ⊢
        simp [results, Tryz.results36, go_sem, e0, e1, e2, e3]
      · have hb0 : (y == 0) = false := by rw [beq_eq_false_iff_ne]; omega
        have hb1 : (y == 1) = false := by rw [beq_eq_false_iff_ne]; omega
        obtain ⟨p, hp, hpv⟩ := FIN.out f (105 * x9) x hf0 hf1 (by omega) (by omega) (by omega)
        have HP := Lib.hid (And.intro hp hpv)
        clear hp hpv
        go_wp2
        have hRq : PlAt (w8.setCell ⟨Q, 3, none⟩ (.int .i64 (840 - (105 * x9) - x))) R 0 0 0 0 := HR.out.set hRQ
        have hSq : SrcAt (w8.setCell ⟨Q, 3, none⟩ (.int .i64 (840 - (105 * x9) - x))) g b n i8 := H8.out.other (Ne.symm hQg) hbQ
        have hGq : w.grownBy (w8.setCell ⟨Q, 3, none⟩ (.int .i64 (840 - (105 * x9) - x))) (some g) := grw_set HG.out (.inr hQw)
        clear c0 c1 c2 c3 z0 z1 z2 z3 r0 r1 r2 r3 s0 s1 s2 s3 HQ HR HG H8
        generalize (w8.setCell ⟨Q, 3, none⟩ (.int .i64 (840 - (105 * x9) - x))) = W9 at *
        refine bodyPost_ret (v := .agg #[.int .i64 f, .int .i64 (105 * x9), .int .i64 x, .int .i64 (840 - (105 * x9) - x)]) ?_ rfl ⟨p, by rw [HP.out.2], HP.out.1, grw_set (grw_set (grw_set (grw_set hGq (.inr hRw)) (.inr hRw)) (.inr hRw)) (.inr hRw), i8, (((hSq.other (Ne.symm hRg) hbR).other (Ne.symm hRg) hbR).other (Ne.symm hRg) hbR).other (Ne.symm hRg) hbR⟩
        obtain ⟨e0, e1, e2, e3, _, _, _, _⟩ := (((hRq.set0 f).set1 (105 * x9)).set2 x).set3 (840 - (105 * x9) - x)
        generalize ((((W9.setCell ⟨R, 0, none⟩ (.int .i64 f)).setCell ⟨R, 1, none⟩ (.int .i64 (105 * x9))).setCell ⟨R, 2, none⟩ (.int .i64 x)).setCell ⟨R, 3, none⟩ (.int .i64 (840 - (105 * x9) - x))) = W at e0 e1 e2 e3 ⊢
        simp [results, Tryz.results36, go_sem, e0, e1, e2, e3]
  · have hb4 : (x4 == 0) = false := by rw [beq_eq_false_iff_ne]; exact hx4
    obtain ⟨c0, c1, c2, c3, z0, z1, z2, z3⟩ := hQ
    have HQ : Hid (PlAt w4 Q f a 0 0) := Lib.hid ⟨c0, c1, c2, c3, z0, z1, z2, z3⟩
    have HR := Lib.hid hR
    clear hR
    go_wp2_with fail
    refine (srcN_any _ g b n i4 (840 - a + 1) h4 (by omega) (by omega)).mono ?_
    rintro e w6 ⟨x, rfl, hy0, hy1, hg6, i6, h6⟩
    have hQ6 := HQ.out.grown hg6 hQg
    have hR6 := HR.out.grown hg6 hRg
    have hG6 := hG.trans hg6
    clear hg6 HQ HR c0 c1 c2 c3 z0 z1 z2 z3 hG h4
    obtain ⟨c0, c1, c2, c3, z0, z1, z2, z3⟩ := hQ6
    have HQ : Hid (PlAt w6 Q f a 0 0) := Lib.hid ⟨c0, c1, c2, c3, z0, z1, z2, z3⟩
    have HR := Lib.hid hR6
    clear hR6
    go_wp2_with fail
    have hQ7 := HQ.out.set2 x
    have hR7 : PlAt (w6.setCell ⟨Q, 2, none⟩ (.int .i64 x)) R 0 0 0 0 := HR.out.set hRQ
    have h7 : SrcAt (w6.setCell ⟨Q, 2, none⟩ (.int .i64 x)) g b n i6 := h6.other (Ne.symm hQg) hbQ
    have hG7 : w.grownBy (w6.setCell ⟨Q, 2, none⟩ (.int .i64 x)) (some g) := grw_set hG6 (.inr hQw)
    clear c0 c1 c2 c3 z0 z1 z2 z3 HQ HR h6 hG6
    generalize (w6.setCell ⟨Q, 2, none⟩ (.int .i64 x)) = W7 at *
    clear w6
    refine (srcN_any W7 g b n i6 4 h7 (by omega) (by omega)).mono ?_
    rintro e w8 ⟨y, rfl, hv0, hv1, hg8, i8, h8⟩
    have hQ8 := hQ7.grown hg8 hQg
    have hR8 := hR7.grown hg8 hRg
    have hG8 := hG7.trans hg8
    clear hg8 hQ7 hR7 hG7 h7
    clear W7
    have HQ := Lib.hid hQ8
    have HR := Lib.hid hR8
    obtain ⟨c0, c1, c2, c3, z0, z1, z2, z3⟩ := hQ8
    obtain ⟨r0, r1, r2, r3, s0, s1, s2, s3⟩ := hR8
    have HG := Lib.hid hG8
    have H8 := Lib.hid h8
    clear hG8 h8
    by_cases hy : y = 0
    · subst hy
      obtain ⟨p, hp, hpv⟩ := FIN.out f a 0 hf0 hf1 (by omega) (by omega) (by omega)
      have HP := Lib.hid (And.intro hp hpv)
      clear hp hpv
      go_wp2
      have hRq : PlAt ((w8.setCell ⟨Q, 2, none⟩ (.int .i64 0)).setCell ⟨Q, 3, none⟩ (.int .i64 (840 - a))) R 0 0 0 0 := (HR.out.set hRQ).set hRQ
      have hSq : SrcAt ((w8.setCell ⟨Q, 2, none⟩ (.int .i64 0)).setCell ⟨Q, 3, none⟩ (.int .i64 (840 - a))) g b n i8 := (H8.out.other (Ne.symm hQg) hbQ).other (Ne.symm hQg) hbQ
      have hGq : w.grownBy ((w8.setCell ⟨Q, 2, none⟩ (.int .i64 0)).setCell ⟨Q, 3, none⟩ (.int .i64 (840 - a))) (some g) := grw_set (grw_set HG.out (.inr hQw)) (.inr hQw)
      clear c0 c1 c2 c3 z0 z1 z2 z3 r0 r1 r2 r3 s0 s1 s2 s3 HQ HR HG H8
      generalize ((w8.setCell ⟨Q, 2, none⟩ (.int .i64 0)).setCell ⟨Q, 3, none⟩ (.int .i64 (840 - a))) = W9 at *
      refine bodyPost_ret (v := .agg #[.int .i64 f, .int .i64 a, .int .i64 0, .int .i64 (840 - a)]) ?_ rfl ⟨p, by rw [HP.out.2, Int.sub_zero], HP.out.1, grw_set (grw_set (grw_set (grw_set hGq (.inr hRw)) (.inr hRw)) (.inr hRw)) (.inr hRw), i8, (((hSq.other (Ne.symm hRg) hbR).other (Ne.symm hRg) hbR).other (Ne.symm hRg) hbR).other (Ne.symm hRg) hbR⟩
      obtain ⟨e0, e1, e2, e3, _, _, _, _⟩ := (((hRq.set0 f).set1 a).set2 0).set3 (840 - a)
      generalize ((((W9.setCell ⟨R, 0, none⟩ (.int .i64 f)).setCell ⟨R, 1, none⟩ (.int .i64 a)).setCell ⟨R, 2, none⟩ (.int .i64 0)).setCell ⟨R, 3, none⟩ (.int .i64 (840 - a))) = W at e0 e1 e2 e3 ⊢
      simp [results, Tryz.results36, go_sem, e0, e1, e2, e3]
    · by_cases hy1' : y = 1
      · subst hy1'
        have hmod : x.tmod 105 = x % 105 := Int.tmod_eq_emod_of_nonneg hy0
        obtain ⟨u, hu⟩ : ∃ u, x - x % 105 = u := ⟨_, rfl⟩
        have hu0 : 0 ≤ u := by omega
        have hux : u ≤ x := by omega
        obtain ⟨p, hp, hpv⟩ := FIN.out f a u hf0 hf1 (by omega) (by omega) (by omega)
        have HP := Lib.hid (And.intro hp hpv)
        clear hp hpv
        go_wp2
        have hRq : PlAt ((w8.setCell ⟨Q, 2, none⟩ (.int .i64 u)).setCell ⟨Q, 3, none⟩ (.int .i64 (840 - a - u))) R 0 0 0 0 := (HR.out.set hRQ).set hRQ
        have hSq : SrcAt ((w8.setCell ⟨Q, 2, none⟩ (.int .i64 u)).setCell ⟨Q, 3, none⟩ (.int .i64 (840 - a - u))) g b n i8 := (H8.out.other (Ne.symm hQg) hbQ).other (Ne.symm hQg) hbQ
        have hGq : w.grownBy ((w8.setCell ⟨Q, 2, none⟩ (.int .i64 u)).setCell ⟨Q, 3, none⟩ (.int .i64 (840 - a - u))) (some g) := grw_set (grw_set HG.out (.inr hQw)) (.inr hQw)
        clear c0 c1 c2 c3 z0 z1 z2 z3 r0 r1 r2 r3 s0 s1 s2 s3 HQ HR HG H8
        generalize ((w8.setCell ⟨Q, 2, none⟩ (.int .i64 u)).setCell ⟨Q, 3, none⟩ (.int .i64 (840 - a - u))) = W9 at *
        refine bodyPost_ret (v := .agg #[.int .i64 f, .int .i64 a, .int .i64 u, .int .i64 (840 - a - u)]) ?_ rfl ⟨p, by rw [HP.out.2], HP.out.1, grw_set (grw_set (grw_set (grw_set hGq (.inr hRw)) (.inr hRw)) (.inr hRw)) (.inr hRw), i8, (((hSq.other (Ne.symm hRg) hbR).other (Ne.symm hRg) hbR).other (Ne.symm hRg) hbR).other (Ne.symm hRg) hbR⟩
        obtain ⟨e0, e1, e2, e3, _, _, _, _⟩ := (((hRq.set0 f).set1 a).set2 u).set3 (840 - a - u)
        generalize ((((W9.setCell ⟨R, 0, none⟩ (.int .i64 f)).setCell ⟨R, 1, none⟩ (.int .i64 a)).setCell ⟨R, 2, none⟩ (.int .i64 u)).setCell ⟨R, 3, none⟩ (.int .i64 (840 - a - u))) = W at e0 e1 e2 e3 ⊢
        simp [results, Tryz.results36, go_sem, e0, e1, e2, e3]
      · have hb0 : (y == 0) = false := by rw [beq_eq_false_iff_ne]; omega
        have hb1 : (y == 1) = false := by rw [beq_eq_false_iff_ne]; omega
        obtain ⟨p, hp, hpv⟩ := FIN.out f a x hf0 hf1 (by omega) (by omega) (by omega)
        have HP := Lib.hid (And.intro hp hpv)
        clear hp hpv
        go_wp2
        have hRq : PlAt (w8.setCell ⟨Q, 3, none⟩ (.int .i64 (840 - a - x))) R 0 0 0 0 := HR.out.set hRQ
        have hSq : SrcAt (w8.setCell ⟨Q, 3, none⟩ (.int .i64 (840 - a - x))) g b n i8 := H8.out.other (Ne.symm hQg) hbQ
        have hGq : w.grownBy (w8.setCell ⟨Q, 3, none⟩ (.int .i64 (840 - a - x))) (some g) := grw_set HG.out (.inr hQw)
        clear c0 c1 c2 c3 z0 z1 z2 z3 r0 r1 r2 r3 s0 s1 s2 s3 HQ HR HG H8
        generalize (w8.setCell ⟨Q, 3, none⟩ (.int .i64 (840 - a - x))) = W9 at *
        refine bodyPost_ret (v := .agg #[.int .i64 f, .int .i64 a, .int .i64 x, .int .i64 (840 - a - x)]) ?_ rfl ⟨p, by rw [HP.out.2], HP.out.1, grw_set (grw_set (grw_set (grw_set hGq (.inr hRw)) (.inr hRw)) (.inr hRw)) (.inr hRw), i8, (((hSq.other (Ne.symm hRg) hbR).other (Ne.symm hRg) hbR).other (Ne.symm hRg) hbR).other (Ne.symm hRg) hbR⟩
        obtain ⟨e0, e1, e2, e3, _, _, _, _⟩ := (((hRq.set0 f).set1 a).set2 x).set3 (840 - a - x)
        generalize ((((W9.setCell ⟨R, 0, none⟩ (.int .i64 f)).setCell ⟨R, 1, none⟩ (.int .i64 a)).setCell ⟨R, 2, none⟩ (.int .i64 x)).setCell ⟨R, 3, none⟩ (.int .i64 (840 - a - x))) = W at e0 e1 e2 e3 ⊢
        simp [results, Tryz.results36, go_sem, e0, e1, e2, e3]
end Go.Proofs.YtlfhildbjipheaaGreatDoor
