import Derived.Test.YtpbfgnffkhabnaaDoorProg
import Derived.Test.YtpbfgnffkhabnaaDoorKRegion
import Derived.WalkKit
import Derived.WalkLawsBesides
import Derived.WalkSpells
import Derived.Lib.Hide
import Derived.Maps.AppendAt
set_option linter.unusedSimpArgs false
set_option linter.unusedVariables false
namespace Go.Proofs.YtpbfgnffkhabnaaDoor
open Go.RowKit

/-- The source of numbers at block g, over the list in block b: n numbers, at place i. -/
structure SrcAt (w : World) (g b n i : Nat) : Prop where
  hp : ∃ p cap o, w.cell? ⟨g, 0, none⟩ = some (.slice p n cap) ∧ (0 < n → p = some ⟨b, o, none⟩) ∧ ∀ k, k < n → ∃ x : Int, w.cell? ⟨b, o + k, none⟩ = some (.int .i64 x) ∧ -9223372036854775808 ≤ x ∧ x ≤ 9223372036854775807
  hi : w.cell? ⟨g, 1, none⟩ = some (.int .i64 i)
  hf : w.frozen? ⟨g, 1, none⟩ = false
  hle : i ≤ n
  hlen : n ≤ 2000
  hgb : g ≠ b

theorem SrcAt.kept {w w' : World} {g b n i : Nat} (h : SrcAt w g b n i) (hg : w'.heap[g]? = w.heap[g]?) (hb : 0 < n → w'.heap[b]? = w.heap[b]?) : SrcAt w' g b n i where
  hp := by
    obtain ⟨p, cap, o, h1, h2, h3⟩ := h.hp
    exact ⟨p, cap, o, (World.cell?_of_block hg).trans h1, h2, fun k hk => by
      obtain ⟨x, hx, h4⟩ := h3 k hk
      exact ⟨x, (World.cell?_of_block (hb (by omega))).trans hx, h4⟩⟩
  hi := (World.cell?_of_block hg).trans h.hi
  hf := (World.frozen?_of_block hg).trans h.hf
  hle := h.hle
  hlen := h.hlen
  hgb := h.hgb
theorem SrcAt.lt {w : World} {g b n i : Nat} (h : SrcAt w g b n i) : g < w.heap.size := World.block_lt_of_cell? w _ h.hi
theorem SrcAt.ltb {w : World} {g b n i : Nat} (h : SrcAt w g b n i) (h0 : 0 < n) : b < w.heap.size := by
  obtain ⟨p, cap, o, _, _, h3⟩ := h.hp
  obtain ⟨x, hx, _⟩ := h3 0 h0
  exact World.block_lt_of_cell? w _ hx
theorem SrcAt.below {w w' : World} {g b n i : Nat} (h : SrcAt w g b n i) (hb : Below w.heap.size w w') : SrcAt w' g b n i :=
  h.kept (hb.block _ h.lt) (fun h0 => hb.block _ (h.ltb h0))
theorem SrcAt.grown' {w w' : World} {g b n i k : Nat} (h : SrcAt w g b n i) (hb : w.grownBy w' (some k)) (h1 : g ≠ k) (h2 : 0 < n → b ≠ k) : SrcAt w' g b n i :=
  h.kept (hb.block _ h.lt (by simpa using h1)) (fun h0 => hb.block _ (h.ltb h0) (by simpa using h2 h0))
theorem SrcAt.set {w : World} {g b n i : Nat} (h : SrcAt w g b n i) (j : Nat) (hj : j ≤ n) : SrcAt (w.setCell ⟨g, 1, none⟩ (.int .i64 j)) g b n j where
  hp := by
    obtain ⟨p, cap, o, h1, h2, h3⟩ := h.hp
    exact ⟨p, cap, o, (World.cell?_setCell_other _ _ _ _ (by simp)).trans h1, h2, fun k hk => by
      obtain ⟨x, hx, h4⟩ := h3 k hk
      exact ⟨x, (World.cell?_setCell_other _ _ _ _ (by have := h.hgb; simp [Ne.symm this])).trans hx, h4⟩⟩
  hi := World.cell?_setCell_same' _ _ _ (by rw [h.hi]; rfl)
  hf := by rw [World.frozen?_setCell]; exact h.hf
  hle := hj
  hlen := h.hlen
  hgb := h.hgb
theorem src_setCell (w : World) (g k : Nat) (v : Value) : w.grownBy (w.setCell ⟨g, k, none⟩ v) (some g) :=
  ⟨by simp [World.setCell], by simp [World.setCell], by simp [World.setCell], by simp [World.setCell], fun j _ hj => Below.heap_setCell _ _ _ j (fun e => hj (by rw [e]))⟩

set_option maxHeartbeats 1000000 in
/-- The next number as it is: some int; only the source has turned. -/
theorem raw_any (w : World) (g b n i : Nat) (h : SrcAt w g b n i) :
    Calls Tryd.prog 65 #[.pointer (some ⟨g, 0, none⟩)] w fun e w' => ∃ x : Int, e = .returned (.int .i64 x) ∧ -9223372036854775808 ≤ x ∧ x ≤ 9223372036854775807 ∧ w.grownBy w' (some g) ∧ ∃ j, SrcAt w' g b n j := by
  obtain ⟨p, cap, o, hp, hpp, hcc⟩ := h.hp
  have hi := h.hi
  have hf := h.hf
  have hle := h.hle
  have hlen := h.hlen
  have hgb := h.hgb
  by_cases hl : i < n
  · obtain rfl := hpp (by omega)
    obtain ⟨x, hc, hx1, hx2⟩ := hcc i hl
    clear hcc
    go_enter Tryd.func65, Tryd.ntmps65
    go_wp2
    refine RX.region RX.fN (fun w' => w' = _) (by kernel_rfl) (by kernel_rfl) rfl (fun OPS HO QR hQR => ?_)
    repeat
      refine RX.step (fun R hR => ?_)
      first
      | (refine RX.one_skip (by first | rfl | (rw [HO.out]; rfl)) (by simp only [RX.put_some, RX.put_none, List.set_cons_zero, List.set_cons_succ]; rfl) ?_
         refine hR _ _ ?_; clear hR R)
      | (refine RX.one_move (by first | rfl | (rw [HO.out]; rfl)) rfl (by first | exact Or.inl rfl | exact Or.inr rfl) (by simp only [RX.eval_tmp, RX.eval_const, List.getD_cons_zero, List.getD_cons_succ]; rfl) (by simp only [RX.put_some, RX.put_none, List.set_cons_zero, List.set_cons_succ]; rfl) ?_
         refine hR _ _ ?_; clear hR R)
      | (refine RX.one_nil (by first | rfl | (rw [HO.out]; rfl)) rfl rfl (by simp only [RX.eval_tmp, RX.eval_const, List.getD_cons_zero, List.getD_cons_succ]; rfl) (by simp only [RX.put_some, RX.put_none, List.set_cons_zero, List.set_cons_succ]; rfl) ?_
         refine hR _ _ ?_; clear hR R)
      | (refine RX.one_float (by first | rfl | (rw [HO.out]; rfl)) rfl rfl rfl ?_
         apply Exists.intro; apply Exists.intro
         refine ⟨fun w' hS K hK => ?_, ?_, ?_⟩
         · subst hS; go_wp2; exact hK _ _ (by simp only [RX.arr_getD, List.getD_cons_zero, List.getD_cons_succ]; first | exact RX.dec_t (by omega) | exact RX.dec_f (by omega) | exact RX.beq_t (by omega) | exact RX.beq_f (by omega) | exact RX.bne_t (by omega) | exact RX.bne_f (by omega) | exact RX.bneB _ | rfl) rfl
         · simp only [RX.put_some, RX.put_none, List.set_cons_zero, List.set_cons_succ]; rfl
         refine hR _ _ ?_; clear hR R)
    refine RX.wpL_nil (hQR _ _ rfl ?_); clear hQR QR HO OPS
    have hp' : w.drew.cell? ⟨g, 0, none⟩ = _ := hp
    have hi' : w.drew.cell? ⟨g, 1, none⟩ = _ := hi
    have hc' : w.drew.cell? ⟨b, o + i, none⟩ = _ := hc
    have hf' : w.drew.frozen? ⟨g, 1, none⟩ = _ := hf
    go_wp2
    refine RX.region RX.fN (fun w' => w' = _) (by kernel_rfl) (by kernel_rfl) rfl (fun OPS HO QR hQR => ?_)
    repeat
      refine RX.step (fun R hR => ?_)
      first
      | (refine RX.one_skip (by first | rfl | (rw [HO.out]; rfl)) (by simp only [RX.put_some, RX.put_none, List.set_cons_zero, List.set_cons_succ]; rfl) ?_
         refine hR _ _ ?_; clear hR R)
      | (refine RX.one_move (by first | rfl | (rw [HO.out]; rfl)) rfl (by first | exact Or.inl rfl | exact Or.inr rfl) (by simp only [RX.eval_tmp, RX.eval_const, List.getD_cons_zero, List.getD_cons_succ]; rfl) (by simp only [RX.put_some, RX.put_none, List.set_cons_zero, List.set_cons_succ]; rfl) ?_
         refine hR _ _ ?_; clear hR R)
      | (refine RX.one_nil (by first | rfl | (rw [HO.out]; rfl)) rfl rfl (by simp only [RX.eval_tmp, RX.eval_const, List.getD_cons_zero, List.getD_cons_succ]; rfl) (by simp only [RX.put_some, RX.put_none, List.set_cons_zero, List.set_cons_succ]; rfl) ?_
         refine hR _ _ ?_; clear hR R)
      | (refine RX.one_float (by first | rfl | (rw [HO.out]; rfl)) rfl rfl rfl ?_
         apply Exists.intro; apply Exists.intro
         refine ⟨fun w' hS K hK => ?_, ?_, ?_⟩
         · subst hS; go_wp2; exact hK _ _ (by simp only [RX.arr_getD, List.getD_cons_zero, List.getD_cons_succ]; first | exact RX.dec_t (by omega) | exact RX.dec_f (by omega) | exact RX.beq_t (by omega) | exact RX.beq_f (by omega) | exact RX.bne_t (by omega) | exact RX.bne_f (by omega) | exact RX.bneB _ | rfl) rfl
         · simp only [RX.put_some, RX.put_none, List.set_cons_zero, List.set_cons_succ]; rfl
         refine hR _ _ ?_; clear hR R)
    refine RX.wpL_nil (hQR _ _ rfl ?_); clear hQR QR HO OPS
    go_wp2
    go_ret
    have h1 := src_setCell w.drew g 1 (.int .i64 ((i : Int) + 1))
    have h2 : SrcAt w.drew g b n i := h.kept rfl (fun _ => rfl)
    exact ⟨x, rfl, hx1, hx2, ⟨h1.os, h1.tape, h1.output, h1.size, h1.block⟩, i + 1, SrcAt.kept (w := w.drew.setCell ⟨g, 1, none⟩ (.int .i64 ((i + 1 : Nat) : Int))) (h2.set (i + 1) hl) rfl (fun _ => rfl)⟩
  · clear hcc hpp
    go_enter Tryd.func65, Tryd.ntmps65
    go_wp2
    refine RX.region RX.fN (fun w' => w' = _) (by kernel_rfl) (by kernel_rfl) rfl (fun OPS HO QR hQR => ?_)
    repeat
      refine RX.step (fun R hR => ?_)
      first
      | (refine RX.one_skip (by first | rfl | (rw [HO.out]; rfl)) (by simp only [RX.put_some, RX.put_none, List.set_cons_zero, List.set_cons_succ]; rfl) ?_
         refine hR _ _ ?_; clear hR R)
      | (refine RX.one_move (by first | rfl | (rw [HO.out]; rfl)) rfl (by first | exact Or.inl rfl | exact Or.inr rfl) (by simp only [RX.eval_tmp, RX.eval_const, List.getD_cons_zero, List.getD_cons_succ]; rfl) (by simp only [RX.put_some, RX.put_none, List.set_cons_zero, List.set_cons_succ]; rfl) ?_
         refine hR _ _ ?_; clear hR R)
      | (refine RX.one_nil (by first | rfl | (rw [HO.out]; rfl)) rfl rfl (by simp only [RX.eval_tmp, RX.eval_const, List.getD_cons_zero, List.getD_cons_succ]; rfl) (by simp only [RX.put_some, RX.put_none, List.set_cons_zero, List.set_cons_succ]; rfl) ?_
         refine hR _ _ ?_; clear hR R)
      | (refine RX.one_float (by first | rfl | (rw [HO.out]; rfl)) rfl rfl rfl ?_
         apply Exists.intro; apply Exists.intro
         refine ⟨fun w' hS K hK => ?_, ?_, ?_⟩
         · subst hS; go_wp2; exact hK _ _ (by simp only [RX.arr_getD, List.getD_cons_zero, List.getD_cons_succ]; first | exact RX.dec_t (by omega) | exact RX.dec_f (by omega) | exact RX.beq_t (by omega) | exact RX.beq_f (by omega) | exact RX.bne_t (by omega) | exact RX.bne_f (by omega) | exact RX.bneB _ | rfl) rfl
         · simp only [RX.put_some, RX.put_none, List.set_cons_zero, List.set_cons_succ]; rfl
         refine hR _ _ ?_; clear hR R)
    refine RX.wpL_nil (hQR _ _ rfl ?_); clear hQR QR HO OPS
    go_wp2
    go_ret
    exact ⟨0, rfl, by omega, by omega, ⟨rfl, rfl, rfl, Nat.le_refl _, fun _ _ _ => rfl⟩, i, h.kept rfl (fun _ => rfl)⟩
end Go.Proofs.YtpbfgnffkhabnaaDoor
