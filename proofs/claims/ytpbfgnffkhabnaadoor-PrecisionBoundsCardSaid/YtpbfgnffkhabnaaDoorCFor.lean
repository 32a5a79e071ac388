import Derived.Test.YtpbfgnffkhabnaaDoorKCodes
set_option linter.unusedSimpArgs false
set_option linter.unusedVariables false
namespace Go.Proofs.YtpbfgnffkhabnaaDoor
open Go.RowKit

set_option maxRecDepth 100000 in
set_option maxHeartbeats 400000 in
theorem rnodes_any (f : Int) (w : World) (h1 : 1 ≤ f) (h2 : f ≤ 8) :
    Calls Tryd.prog 50 #[.int .i64 f] w fun e w' => e = .returned (.int .i64 (10 * f * f + 2)) ∧ w = w' := by
  have b1 : 0 ≤ 10 * f * f := Int.mul_nonneg (by omega) (by omega)
  have b2 := Int.mul_le_mul (show 10 * f ≤ 80 by omega) h2 (by omega) (by omega)
  obtain ⟨x, hx⟩ : ∃ x, 10 * f * f = x := ⟨_, rfl⟩
  rw [hx] at b1 b2 ⊢
  go_enter Tryd.func50, Tryd.ntmps50
  go_wp2
  go_ret
  exact ⟨rfl, rfl⟩

theorem Within.mono {m m' : Nat} {zs : List Int} (h : Within m zs) (hm : m ≤ m') : Within m' zs := fun x hx => by have := h x hx; omega

set_option maxRecDepth 100000 in
set_option maxHeartbeats 2000000 in
/-- A vector for a precision. -/
theorem cfor_any (w : World) (g b : Nat) (L : List Int) (i : Nat) (f s a : Int) (h : CodesAt w g b L i) (hb0 : 0 < L.length → b < w.heap.size) (hP : PrC f s a) :
    Calls Tryd.prog 38 #[.pointer (some ⟨g, 0, none⟩), prv f s a] w fun e w' => ∃ v zs, e = .returned v ∧ (zs.length : Int) = 10 * f * f + 2 ∧ Within 1048576 zs ∧ RowV w' w.heap.size v zs ∧ w.grownBy w' (some g) ∧ ∃ j, CodesAt w' g b L j := by
  have hg := h.lt
  obtain ⟨⟨hf1, hf2⟩, _, _⟩ := hP
  have b1 : 0 ≤ 10 * f * f := Int.mul_nonneg (by omega) (by omega)
  have b2 := Int.mul_le_mul (show 10 * f ≤ 20 by omega) hf2 (by omega) (by omega)
  obtain ⟨n, hn⟩ : ∃ n : Nat, 10 * f * f + 2 = n := ⟨(10 * f * f + 2).toNat, by omega⟩
  have hn1 : n ≤ 1000 := by omega
  have HN := Lib.hid hn
  have hpv : Hid (prv f s a = .agg #[.int .i64 f, .int .i64 s, .int .i64 a]) := Lib.hid rfl
  rw [hpv.out]
  clear hn b1 b2
  go_enter Tryd.func38, Tryd.ntmps38
  go_wp2_with fail
  refine (rnodes_any f _ (by omega) (by omega)).mono ?_
  rintro e w0 ⟨rfl, rfl⟩
  rw [HN.out]
  go_wp2_with fail
  have hB : Below w.heap.size w ((w.alloc (.cells #[.int .i64 f, .int .i64 s, .int .i64 a] 69)).alloc (.cells #[.int .i64 20, .int .i64 1000, .int .i64 1048576] 3)) := (by repeat (first | assumption | (with_reducible exact Below.refl _ _) | (with_reducible refine Below.setCell ?_ (by first | omega | (simp; done) | (simp; omega)) _) | (with_reducible refine Below.alloc ?_ (by first | omega | (simp; done) | (simp; omega)) _) | (with_reducible apply Below.drew)))
  have c : ∀ k, k < 3 → ∃ m : Nat, ((w.alloc (.cells #[.int .i64 f, .int .i64 s, .int .i64 a] 69)).alloc (.cells #[.int .i64 20, .int .i64 1000, .int .i64 1048576] 3)).cell? ⟨w.heap.size + 1, k, none⟩ = some (.int .i64 m) ∧ m ≤ 1048576 := by
    intro k hk
    match k, hk with
    | 0, _ => exact ⟨20, (by simp [RX.cell_drew, RX.cell_alloc, Nat.add_assoc]), by omega⟩
    | 1, _ => exact ⟨1000, (by simp [RX.cell_drew, RX.cell_alloc, Nat.add_assoc]), by omega⟩
    | 2, _ => exact ⟨1048576, (by simp [RX.cell_drew, RX.cell_alloc, Nat.add_assoc]), by omega⟩
    | k + 3, hk => omega
  have hC := h.below hB
  have hs0 : ((w.alloc (.cells #[.int .i64 f, .int .i64 s, .int .i64 a] 69)).alloc (.cells #[.int .i64 20, .int .i64 1000, .int .i64 1048576] 3)).heap.size = w.heap.size + 2 := by simp
  generalize ((w.alloc (.cells #[.int .i64 f, .int .i64 s, .int .i64 a] 69)).alloc (.cells #[.int .i64 20, .int .i64 1000, .int .i64 1048576] 3)) = W0 at *
  refine (next_any _ g b L i 3 hC (by omega)).mono ?_
  rintro e w1 ⟨r, rfl, hr, hg1, j, h1⟩
  have hr3 : r < 3 := by omega
  obtain ⟨m, hm, hm1⟩ := c r hr3
  have hc := hg1.cell hm (by simp; omega)
  have hG : w.grownBy w1 (some g) := (grw_below hB _).trans hg1
  have hs1 : w.heap.size ≤ w1.heap.size := hG.size
  clear c hm hg1 hB hC hs0 h
  clear W0
  go_wp2_with fail
  refine (cvec_any w1 g b L j n m h1 (fun h0 => by have := hb0 h0; omega) hn1 (by omega)).mono ?_
  rintro e w2 ⟨v, zs, rfl, hlen, hW, hrow, hg2, j2, h2⟩
  obtain ⟨p, cap, rfl, hcap⟩ := own_slice hrow
  have HR := Lib.hid (And.intro hlen (And.intro hW (And.intro hrow (And.intro (hG.trans hg2) h2))))
  clear hlen hW hrow hg2 h2 hG h1 hc
  go_wp2
  go_ret
  exact ⟨_, zs, rfl, by rw [HR.out.1, ← HN.out], HR.out.2.1.mono (by omega), HR.out.2.2.1.mono hs1, HR.out.2.2.2.1, j2, HR.out.2.2.2.2⟩
end Go.Proofs.YtpbfgnffkhabnaaDoor
