import Derived.Test.YtpbfgnffkhabnaaDoorWide
import Derived.Test.YtpbfgnffkhabnaaDoorLaidAdd
set_option linter.unusedSimpArgs false
set_option linter.unusedVariables false
namespace Go.Proofs.YtpbfgnffkhabnaaDoor
open Go.RowKit

theorem add64_any (x y c : Nat) (hc : c ≤ 1) (w : World) :
    (callFunc 67 #[.int .u64 x, .int .u64 y, .int .u64 c]).run Tryd.prog w =
      .ok (.value (.tuple #[.int .u64 (((x + y + c) % 18446744073709551616 : Nat) : Int), .int .u64 (((x + y + c) / 18446744073709551616 : Nat) : Int)])) w :=
  Any7.bits_Add64 Tryd.laysAdd x y c hc w

/-- The integer of 128 bits that p leaves. -/
def wv (p : Int) : Value := .agg #[.int .i64 (wrap64 (p / 18446744073709551616)), .int .u64 (p % 18446744073709551616)]
theorem wv_of (h l : Int) (h1 : -9223372036854775808 ≤ h) (h2 : h ≤ 9223372036854775807) (l1 : 0 ≤ l) (l2 : l < 18446744073709551616) :
    (.agg #[.int .i64 h, .int .u64 l] : Value) = wv (h * 18446744073709551616 + l) := by
  have e1 : (h * 18446744073709551616 + l) / 18446744073709551616 = h := by omega
  have e2 : (h * 18446744073709551616 + l) % 18446744073709551616 = l := by omega
  have e3 : wrap64 h = h := by unfold wrap64; omega
  unfold wv; rw [e1, e2, e3]
theorem wv_add (h1 h2 : Int) (l1 l2 : Int) (p q : Int) (e1 : h1 = wrap64 (p / 18446744073709551616)) (e2 : h2 = wrap64 (q / 18446744073709551616))
    (f1 : l1 = p % 18446744073709551616) (f2 : l2 = q % 18446744073709551616) :
    (.agg #[.int .i64 (wrap64 (wrap64 (h1 + h2) + wrap64 ((l1 + l2) / 18446744073709551616))), .int .u64 ((l1 + l2) % 18446744073709551616)] : Value) = wv (p + q) := by
  have g1 : wrap64 (wrap64 (h1 + h2) + wrap64 ((l1 + l2) / 18446744073709551616)) = wrap64 ((p + q) / 18446744073709551616) := by
    subst e1 e2; unfold wrap64; omega
  have g2 : (l1 + l2) % 18446744073709551616 = (p + q) % 18446744073709551616 := by omega
  unfold wv; rw [g1, g2]
theorem not_i64 (x : Int) (h1 : -9223372036854775808 ≤ x) (h2 : x ≤ 9223372036854775807) : bits .xor .i64 (-1) x = -x - 1 := by
  show IntKind.i64.wrap ((BitVec.ofInt 64 (-1) ^^^ BitVec.ofInt 64 x).toNat : Int) = _
  have e1 : BitVec.ofInt 64 (-1) = BitVec.allOnes 64 := by decide
  rw [e1, BitVec.allOnes_xor, BitVec.toNat_not, BitVec.toNat_ofInt, IntKind.wrap_i64]
  omega
theorem not_u64 (x : Int) (h1 : 0 ≤ x) (h2 : x < 18446744073709551616) : bits .xor .u64 IntKind.u64.max x = 18446744073709551615 - x := by
  show IntKind.u64.wrap ((BitVec.ofInt 64 IntKind.u64.max ^^^ BitVec.ofInt 64 x).toNat : Int) = _
  have e1 : BitVec.ofInt 64 IntKind.u64.max = BitVec.allOnes 64 := by decide
  rw [e1, BitVec.allOnes_xor, BitVec.toNat_not, BitVec.toNat_ofInt, IntKind.wrap_u64]
  omega
theorem wrap64_range (x : Int) : -9223372036854775808 ≤ wrap64 x ∧ wrap64 x ≤ 9223372036854775807 := by unfold wrap64; omega
theorem wv_neg (p : Int) : (.agg #[.int .i64 (bits BinOp.xor IntKind.i64 (-1) (wrap64 (p / 18446744073709551616))), .int .u64 (bits BinOp.xor IntKind.u64 IntKind.u64.max (p % 18446744073709551616))] : Value) = wv (-p - 1) := by
  rw [not_i64 _ (wrap64_range _).1 (wrap64_range _).2, not_u64 _ (by omega) (by omega)]
  have g1 : -(wrap64 (p / 18446744073709551616)) - 1 = wrap64 ((-p - 1) / 18446744073709551616) := by unfold wrap64; omega
  have g2 : 18446744073709551615 - p % 18446744073709551616 = (-p - 1) % 18446744073709551616 := by omega
  unfold wv; rw [g1, g2]
theorem wv_wide (n : Int) (h1 : -9223372036854775808 ≤ n) (h2 : n ≤ 9223372036854775807) : (.agg #[.int .i64 (n / 9223372036854775808), .int .u64 (IntKind.u64.wrap n)] : Value) = wv n := by
  have g1 : n / 9223372036854775808 = wrap64 (n / 18446744073709551616) := by unfold wrap64; omega
  rw [IntKind.wrap_u64]
  unfold wv; rw [g1]

theorem wv_one : (.agg #[.int .i64 0, .int .u64 1] : Value) = wv 1 := by
  have g1 : wrap64 (1 / 18446744073709551616) = 0 := by unfold wrap64; omega
  have g2 : (1 : Int) % 18446744073709551616 = 1 := by omega
  unfold wv; rw [g1, g2]
theorem wv_zero : (.agg #[.int .i64 0, .int .u64 0] : Value) = wv 0 := by
  have g1 : wrap64 (0 / 18446744073709551616) = 0 := by unfold wrap64; omega
  have g2 : (0 : Int) % 18446744073709551616 = 0 := by omega
  unfold wv; rw [g1, g2]
theorem wv_add_neg (p : Int) : wv (-p - 1 + 1) = .agg #[.int .i64 (wrap64 (-p / 18446744073709551616)), .int .u64 (-p % 18446744073709551616)] := by
  rw [show -p - 1 + 1 = -p by omega]; rfl

set_option maxRecDepth 100000 in
set_option maxHeartbeats 400000 in
theorem wide_any (n : Int) (h1 : -9223372036854775808 ≤ n) (h2 : n ≤ 9223372036854775807) (w : World) :
    Calls Tryd.prog 34 #[.int .i64 n] w fun e w' => e = .returned (wv n) ∧ Below w.heap.size w w' := by
  have K := Lib.hid (wv_wide n h1 h2)
  go_enter Tryd.func34, Tryd.ntmps34
  go_wp2
  refine bodyPost_ret (v := .agg #[.int .i64 (n / 9223372036854775808), .int .u64 (IntKind.u64.wrap n)]) ?_ rfl ⟨by rw [K.out], ?_⟩
  · simp [results, Tryd.results34, go_sem]
  · exact (by repeat (first | assumption | (with_reducible exact Below.refl _ _) | (with_reducible refine Below.setCell ?_ (by first | omega | (simp; done) | (simp; omega)) _) | (with_reducible refine Below.alloc ?_ (by first | omega | (simp; done) | (simp; omega)) _) | (with_reducible apply Below.drew)))

set_option maxRecDepth 100000 in
set_option maxHeartbeats 400000 in
theorem add_any (p q : Int) (w : World) :
    Calls Tryd.prog 30 #[wv p, wv q] w fun e w' => e = .returned (wv (p + q)) ∧ Below w.heap.size w w' := by
  obtain ⟨l1, hl1⟩ := Int.eq_ofNat_of_zero_le (show 0 ≤ p % 18446744073709551616 by omega)
  obtain ⟨l2, hl2⟩ := Int.eq_ofNat_of_zero_le (show 0 ≤ q % 18446744073709551616 by omega)
  have K := Lib.hid (wv_add _ _ l1 l2 p q rfl rfl hl1.symm hl2.symm)
  rw [show wv p = .agg #[.int .i64 (wrap64 (p / 18446744073709551616)), .int .u64 (l1 : Int)] by rw [← hl1]; rfl,
    show wv q = .agg #[.int .i64 (wrap64 (q / 18446744073709551616)), .int .u64 (l2 : Int)] by rw [← hl2]; rfl]
  generalize wv (p + q) = R at *
  generalize wrap64 (p / 18446744073709551616) = a at *
  generalize wrap64 (q / 18446744073709551616) = b at *
  clear hl1 hl2
  go_enter Tryd.func30, Tryd.ntmps30
  go_wp2_with (simp only [show ((0 : Int)) = ((0 : Nat) : Int) from rfl, add64_any _ _ 0 (by omega)])
  refine bodyPost_ret (v := .agg #[.int .i64 (wrap64 (wrap64 (a + b) + wrap64 (((l1 : Int) + (l2 : Int)) / 18446744073709551616))), .int .u64 (((l1 : Int) + (l2 : Int)) % 18446744073709551616)]) ?_ rfl ⟨by rw [K.out], ?_⟩
  · simp [results, Tryd.results30, go_sem]
  · exact (by repeat (first | assumption | (with_reducible exact Below.refl _ _) | (with_reducible refine Below.setCell ?_ (by first | omega | (simp; done) | (simp; omega)) _) | (with_reducible refine Below.alloc ?_ (by first | omega | (simp; done) | (simp; omega)) _) | (with_reducible apply Below.drew)))

theorem add_at (v u : Value) (p q : Int) (hv : v = wv p) (hu : u = wv q) (w : World) :
    Calls Tryd.prog 30 #[v, u] w fun e w' => e = .returned (wv (p + q)) ∧ Below w.heap.size w w' := by
  subst hv hu; exact add_any p q w

set_option maxRecDepth 100000 in
set_option maxHeartbeats 400000 in
theorem negate_any (p : Int) (w : World) :
    Calls Tryd.prog 32 #[wv p] w fun e w' => e = .returned (wv (-p)) ∧ Below w.heap.size w w' := by
  have K := Lib.hid (wv_neg p)
  rw [show wv p = .agg #[.int .i64 (wrap64 (p / 18446744073709551616)), .int .u64 (p % 18446744073709551616)] from rfl]
  generalize hA : wrap64 (p / 18446744073709551616) = A at *
  generalize hB : p % 18446744073709551616 = B at *
  clear hA hB
  have K2 := Lib.hid (wv_add_neg p)
  have K3 : Hid (wv (-p) = .agg #[.int .i64 (wrap64 (-p / 18446744073709551616)), .int .u64 (-p % 18446744073709551616)]) := Lib.hid rfl
  generalize wrap64 (-p / 18446744073709551616) = C at *
  generalize (-p % 18446744073709551616) = D at *
  generalize wv (-p) = R at *
  go_enter Tryd.func32, Tryd.ntmps32
  go_wp2_with fail
  refine (add_at _ _ (-p - 1) 1 K.out wv_one _).mono ?_
  rintro e w1 ⟨rfl, hB⟩
  rw [K2.out]
  have b0 : w1.cell? ⟨w.heap.size + 1, 0, none⟩ = some (.int .i64 0) := RX.keep hB (by simp [RX.cell_drew, RX.cell_alloc, Nat.add_assoc])
  have b1 : w1.cell? ⟨w.heap.size + 1, 1, none⟩ = some (.int .u64 0) := RX.keep hB (by simp [RX.cell_drew, RX.cell_alloc, Nat.add_assoc])
  have f0 : w1.frozen? ⟨w.heap.size + 1, 0, none⟩ = false := (hB.frozen (by simp)).trans (by simp [RX.frozen_alloc])
  have f1 : w1.frozen? ⟨w.heap.size + 1, 1, none⟩ = false := (hB.frozen (by simp)).trans (by simp [RX.frozen_alloc])
  have hs := hB.size
  have hBB : Below w.heap.size w w1 := Below.trans (by repeat (first | assumption | (with_reducible exact Below.refl _ _) | (with_reducible refine Below.setCell ?_ (by first | omega | (simp; done) | (simp; omega)) _) | (with_reducible refine Below.alloc ?_ (by first | omega | (simp; done) | (simp; omega)) _) | (with_reducible apply Below.drew))) (hB.mono (by simp; omega))
  clear hB
  go_wp2
  refine bodyPost_ret (v := .agg #[.int .i64 C, .int .u64 D]) ?_ rfl ⟨by rw [K3.out], ?_⟩
  · have g0 : ((w1.setCell ⟨w.heap.size + 1, 0, none⟩ (.int .i64 C)).setCell ⟨w.heap.size + 1, 1, none⟩ (.int .u64 D)).cell? ⟨w.heap.size + 1, 0, none⟩ = some (.int .i64 C) := by
      rw [World.cell?_setCell_other _ _ _ _ (by simp)]; exact World.cell?_setCell_same' _ _ _ (by rw [b0]; rfl)
    have g1 : ((w1.setCell ⟨w.heap.size + 1, 0, none⟩ (.int .i64 C)).setCell ⟨w.heap.size + 1, 1, none⟩ (.int .u64 D)).cell? ⟨w.heap.size + 1, 1, none⟩ = some (.int .u64 D) :=
      World.cell?_setCell_same' _ _ _ (by rw [World.cell?_setCell_other _ _ _ _ (by simp), b1]; rfl)
    generalize (w1.setCell ⟨w.heap.size + 1, 0, none⟩ (.int .i64 C)).setCell ⟨w.heap.size + 1, 1, none⟩ (.int .u64 D) = W at g0 g1 ⊢
    simp [results, Tryd.results32, go_sem, g0, g1]
  · exact (hBB.setCell (by simp) _).setCell (by simp) _
end Go.Proofs.YtpbfgnffkhabnaaDoor
