import Derived.WalkKit
namespace Go.Proofs.Ytgemfgfhdbkgfaa
theorem size_bounds (N W k : Int) (hN : 0 ≤ N) (hW : 0 < W) :
    N / W ≤ (k + 1) * N / W - k * N / W ∧ (k + 1) * N / W - k * N / W ≤ (N + W - 1) / W := by
  have hr0 := Int.emod_nonneg N (Int.ne_of_gt hW)
  have hr1 := Int.emod_lt_of_pos N hW
  have hd := Int.mul_ediv_add_emod N W
  generalize N / W = q at *
  generalize N % W = r at *
  subst hd
  have e1 : (k + 1) * (W * q + r) / W = (k + 1) * q + (k + 1) * r / W := by
    rw [show (k + 1) * (W * q + r) = (k + 1) * r + W * ((k + 1) * q) by
      rw [Int.mul_add, Int.mul_left_comm, Int.add_comm]]
    rw [Int.add_mul_ediv_left _ _ (Int.ne_of_gt hW), Int.add_comm]
  have e2 : k * (W * q + r) / W = k * q + k * r / W := by
    rw [show k * (W * q + r) = k * r + W * (k * q) by
      rw [Int.mul_add, Int.mul_left_comm, Int.add_comm]]
    rw [Int.add_mul_ediv_left _ _ (Int.ne_of_gt hW), Int.add_comm]
  have e3 : (W * q + r + W - 1) / W = q + (r + W - 1) / W := by
    rw [show W * q + r + W - 1 = (r + W - 1) + W * q by omega]
    rw [Int.add_mul_ediv_left _ _ (Int.ne_of_gt hW), Int.add_comm]
  rw [e1, e2, e3]
  have e4 : (k + 1) * q = k * q + q := by rw [Int.add_mul, Int.one_mul]
  have e5 : (k + 1) * r = k * r + r := by rw [Int.add_mul, Int.one_mul]
  rw [e4, e5]
  generalize k * r = s
  have d1 := Int.mul_ediv_add_emod s W
  have d2 := Int.emod_nonneg s (Int.ne_of_gt hW)
  have d3 := Int.emod_lt_of_pos s hW
  generalize s / W = a at *
  generalize s % W = b at *
  subst d1
  have e6 : (W * a + b + r) / W = a + (b + r) / W := by
    rw [show W * a + b + r = (b + r) + W * a by omega]
    rw [Int.add_mul_ediv_left _ _ (Int.ne_of_gt hW), Int.add_comm]
  rw [e6]
  have h1 : 0 ≤ (b + r) / W := Int.ediv_nonneg (by omega) (by omega)
  have h2 : (b + r) / W ≤ 1 := by
    have := Int.ediv_lt_of_lt_mul (a := b + r) (b := 2) hW (by omega)
    omega
  refine ⟨by omega, ?_⟩
  by_cases hr : r = 0
  · subst hr
    have h3 : (b + 0) / W = 0 := by rw [Int.add_zero]; exact Int.ediv_eq_zero_of_lt (by omega) d3
    have h4 : 0 ≤ (0 + W - 1) / W := Int.ediv_nonneg (by omega) (by omega)
    omega
  · have h4 : 1 ≤ (r + W - 1) / W := by
      rw [show r + W - 1 = (r - 1) + W * 1 by omega]
      rw [Int.add_mul_ediv_left _ _ (Int.ne_of_gt hW)]
      have := Int.ediv_nonneg (a := r - 1) (b := W) (by omega) (by omega)
      omega
    omega
end Go.Proofs.Ytgemfgfhdbkgfaa
