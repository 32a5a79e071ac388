import Derived.Test.YtgemfgfhdbkgfaaWide
set_option linter.unusedSimpArgs false
set_option linter.unusedVariables false
namespace Go.Proofs.Ytgemfgfhdbkgfaa
open Go.RowKit

set_option maxRecDepth 100000 in
set_option maxHeartbeats 1000000 in
theorem search_any (n : Nat) (hn : n ≤ 4611686018427387905) (g : FuncId) (caps : Array Value) (q : Nat → Bool) (hmono : ∀ i j, i ≤ j → q i = true → q j = true) (w : World)
    (hen : ∀ args w, (callFunc g args).run Try.prog w = .ok (.enter g args) w)
    (hq : ∀ i, i < n → ∀ w', Below w.heap.size w w' → Calls Try.prog g (#[.int .i64 (i : Int)] ++ caps) w' fun e w'' => e = .returned (.bool (q i)) ∧ Below w'.heap.size w' w'') :
    Calls Try.prog 22 #[.int .i64 (n : Int), .func (.func g) #[] caps] w fun e w' => ∃ r : Nat, e = .returned (.int .i64 (r : Int)) ∧ r ≤ n ∧ (∀ j, j < r → q j = false) ∧ (r < n → q r = true) ∧ Below w.heap.size w w' := by
  have HQ := Lib.hid hq
  have HM := Lib.hid hmono
  have HN := Lib.hid hn
  clear hq hmono hn
  go_enter Try.func22, Try.ntmps22
  go_wp2
  go_loopw [5, 6] (fun a b wr => ∃ i j : Nat, i ≤ j ∧ j ≤ n ∧ a = .int .i64 (i : Int) ∧ b = .int .i64 (j : Int) ∧ Hid (∀ k, k < i → q k = false) ∧ Hid (j < n → q j = true) ∧ Below w.heap.size w wr) (fun a b _ => (intOf b - intOf a).toNat)
  case atStart => exact ⟨0, n, Nat.zero_le _, Nat.le_refl _, rfl, rfl, Lib.hid fun k hk => by omega, Lib.hid fun h => by omega, Below.refl _ _⟩
  case round =>
    obtain ⟨i, j, hij, hjn, rfl, rfl, HI, HJ, hb⟩ := hrel
    by_cases hlt : i < j
    · go_wp2_with fail
      have hm := mid_wrap i j (by have := HN.out; omega)
      rw [hm]
      obtain ⟨m, hmd⟩ : ∃ m, m = (i + j) / 2 := ⟨_, rfl⟩
      rw [← hmd]
      have hm1 : i ≤ m := by omega
      have hm2 : m < j := by omega
      clear hm hmd
      refine (HQ.out m (by omega) wr hb).mono ?_
      rintro e w1 ⟨rfl, hb1⟩
      have hb2 : Below w.heap.size w w1 := hb.trans (hb1.mono hb.size)
      clear hb hb1
      have HM2 : Hid (m + 1 ≤ 9223372036854775807) := by show _ ≤ _; have := HN.out; omega
      have hm3 : m ≤ 4611686018427387905 := by have := HN.out; omega
      cases hqm : q m
      · have HqM := Lib.hid hqm
        clear hqm
        go_wp2
        go_roundw
        case rel => exact ⟨m + 1, j, by omega, hjn, by go_num, rfl, Lib.hid fun k hk => by
          by_cases hkm : q k = true
          · have := HM.out k m (by omega) hkm
            rw [HqM.out] at this; cases this
          · simpa using hkm, HJ, hb2⟩
        case measure => simp [intOf]; omega
      · have HqM := Lib.hid hqm
        clear hqm
        go_wp2
        go_roundw
        case rel => exact ⟨i, m, hm1, by omega, rfl, rfl, HI, Lib.hid fun _ => HqM.out, hb2⟩
        case measure => simp [intOf]; omega
    · obtain rfl : i = j := by omega
      go_wp2
      go_ret
      exact ⟨i, rfl, hjn, HI.out, HJ.out, hb⟩
end Go.Proofs.Ytgemfgfhdbkgfaa
