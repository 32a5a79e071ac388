import Derived.Test.YtojkamfabapcoaaGreatDoorVecs
set_option linter.unusedSimpArgs false
set_option linter.unusedVariables false
namespace Go.Proofs.YtojkamfabapcoaaGreatDoor
open Go.RowKit Go.Grid

/-! slices.IndexFunc and ContainsFunc at []int, at whatever test. -/
set_option maxRecDepth 100000 in
set_option maxHeartbeats 1000000 in
theorem index_int (p : Option Addr) (L : List Int) (cap n : Nat) (w : World) (hl : L.length = n) (hV : VecAt w p L) (hn : n ≤ 1000000000) (g : FuncId) (t : Int → Bool)
    (hen : ∀ args w, (callFunc g args).run Tryz.prog w = .ok (.enter g args) w)
    (hq : ∀ x ∈ L, ∀ w', Below w.heap.size w w' → Calls Tryz.prog g #[.int .i64 x] w' fun e w'' => e = .returned (.bool (t x)) ∧ Below w'.heap.size w' w'') :
    Calls Tryz.prog 118 #[.slice p n cap, .func (.func g) #[] #[]] w fun e w' => ∃ r : Int, e = .returned (.int .i64 r) ∧ -1 ≤ r ∧ decide (0 ≤ r) = L.any t ∧ Below w.heap.size w w' := by
  have HQ := Lib.hid hq
  have HV := Lib.hid hV
  have HL := Lib.hid hl
  clear hq hV hl
  go_enter Tryz.func118, Tryz.ntmps118
  go_wp2
  go_loopw [8] (fun a wr => ∃ k : Nat, k ≤ n ∧ a = .int .i64 (k : Int) ∧ Hid (∀ j (hj : j < k) (h : j < L.length), t L[j] = false) ∧ Below w.heap.size w wr) (fun a _ => n - (intOf a).toNat)
  case atStart => exact ⟨0, Nat.zero_le _, rfl, Lib.hid fun j hj => by omega, Below.refl _ _⟩
  case round =>
    obtain ⟨k, hk, rfl, HI, hb⟩ := hrel
    by_cases hlt : k < n
    · have hltL : k < L.length := by rw [HL.out]; exact hlt
      obtain ⟨b, o, rfl, hbl, hcell⟩ := HV.out.cell (by omega)
      have ck := RX.keep hb (hcell k hltL)
      have hdk : decide ((k : Int) < (n : Int)) = true := decide_eq_true (by omega)
      have hk0 : (0 : Int) ≤ (k : Int) := by omega
      have hkI : (k : Int) < (n : Int) := by omega
      have HK := Lib.hid (HQ.out L[k] (List.getElem_mem _) wr hb)
      obtain ⟨x, hx⟩ : ∃ x, x = L[k] := ⟨_, rfl⟩
      rw [← hx] at ck HK
      have HX := Lib.hid hx
      clear hx hcell
      go_wp2_with fail
      refine HK.out.mono ?_
      rintro e w1 ⟨rfl, hb1⟩
      have hb2 : Below w.heap.size w w1 := hb.trans (hb1.mono hb.size)
      clear hb hb1 HK ck
      cases he : t x
      · have HE := Lib.hid he
        clear he
        go_wp2
        go_roundw
        case rel => exact ⟨k + 1, by omega, by go_num, Lib.hid fun j hj hd => by
          by_cases hjk : j = k
          · subst hjk; rw [← HX.out]; exact HE.out
          · exact HI.out j (by omega) hd, hb2⟩
        case measure => simp [intOf]; omega
      · have HE := Lib.hid he
        clear he
        go_wp2
        go_ret
        refine ⟨(k : Int), rfl, by omega, ?_, hb2⟩
        have h1 : L.any t = true := List.any_eq_true.2 ⟨L[k], List.getElem_mem _, by rw [← HX.out]; exact HE.out⟩
        rw [h1]; exact decide_eq_true (by omega)
    · obtain rfl : k = n := by omega
      have hdk : decide ((k : Int) < (k : Int)) = false := decide_eq_false (by omega)
      go_wp2
      go_ret
      refine ⟨-1, rfl, by omega, ?_, hb⟩
      have h1 : L.any t = false := List.any_eq_false.2 (fun x hx => by
        obtain ⟨j, hj, rfl⟩ := List.getElem_of_mem hx
        rw [HI.out j (by rw [HL.out] at hj; exact hj) hj]; simp)
      rw [h1]; rfl
set_option maxRecDepth 100000 in
set_option maxHeartbeats 1000000 in
theorem contains_int (p : Option Addr) (L : List Int) (cap n : Nat) (w : World) (hl : L.length = n) (hV : VecAt w p L) (hn : n ≤ 1000000000) (g : FuncId) (t : Int → Bool)
    (hen : ∀ args w, (callFunc g args).run Tryz.prog w = .ok (.enter g args) w)
    (hq : ∀ x ∈ L, ∀ w', Below w.heap.size w w' → Calls Tryz.prog g #[.int .i64 x] w' fun e w'' => e = .returned (.bool (t x)) ∧ Below w'.heap.size w' w'') :
    Calls Tryz.prog 90 #[.slice p n cap, .func (.func g) #[] #[]] w fun e w' => e = .returned (.bool (L.any t)) ∧ Below w.heap.size w w' := by
  have HI := Lib.hid (index_int p L cap n w hl hV hn g t hen hq)
  clear hl hV hq hen
  go_enter Tryz.func90, Tryz.ntmps90
  go_wp2_with fail
  refine HI.out.mono ?_
  rintro e w1 ⟨r, rfl, hr, hd, hb⟩
  clear HI
  by_cases h0 : 0 ≤ r
  · have h1 : L.any t = true := by rw [← hd]; exact decide_eq_true h0
    have H1 := Lib.hid h1
    clear hd h1
    go_wp2
    go_ret
    exact ⟨by rw [H1.out]; simp [h0], hb⟩
  · have h1 : L.any t = false := by rw [← hd]; exact decide_eq_false h0
    have H1 := Lib.hid h1
    clear hd h1
    go_wp2
    go_ret
    exact ⟨by rw [H1.out]; simp [h0], hb⟩
end Go.Proofs.YtojkamfabapcoaaGreatDoor
