import Derived.Test.YtpbfgnffkhabnaaDoorProg
import Derived.Test.YtpbfgnffkhabnaaDoorRf
import Derived.Test.YtpbfgnffkhabnaaDoorRn
import Derived.Test.YtpbfgnffkhabnaaDoorGrid
import Derived.WalkKit
import Derived.WalkLawsBesides
import Derived.WalkSpells
import Derived.Lib.Hide
set_option linter.unusedSimpArgs false
set_option linter.unusedVariables false
namespace Go.Proofs.YtpbfgnffkhabnaaDoor
open Go.RowKit Go.Grid

/-- A place as the program holds it. -/
def pv (p : Pl) : Value := .agg #[.int .i64 p.f, .int .i64 p.a, .int .i64 p.b, .int .i64 p.c]
def ValidI (f a b c : Int) : Prop := 0 ≤ f ∧ f < 20 ∧ 0 ≤ a ∧ 0 ≤ b ∧ 0 ≤ c ∧ a + b + c = 840
instance (f a b c : Int) : Decidable (ValidI f a b c) := by unfold ValidI; infer_instance
theorem ValidI.pl {f a b c : Int} (h : ValidI f a b c) : ∃ p : Pl, p.Ok ∧ f = p.f ∧ a = p.a ∧ b = p.b ∧ c = p.c := by
  obtain ⟨h1, h2, h3, h4, h5, h6⟩ := h
  exact ⟨⟨f.toNat, a.toNat, b.toNat, c.toNat⟩, ⟨by show f.toNat < 20; omega, by show a.toNat + b.toNat + c.toNat = 840; omega⟩, by show f = (f.toNat : Int); omega, by show a = (a.toNat : Int); omega, by show b = (b.toNat : Int); omega, by show c = (c.toNat : Int); omega⟩
theorem Ok.valid {p : Pl} (h : p.Ok) : ValidI p.f p.a p.b p.c := by
  have := h.f; have := h.s
  exact ⟨by omega, by omega, by omega, by omega, by omega, by omega⟩

theorem face_any (n : Int) (w : World) : Calls Tryd.prog 78 #[.int .i64 n] w fun e w' => e = .returned (.bool (decide (0 ≤ n ∧ n < 20))) ∧ w = w' := by
  by_cases h : 0 ≤ n
  · by_cases h2 : n < 20
    · go_enter Tryd.func78, Tryd.ntmps78
      go_wp2
      go_ret
      refine ⟨?_, rfl⟩
      simp [h, h2]
    · go_enter Tryd.func78, Tryd.ntmps78
      go_wp2
      go_ret
      refine ⟨?_, rfl⟩
      rw [decide_eq_false (by omega)]; rfl
  · go_enter Tryd.func78, Tryd.ntmps78
    go_wp2
    go_ret
    refine ⟨?_, rfl⟩
    rw [decide_eq_false (by omega)]; rfl

/-- Valid, at any numbers. -/
def validB (f a b c : Int) : Bool := decide (ValidI f a b c)
set_option maxRecDepth 100000 in
set_option maxHeartbeats 1000000 in
theorem valid_any (f a b c : Int) (w : World) : Calls Tryd.prog 54 #[.agg #[.int .i64 f, .int .i64 a, .int .i64 b, .int .i64 c]] w fun e w' => e = .returned (.bool (validB f a b c)) ∧ Below w.heap.size w w' := by
  have hb0 : Below w.heap.size w (w.alloc (.cells #[.int .i64 f, .int .i64 a, .int .i64 b, .int .i64 c] 23)) := (Below.refl _ _).alloc (Nat.le_refl _) _
  have no : ¬ ValidI f a b c → Ending.returned (.bool false) = Ending.returned (.bool (validB f a b c)) := fun h => by unfold validB; rw [decide_eq_false h]
  have yes : ValidI f a b c → Ending.returned (.bool true) = Ending.returned (.bool (validB f a b c)) := fun h => by unfold validB; rw [decide_eq_true h]
  have i0 : ∀ w, (Instr.index 114 (.agg #[.int .i64 a, .int .i64 b, .int .i64 c]) (.int .i64 0)).run Tryd.prog w = .ok (.int .i64 a) w := fun _ => by kernel_rfl
  have i1 : ∀ w, (Instr.index 114 (.agg #[.int .i64 a, .int .i64 b, .int .i64 c]) (.int .i64 1)).run Tryd.prog w = .ok (.int .i64 b) w := fun _ => by kernel_rfl
  have i2 : ∀ w, (Instr.index 114 (.agg #[.int .i64 a, .int .i64 b, .int .i64 c]) (.int .i64 2)).run Tryd.prog w = .ok (.int .i64 c) w := fun _ => by kernel_rfl
  go_enter Tryd.func54, Tryd.ntmps54
  go_wp2
  go_loop [4, 12] (fun _ i => ∃ k : Nat, k ≤ 3 ∧ i = .int .i64 (k : Int) ∧ (1 ≤ k → 0 ≤ a ∧ a ≤ 840) ∧ (2 ≤ k → 0 ≤ b ∧ b ≤ 840) ∧ (3 ≤ k → 0 ≤ c ∧ c ≤ 840)) (fun _ i => 3 - (intOf i).toNat)
  case atStart => exact ⟨0, by omega, rfl, by omega, by omega, by omega⟩
  case round =>
    obtain ⟨k, hk, rfl, ha, hb, hc⟩ := hrel
    rcases (show k = 0 ∨ k = 1 ∨ k = 2 ∨ k = 3 by omega) with rfl | rfl | rfl | rfl
    · by_cases h1 : a < 0
      · have e := Lib.hid (no (by unfold ValidI; omega))
        clear no yes
        go_wp2
        go_ret
        exact ⟨e.out, hb0⟩
      · by_cases h2 : a > 840
        · have e := Lib.hid (no (by unfold ValidI; omega))
          clear no yes
          go_wp2
          go_ret
          exact ⟨e.out, hb0⟩
        · go_wp2
          go_round
          case rel => exact ⟨1, by omega, rfl, by omega, by omega, by omega⟩
          case measure => simp [intOf]
    · have ha' := ha (by omega)
      by_cases h1 : b < 0
      · have e := Lib.hid (no (by unfold ValidI; omega))
        clear no yes
        go_wp2
        go_ret
        exact ⟨e.out, hb0⟩
      · by_cases h2 : b > 840
        · have e := Lib.hid (no (by unfold ValidI; omega))
          clear no yes
          go_wp2
          go_ret
          exact ⟨e.out, hb0⟩
        · go_wp2
          go_round
          case rel => exact ⟨2, by omega, rfl, by omega, by omega, by omega⟩
          case measure => simp [intOf]
    · have ha' := ha (by omega)
      have hb' := hb (by omega)
      by_cases h1 : c < 0
      · have e := Lib.hid (no (by unfold ValidI; omega))
        clear no yes
        go_wp2
        go_ret
        exact ⟨e.out, hb0⟩
      · by_cases h2 : c > 840
        · have e := Lib.hid (no (by unfold ValidI; omega))
          clear no yes
          go_wp2
          go_ret
          exact ⟨e.out, hb0⟩
        · go_wp2
          go_round
          case rel => exact ⟨3, by omega, rfl, by omega, by omega, by omega⟩
          case measure => simp [intOf]
    · have ha' := ha (by omega)
      have hb' := hb (by omega)
      have hc' := hc (by omega)
      clear ha hb hc
      by_cases hf : 0 ≤ f ∧ f < 20
      · go_wp2_with fail
        refine (face_any f _).mono ?_
        rintro e w1 ⟨rfl, rfl⟩
        rw [decide_eq_true hf]
        by_cases hs : a + b + c = 840
        · have e := Lib.hid (yes (by unfold ValidI; omega))
          clear no yes
          have hs' : (a + b + c == 840) = true := by rw [beq_iff_eq]; exact hs
          go_wp2
          go_ret
          exact ⟨e.out, hb0⟩
        · have e := Lib.hid (no (by unfold ValidI; omega))
          clear no yes
          have hs' : (a + b + c == 840) = false := by rw [beq_eq_false_iff_ne]; exact hs
          go_wp2
          go_ret
          exact ⟨e.out, hb0⟩
      · have e := Lib.hid (no (by unfold ValidI; omega))
        clear no yes
        go_wp2_with fail
        refine (face_any f _).mono ?_
        rintro e w1 ⟨rfl, rfl⟩
        rw [decide_eq_false hf]
        go_wp2
        go_ret
        exact ⟨e.out, hb0⟩
end Go.Proofs.YtpbfgnffkhabnaaDoor
