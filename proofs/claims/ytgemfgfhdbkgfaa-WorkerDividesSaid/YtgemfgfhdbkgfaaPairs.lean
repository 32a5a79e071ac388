import Derived.Test.YtgemfgfhdbkgfaaCodes
import Derived.Test.YtgemfgfhdbkgfaaCmp
import Derived.Shelf.Abstract
import Derived.Lib.SliceRun
set_option linter.unusedSimpArgs false
set_option linter.unusedVariables false
namespace Go.Proofs.Ytgemfgfhdbkgfaa
open Go.RowKit

/-- The block g holds the pairs d, from its first cell on; they can be written. -/
structure PairsAt (w : World) (g : Nat) (d : List (Int × Int)) : Prop where
  c0 : ∀ k (h : k < d.length), w.cell? ⟨g, k * 2, none⟩ = some (.int .i64 d[k].1)
  c1 : ∀ k (h : k < d.length), w.cell? ⟨g, k * 2 + 1, none⟩ = some (.int .i64 d[k].2)
  f0 : ∀ k (h : k < d.length), w.frozen? ⟨g, k * 2, none⟩ = false
  f1 : ∀ k (h : k < d.length), w.frozen? ⟨g, k * 2 + 1, none⟩ = false

theorem PairsAt.kept {w w' : World} {g : Nat} {d : List (Int × Int)} (h : PairsAt w g d) (hg : w'.heap[g]? = w.heap[g]?) : PairsAt w' g d where
  c0 := fun k hk => (World.cell?_of_block hg).trans (h.c0 k hk)
  c1 := fun k hk => (World.cell?_of_block hg).trans (h.c1 k hk)
  f0 := fun k hk => (World.frozen?_of_block hg).trans (h.f0 k hk)
  f1 := fun k hk => (World.frozen?_of_block hg).trans (h.f1 k hk)
theorem PairsAt.grown {w w' : World} {g : Nat} {d : List (Int × Int)} (h : PairsAt w g d) (hb : w.grownBy w' none) : PairsAt w' g d := by
  by_cases h0 : 0 < d.length
  · exact h.kept (hb.block _ (World.block_lt_of_cell? w _ (h.c0 0 h0)) (by simp))
  · exact ⟨fun k hk => by omega, fun k hk => by omega, fun k hk => by omega, fun k hk => by omega⟩

def emp (x : Int × Int) : Bool := x.1 == x.2

theorem empty_any (x : Int × Int) (w : World) : Calls Try.prog 34 #[.agg #[.int .i64 x.1, .int .i64 x.2]] w fun e w' => e = .returned (.bool (emp x)) ∧ w.grownBy w' none := by
  go_enter Try.func34, Try.ntmps34
  go_wp2
  go_ret
  exact ⟨rfl, World.grownBy_alloc _ _ _⟩

theorem enters_empty : ∀ args w, (callFunc 34 args).run Try.prog w = .ok (.enter 34 args) w := enters_of Try.func34 (by kernel_rfl) rfl

set_option maxHeartbeats 1000000 in
theorem index_any (w : World) (g : Nat) (d : List (Int × Int)) (p : Option Addr) (cap : Nat) (hp : 0 < d.length → p = some ⟨g, 0, none⟩) (h : PairsAt w g d) (hcap : d.length ≤ cap) (hcap' : d.length ≤ 4611686018427387903) :
    Calls Try.prog 37 #[.slice p d.length cap, .func (.func 34) #[] #[]] w fun e w' => w.grownBy w' none ∧
      ((e = .returned (.int .i64 (-1)) ∧ ∀ x ∈ d, emp x = false) ∨ ∃ k : Nat, e = .returned (.int .i64 k) ∧ ∃ h : k < d.length, emp d[k] = true ∧ ∀ j (hj : j < k), emp d[j] = false) := by
  have eg := enters_empty
  go_enter Try.func37, Try.ntmps37
  go_wp2
  go_loopw [8] (fun a wr => ∃ k : Nat, k ≤ d.length ∧ a = .int .i64 (k : Int) ∧ Hid (∀ j (hj : j < k) (h : j < d.length), emp d[j] = false) ∧ w.grownBy wr none) (fun a _ => d.length - (intOf a).toNat)
  case atStart => exact ⟨0, Nat.zero_le _, rfl, Lib.hid fun j hj => by omega, World.grownBy.refl _ _⟩
  case round =>
    obtain ⟨k, hk, rfl, HI, hb⟩ := hrel
    have hw := h.grown hb
    by_cases hlt : k < d.length
    · obtain rfl := hp (by omega)
      have c0 := hw.c0 k hlt
      have c1 := hw.c1 k hlt
      obtain ⟨x, hx⟩ : ∃ x, x = d[k] := ⟨_, rfl⟩
      rw [← hx] at c0 c1
      have HX := Lib.hid hx
      clear hx
      go_wp2_with fail
      refine (empty_any x _).mono ?_
      rintro e w1 ⟨rfl, hb1⟩
      have hb2 := hb.trans hb1
      clear hw h hb hb1 c0 c1
      cases he : emp x
      · have HE := Lib.hid he
        clear he
        go_wp2
        go_roundw
        case rel => exact ⟨k + 1, by omega, by go_num, Lib.hid fun j hj hd => by
          by_cases hjk : j = k
          · subst hjk; rw [← HX.out]; exact HE.out
          · exact HI.out j (by omega) hd, hb2⟩
        case measure => simp [intOf]; omega
      · have HE := Lib.hid he
        clear he
        go_wp2
        go_ret
        exact ⟨hb2, .inr ⟨k, rfl, hlt, by rw [← HX.out]; exact HE.out, fun j hj => HI.out j hj (by omega)⟩⟩
    · obtain rfl : k = d.length := by omega
      go_wp2
      go_ret
      refine ⟨hb, .inl ⟨rfl, fun x hx => ?_⟩⟩
      obtain ⟨j, hj, rfl⟩ := List.getElem_of_mem hx
      exact HI.out j hj hj
end Go.Proofs.Ytgemfgfhdbkgfaa
