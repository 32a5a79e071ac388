import Derived.Test.YtpbfgnffkhabnaaDoorPrec
set_option linter.unusedSimpArgs false
set_option linter.unusedVariables false
namespace Go.Proofs.YtpbfgnffkhabnaaDoor
open Go.RowKit Go.Grid Go.Maps Go.Sort Go.Shelf

/-- A slice of numbers that can be read. -/
def VecAt (w : World) (p : Option Addr) (zs : List Int) : Prop := ∃ b o, (0 < zs.length → p = some ⟨b, o, none⟩) ∧ ∀ j (h : j < zs.length), w.cell? ⟨b, o + j, none⟩ = some (.int .i64 zs[j])
theorem VecAt.below {w w' : World} {p : Option Addr} {zs : List Int} (h : VecAt w p zs) (hb : Below w.heap.size w w') : VecAt w' p zs := by
  obtain ⟨b, o, h1, h2⟩ := h
  exact ⟨b, o, h1, fun j hj => RX.keep hb (h2 j hj)⟩
theorem VecAt.cell {w : World} {p : Option Addr} {zs : List Int} (h : VecAt w p zs) (h0 : 0 < zs.length) : ∃ b o, p = some ⟨b, o, none⟩ ∧ b < w.heap.size ∧ ∀ j (h : j < zs.length), w.cell? ⟨b, o + j, none⟩ = some (.int .i64 zs[j]) := by
  obtain ⟨b, o, h1, h2⟩ := h
  exact ⟨b, o, h1 h0, World.block_lt_of_cell? _ _ (h2 0 h0), h2⟩

def Small (zs : List Int) : Prop := ∀ x ∈ zs, -1048576 ≤ x ∧ x ≤ 1048576
instance (zs : List Int) : Decidable (Small zs) := by unfold Small; infer_instance
def VecOk (f s a : Int) (zs : List Int) : Prop := PrOk f s a ∧ (zs.length : Int) = 10 * f * f + 2 ∧ Small zs
instance (f s a : Int) (zs : List Int) : Decidable (VecOk f s a zs) := by unfold VecOk; infer_instance
def vecErr (f s a : Int) (zs : List Int) : Int := if VecOk f s a zs then 0 else 1

set_option maxRecDepth 100000 in
set_option maxHeartbeats 2000000 in
theorem vector_any (f s a : Int) (p : Option Addr) (zs : List Int) (cap : Nat) (w : World) (hV : VecAt w p zs) (hl : zs.length ≤ 1000000000) :
    Calls Tryd.prog 74 #[prv f s a, .slice p zs.length cap] w fun e w' => e = .returned (.int .i64 (vecErr f s a zs)) ∧ Below w.heap.size w w' := by
  have hpv : Hid (prv f s a = .agg #[.int .i64 f, .int .i64 s, .int .i64 a]) := Lib.hid rfl
  have yes : VecOk f s a zs → vecErr f s a zs = 0 := fun h => if_pos h
  have no : ¬ VecOk f s a zs → vecErr f s a zs = 1 := fun h => if_neg h
  rw [hpv.out]
  by_cases h1 : PrOk f s a
  · have he : prErr f s a = 0 := if_pos h1
    by_cases h2 : (zs.length : Int) = 10 * f * f + 2
    · have hc : countI f = (zs.length : Int) := by unfold countI; rw [if_pos ⟨h1.1, h1.2.1⟩, h2]
      have HY : Hid ((Small zs → vecErr f s a zs = 0) ∧ (¬ Small zs → vecErr f s a zs = 1)) := Lib.hid ⟨fun h => yes ⟨h1, h2, h⟩, fun h => no fun hh => h hh.2.2⟩
      have HP := Lib.hid h1
      clear yes no h1 h2
      go_enter Tryd.func74, Tryd.ntmps74
      go_wp2_with fail
      refine (pcheck_any f s a _).mono ?_
      rintro e w1 ⟨rfl, hb1⟩
      rw [he]
      have c0 : w1.cell? ⟨w.heap.size, 0, none⟩ = some (.int .i64 f) := RX.keep hb1 (by simp [RX.cell_drew, RX.cell_alloc, Nat.add_assoc])
      have hB : Below w.heap.size w w1 := Below.trans (by repeat (first | assumption | (with_reducible exact Below.refl _ _) | (with_reducible refine Below.setCell ?_ (by first | omega | (simp; done) | (simp; omega)) _) | (with_reducible refine Below.alloc ?_ (by first | omega | (simp; done) | (simp; omega)) _) | (with_reducible apply Below.drew))) (hb1.mono (by simp))
      clear hb1
      have hV1 := hV.below hB
      go_wp2_with fail
      refine (count_any f _).mono ?_
      rintro e w2 ⟨rfl, rfl⟩
      rw [hc]
      go_wp2
      go_loopw [21] (fun i wr => ∃ k : Nat, k ≤ zs.length ∧ i = .int .i64 k ∧ Hid (∀ j (h : j < zs.length), j < k → -1048576 ≤ zs[j] ∧ zs[j] ≤ 1048576) ∧ wr = w1) (fun i _ => zs.length - (intOf i).toNat)
      case atStart => exact ⟨0, by omega, rfl, Lib.hid fun j _ hj => by omega, rfl⟩
      case round =>
        obtain ⟨k, hk, rfl, HK, rfl⟩ := hrel
        by_cases hlt : k < zs.length
        · obtain ⟨b, o, rfl, hbl, hcell⟩ := hV1.cell (by omega)
          have ck := hcell k hlt
          obtain ⟨x, hx⟩ : ∃ x, x = zs[k] := ⟨_, rfl⟩
          rw [← hx] at ck
          have HX := Lib.hid hx
          clear hx hcell
          by_cases hr : -1048576 ≤ x ∧ x ≤ 1048576
          · go_wp2_with (go_at_call 102; refine (pwithin_yes _ _ _ _ hr).mono ?_; rintro e w' ⟨rfl, rfl⟩)
            go_roundw
            case rel => exact ⟨k + 1, by omega, by go_num, Lib.hid fun j hj hjk => by
              by_cases h : j = k
              · subst h; rw [← HX.out]; exact hr
              · exact HK.out j hj (by omega), (by first | rfl | trivial)⟩
            case measure => simp [intOf]; omega
          · have HN : Hid (vecErr f s a zs = 1) := Lib.hid (HY.out.2 fun hs => hr (by rw [HX.out]; exact hs _ (List.getElem_mem _)))
            go_wp2_with (go_at_call 102; refine (pwithin_no _ _ _ _ hr).mono ?_; rintro e w' ⟨rfl, rfl⟩)
            go_ret
            rw [HN.out]; exact ⟨rfl, hB⟩
        · obtain rfl : k = zs.length := by omega
          have HN : Hid (vecErr f s a zs = 0) := Lib.hid (HY.out.1 fun x hx => by
            obtain ⟨j, hj, rfl⟩ := List.getElem_of_mem hx
            exact HK.out j hj hj)
          go_wp2
          go_ret
          rw [HN.out]; exact ⟨rfl, hB⟩
    · have hc : ¬ (zs.length : Int) = countI f := by unfold countI; rw [if_pos ⟨h1.1, h1.2.1⟩]; exact h2
      have HN : Hid (vecErr f s a zs = 1) := Lib.hid (no fun h => h2 h.2.1)
      clear yes no h2
      go_enter Tryd.func74, Tryd.ntmps74
      go_wp2_with fail
      refine (pcheck_any f s a _).mono ?_
      rintro e w1 ⟨rfl, hb1⟩
      rw [he]
      have c0 : w1.cell? ⟨w.heap.size, 0, none⟩ = some (.int .i64 f) := RX.keep hb1 (by simp [RX.cell_drew, RX.cell_alloc, Nat.add_assoc])
      have hB : Below w.heap.size w w1 := Below.trans (by repeat (first | assumption | (with_reducible exact Below.refl _ _) | (with_reducible refine Below.setCell ?_ (by first | omega | (simp; done) | (simp; omega)) _) | (with_reducible refine Below.alloc ?_ (by first | omega | (simp; done) | (simp; omega)) _) | (with_reducible apply Below.drew))) (hb1.mono (by simp))
      clear hb1
      go_wp2_with fail
      refine (count_any f _).mono ?_
      rintro e w2 ⟨rfl, rfl⟩
      go_wp2
      go_ret
      rw [HN.out]; exact ⟨rfl, hB⟩
  · have he : prErr f s a = 1 := if_neg h1
    have HN : Hid (vecErr f s a zs = 1) := Lib.hid (no fun h => h1 h.1)
    clear yes no
    go_enter Tryd.func74, Tryd.ntmps74
    go_wp2_with fail
    refine (pcheck_any f s a _).mono ?_
    rintro e w1 ⟨rfl, hb1⟩
    rw [he]
    have hB : Below w.heap.size w w1 := Below.trans (by repeat (first | assumption | (with_reducible exact Below.refl _ _) | (with_reducible refine Below.setCell ?_ (by first | omega | (simp; done) | (simp; omega)) _) | (with_reducible refine Below.alloc ?_ (by first | omega | (simp; done) | (simp; omega)) _) | (with_reducible apply Below.drew))) (hb1.mono (by simp))
    clear hb1
    go_wp2
    go_ret
    rw [HN.out]; exact ⟨rfl, hB⟩
end Go.Proofs.YtpbfgnffkhabnaaDoor
