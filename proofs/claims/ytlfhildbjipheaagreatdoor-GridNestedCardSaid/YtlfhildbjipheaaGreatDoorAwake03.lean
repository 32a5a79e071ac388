import Derived.Test.YtlfhildbjipheaaGreatDoorShares
set_option linter.unusedSimpArgs false
set_option linter.unusedVariables false
namespace Go.Proofs.YtlfhildbjipheaaGreatDoor
open Go.RowKit Go.Sort Go.Shelf Go.Grid

theorem aw_facts : ((ix (nodesL 2) (normal ⟨0, 840, 0, 0⟩)) = some 5 ∧ (ix (nodesL 2) (normal ⟨0, 420, 420, 0⟩)) = some 4) ∧ locRaw 2 ⟨0, 630, 210, 0⟩ = [(5, 420), (4, 420)] := by decide +kernel
theorem aw_loc : IsLoc 2 ⟨0, 630, 210, 0⟩ [(4, 420), (5, 420)] := by
  unfold IsLoc
  rw [aw_facts.2]
  exact ⟨List.Perm.swap _ _ _, by unfold Asc; decide⟩

set_option maxRecDepth 100000 in
set_option maxHeartbeats 1000000 in
/-- law03's example. -/
theorem awake03_any (w : World) (hT : HasTab w) : Calls Tryz.prog 19 #[] w fun e w' => e = .returned (.bool true) ∧ Below w.heap.size w w' := by
  have E1 : idxErr 2 ⟨0, 840, 0, 0⟩ = 0 := by unfold idxErr; rw [aw_facts.1.1]; rfl
  have E2 : idxErr 2 ⟨0, 420, 420, 0⟩ = 0 := by unfold idxErr; rw [aw_facts.1.2]; rfl
  have EC : countI 2 = 42 := by decide
  have hc1 := fun (w : World) (hT : HasTab w) => gindex_any 2 (by omega) (by omega) ⟨0, 840, 0, 0⟩ ⟨by decide, by decide⟩ w hT
  have hc2 := fun (w : World) (hT : HasTab w) => gindex_any 2 (by omega) (by omega) ⟨0, 420, 420, 0⟩ ⟨by decide, by decide⟩ w hT
  have hc3 := fun (w : World) (hT : HasTab w) => glocate_any 2 (by omega) (by omega) ⟨0, 630, 210, 0⟩ ⟨by decide, by decide⟩ w hT
  rw [E1, aw_facts.1.1] at hc1
  rw [E2, aw_facts.1.2] at hc2
  have H1 := Lib.hid hc1
  have H2 := Lib.hid hc2
  have H3 := Lib.hid hc3
  clear hc1 hc2 hc3 E1 E2
  go_enter Tryz.func19, Tryz.ntmps19
  go_wp2_with fail
  refine (H1.out _ hT).mono ?_
  rintro e w1 ⟨rfl, hb1⟩
  simp only [Option.getD_some]
  go_wp2_with fail
  refine (H2.out _ (hT.below hb1)).mono ?_
  rintro e w2 ⟨rfl, hb2⟩
  replace hb2 := hb1.trans (hb2.mono hb1.size)
  simp only [Option.getD_some]
  go_wp2_with fail
  refine (H3.out _ (hT.below hb2)).mono ?_
  rintro e w3 ⟨b, cap, S, hS, rfl, hcap, hat, hb3⟩
  obtain rfl := hS.unique aw_loc
  replace hb3 := hb2.trans (hb3.mono hb2.size)
  clear hb1 hb2 hS
  go_wp2_with fail
  refine (count_any 2 _).mono ?_
  rintro e w4 ⟨rfl, rfl⟩
  rw [EC]
  go_wp2_with fail
  rw [show (min 5 4 : Int) = 4 from rfl, show (max 5 4 : Int) = 5 from rfl]
  have hat2 : SharesAt (w3.alloc (.cells #[.int .i64 4, .int .i64 420, .int .i64 5, .int .i64 420] 73)) b [(4, 420), (5, 420)] := fun k hk => by
    obtain ⟨c0, c1⟩ := hat k hk
    exact ⟨(by (try have hLt := World.block_lt_of_cell? _ _ c0); (try simp only at hLt); (repeat first | rw [RX.cell_drew] | rw [World.cell?_setCell_other _ _ _ _ (by first | (simp; done) | (simp; omega) | omega)] | rw [RX.cell_alloc, if_neg (by first | (simp; done) | (simp; omega) | omega)]); first | exact c0 | (rw [RX.cell_alloc, if_pos (by first | (simp; done) | omega)]; exact c0)), (by (try have hLt := World.block_lt_of_cell? _ _ c1); (try simp only at hLt); (repeat first | rw [RX.cell_drew] | rw [World.cell?_setCell_other _ _ _ _ (by first | (simp; done) | (simp; omega) | omega)] | rw [RX.cell_alloc, if_neg (by first | (simp; done) | (simp; omega) | omega)]); first | exact c1 | (rw [RX.cell_alloc, if_pos (by first | (simp; done) | omega)]; exact c1))⟩
  have hat3 : SharesAt (w3.alloc (.cells #[.int .i64 4, .int .i64 420, .int .i64 5, .int .i64 420] 73)) w3.heap.size [(4, 420), (5, 420)] := fun k hk => by
    match k, hk with
    | 0, _ => exact ⟨(by simp [RX.cell_drew, RX.cell_alloc, Nat.add_assoc]), (by simp [RX.cell_drew, RX.cell_alloc, Nat.add_assoc])⟩
    | 1, _ => exact ⟨(by simp [RX.cell_drew, RX.cell_alloc, Nat.add_assoc]), (by simp [RX.cell_drew, RX.cell_alloc, Nat.add_assoc])⟩
    | k + 2, hk => simp at hk; omega
  refine (shares_any (w3.alloc (.cells #[.int .i64 4, .int .i64 420, .int .i64 5, .int .i64 420] 73)) (some ⟨b, 0, none⟩) (some ⟨w3.heap.size, 0, none⟩) cap 2 [(4, 420), (5, 420)] [(4, 420), (5, 420)] ⟨b, fun _ => rfl, hat2⟩ ⟨_, fun _ => rfl, hat3⟩ hcap (by simp) (by simp) (by simp)).mono ?_
  rintro e w5 ⟨rfl, hb5⟩
  rw [show eqB [(4, 420), (5, 420)] [(4, 420), (5, 420)] = true from rfl]
  have hb6 : Below w.heap.size w (w3.alloc (.cells #[.int .i64 4, .int .i64 420, .int .i64 5, .int .i64 420] 73)) := hb3.alloc hb3.size _
  have HB := Lib.hid (hb6.trans (hb5.mono hb6.size))
  clear hat2 hat3 hat hb5 hb6 hb3
  go_wp2
  go_ret
  exact ⟨rfl, HB.out⟩
end Go.Proofs.YtlfhildbjipheaaGreatDoor
