import Derived.Test.YtpbfgnffkhabnaaDoorOn
set_option linter.unusedSimpArgs false
set_option linter.unusedVariables false
namespace Go.Proofs.YtpbfgnffkhabnaaDoor
open Go.RowKit Go.Grid

set_option maxRecDepth 100000 in
set_option maxHeartbeats 2000000 in
theorem normal_no (f a b c : Int) (w : World) (h : ¬ ValidI f a b c) : Calls Tryd.prog 79 #[.agg #[.int .i64 f, .int .i64 a, .int .i64 b, .int .i64 c]] w fun e w' => e = .returned (.tuple #[.agg #[.int .i64 0, .int .i64 0, .int .i64 0, .int .i64 0], .int .i64 1]) ∧ Below w.heap.size w w' := by
  have hv : validB f a b c = false := decide_eq_false h
  go_enter Tryd.func79, Tryd.ntmps79
  go_wp2_with fail
  refine (valid_any f a b c _).mono ?_
  rintro e w1 ⟨rfl, hb1⟩
  rw [hv]
  have q0 : w1.cell? ⟨w.heap.size + 1, 0, none⟩ = some (.int .i64 0) := RX.keep hb1 (by simp [RX.cell_drew, RX.cell_alloc, Nat.add_assoc])
  have q1 : w1.cell? ⟨w.heap.size + 1, 1, none⟩ = some (.int .i64 0) := RX.keep hb1 (by simp [RX.cell_drew, RX.cell_alloc, Nat.add_assoc])
  have q2 : w1.cell? ⟨w.heap.size + 1, 2, none⟩ = some (.int .i64 0) := RX.keep hb1 (by simp [RX.cell_drew, RX.cell_alloc, Nat.add_assoc])
  have q3 : w1.cell? ⟨w.heap.size + 1, 3, none⟩ = some (.int .i64 0) := RX.keep hb1 (by simp [RX.cell_drew, RX.cell_alloc, Nat.add_assoc])
  have f0 : w1.frozen? ⟨w.heap.size + 1, 0, none⟩ = false := (hb1.frozen (by simp <;> omega)).trans (by simp [RX.frozen_drew, RX.frozen_alloc, Nat.add_assoc])
  have f1 : w1.frozen? ⟨w.heap.size + 1, 1, none⟩ = false := (hb1.frozen (by simp <;> omega)).trans (by simp [RX.frozen_drew, RX.frozen_alloc, Nat.add_assoc])
  have f2 : w1.frozen? ⟨w.heap.size + 1, 2, none⟩ = false := (hb1.frozen (by simp <;> omega)).trans (by simp [RX.frozen_drew, RX.frozen_alloc, Nat.add_assoc])
  have f3 : w1.frozen? ⟨w.heap.size + 1, 3, none⟩ = false := (hb1.frozen (by simp <;> omega)).trans (by simp [RX.frozen_drew, RX.frozen_alloc, Nat.add_assoc])
  have hB : Below w.heap.size w w1 := Below.trans (by repeat (first | assumption | (with_reducible exact Below.refl _ _) | (with_reducible refine Below.setCell ?_ (by first | omega | (simp; done) | (simp; omega)) _) | (with_reducible refine Below.alloc ?_ (by first | omega | (simp; done) | (simp; omega)) _) | (with_reducible apply Below.drew))) (hb1.mono (by simp; omega))
  clear hb1
  go_wp2
  refine bodyPost_ret (v := .tuple #[.agg #[.int .i64 0, .int .i64 0, .int .i64 0, .int .i64 0], .int .i64 1]) ?_ rfl ⟨rfl, ?_⟩
  · simp [results, Tryd.results79, go_sem, q0, q1, q2, q3]
  · exact (by repeat (first | assumption | (with_reducible exact Below.refl _ _) | (with_reducible refine Below.setCell ?_ (by first | omega | (simp; done) | (simp; omega)) _) | (with_reducible refine Below.alloc ?_ (by first | omega | (simp; done) | (simp; omega)) _) | (with_reducible apply Below.drew)))

set_option maxRecDepth 100000 in
set_option maxHeartbeats 4000000 in
theorem normal_any (p : Pl) (hp : p.Ok) (w : World) (hT : HasTab w) : Calls Tryd.prog 79 #[pv p] w fun e w' => e = .returned (.tuple #[pv (normal p), .int .i64 0]) ∧ Below w.heap.size w w' := by
  have hv : validB p.f p.a p.b p.c = true := decide_eq_true (Ok.valid hp)
  have hlt := hT.lt
  have HP := Lib.hid hp
  have hf20 := hp.f
  clear hp
  simp only [pv]
  go_enter Tryd.func79, Tryd.ntmps79
  go_wp2_with fail
  refine (valid_any p.f p.a p.b p.c _).mono ?_
  rintro e w1 ⟨rfl, hb1⟩
  rw [hv]
  have p0 : w1.cell? ⟨w.heap.size, 0, none⟩ = some (.int .i64 p.f) := RX.keep hb1 (by simp [RX.cell_drew, RX.cell_alloc, Nat.add_assoc])
  have p1 : w1.cell? ⟨w.heap.size, 1, none⟩ = some (.int .i64 p.a) := RX.keep hb1 (by simp [RX.cell_drew, RX.cell_alloc, Nat.add_assoc])
  have p2 : w1.cell? ⟨w.heap.size, 2, none⟩ = some (.int .i64 p.b) := RX.keep hb1 (by simp [RX.cell_drew, RX.cell_alloc, Nat.add_assoc])
  have p3 : w1.cell? ⟨w.heap.size, 3, none⟩ = some (.int .i64 p.c) := RX.keep hb1 (by simp [RX.cell_drew, RX.cell_alloc, Nat.add_assoc])
  have q0 : w1.cell? ⟨w.heap.size + 1, 0, none⟩ = some (.int .i64 0) := RX.keep hb1 (by simp [RX.cell_drew, RX.cell_alloc, Nat.add_assoc])
  have q1 : w1.cell? ⟨w.heap.size + 1, 1, none⟩ = some (.int .i64 0) := RX.keep hb1 (by simp [RX.cell_drew, RX.cell_alloc, Nat.add_assoc])
  have q2 : w1.cell? ⟨w.heap.size + 1, 2, none⟩ = some (.int .i64 0) := RX.keep hb1 (by simp [RX.cell_drew, RX.cell_alloc, Nat.add_assoc])
  have q3 : w1.cell? ⟨w.heap.size + 1, 3, none⟩ = some (.int .i64 0) := RX.keep hb1 (by simp [RX.cell_drew, RX.cell_alloc, Nat.add_assoc])
  have f0 : w1.frozen? ⟨w.heap.size + 1, 0, none⟩ = false := (hb1.frozen (by simp <;> omega)).trans (by simp [RX.frozen_drew, RX.frozen_alloc, Nat.add_assoc])
  have f1 : w1.frozen? ⟨w.heap.size + 1, 1, none⟩ = false := (hb1.frozen (by simp <;> omega)).trans (by simp [RX.frozen_drew, RX.frozen_alloc, Nat.add_assoc])
  have f2 : w1.frozen? ⟨w.heap.size + 1, 2, none⟩ = false := (hb1.frozen (by simp <;> omega)).trans (by simp [RX.frozen_drew, RX.frozen_alloc, Nat.add_assoc])
  have f3 : w1.frozen? ⟨w.heap.size + 1, 3, none⟩ = false := (hb1.frozen (by simp <;> omega)).trans (by simp [RX.frozen_drew, RX.frozen_alloc, Nat.add_assoc])
  have hB : Below w.heap.size w w1 := Below.trans (by repeat (first | assumption | (with_reducible exact Below.refl _ _) | (with_reducible refine Below.setCell ?_ (by first | omega | (simp; done) | (simp; omega)) _) | (with_reducible refine Below.alloc ?_ (by first | omega | (simp; done) | (simp; omega)) _) | (with_reducible apply Below.drew))) (hb1.mono (by simp; omega))
  have hs1 : w.heap.size + 2 ≤ w1.heap.size := by have := hb1.size; simp at this; omega
  clear hb1
  have hT1 := hT.below hB
  go_wp2_with fail
  refine (of_any p hf20 _ hT1).mono ?_
  rintro e w2 ⟨rfl, hb2⟩
  have q0' := RX.keep hb2 q0
  have q1' := RX.keep hb2 q1
  have q2' := RX.keep hb2 q2
  have q3' := RX.keep hb2 q3
  have f0' := (hb2.frozen (p := ⟨w.heap.size + 1, 0, none⟩) (by show w.heap.size + 1 < _; omega)).trans f0
  have f1' := (hb2.frozen (p := ⟨w.heap.size + 1, 1, none⟩) (by show w.heap.size + 1 < _; omega)).trans f1
  have f2' := (hb2.frozen (p := ⟨w.heap.size + 1, 2, none⟩) (by show w.heap.size + 1 < _; omega)).trans f2
  have f3' := (hb2.frozen (p := ⟨w.heap.size + 1, 3, none⟩) (by show w.heap.size + 1 < _; omega)).trans f3
  have hB2 : Below w.heap.size w w2 := hB.trans (hb2.mono (by omega))
  have hs2 : w.heap.size + 2 ≤ w2.heap.size := by have := hb2.size; omega
  clear hb2 hB q0 q1 q2 q3 f0 f1 f2 f3 p0 p1 p2 p3 hs1 hT1 hv
  obtain ⟨B2, hB2e⟩ : ∃ x, x = w2.heap.size := ⟨_, rfl⟩
  unfold wts
  go_wp2
  rw [← hB2e]
  refine absW (F := fun w' => (∀ j, j < 12 → w'.cell? ⟨B2, j, none⟩ = some (.int .i64 (wt p j))) ∧ (w'.cell? ⟨w.heap.size + 1, 0, none⟩ = some (.int .i64 0) ∧ w'.cell? ⟨w.heap.size + 1, 1, none⟩ = some (.int .i64 0) ∧ w'.cell? ⟨w.heap.size + 1, 2, none⟩ = some (.int .i64 0) ∧ w'.cell? ⟨w.heap.size + 1, 3, none⟩ = some (.int .i64 0)) ∧ (w'.frozen? ⟨w.heap.size + 1, 0, none⟩ = false ∧ w'.frozen? ⟨w.heap.size + 1, 1, none⟩ = false ∧ w'.frozen? ⟨w.heap.size + 1, 2, none⟩ = false ∧ w'.frozen? ⟨w.heap.size + 1, 3, none⟩ = false) ∧ Below w.heap.size w w' ∧ w.heap.size + 2 ≤ w'.heap.size) ⟨?_, ⟨?_, ?_, ?_, ?_⟩, ⟨?_, ?_, ?_, ?_⟩, ?_, ?_⟩ ?_
  · intro j hj
    rw [RX.cell_alloc, if_pos hB2e]
    exact wtsA_get p j hj
  · exact (by (try have hLt := World.block_lt_of_cell? _ _ q0'); (try simp only at hLt); (repeat first | rw [RX.cell_drew] | rw [World.cell?_setCell_other _ _ _ _ (by first | (simp; done) | (simp; omega) | omega)] | rw [RX.cell_alloc, if_neg (by first | (simp; done) | (simp; omega) | omega)]); first | exact q0' | (rw [RX.cell_alloc, if_pos (by first | (simp; done) | omega)]; exact q0'))
  · exact (by (try have hLt := World.block_lt_of_cell? _ _ q1'); (try simp only at hLt); (repeat first | rw [RX.cell_drew] | rw [World.cell?_setCell_other _ _ _ _ (by first | (simp; done) | (simp; omega) | omega)] | rw [RX.cell_alloc, if_neg (by first | (simp; done) | (simp; omega) | omega)]); first | exact q1' | (rw [RX.cell_alloc, if_pos (by first | (simp; done) | omega)]; exact q1'))
  · exact (by (try have hLt := World.block_lt_of_cell? _ _ q2'); (try simp only at hLt); (repeat first | rw [RX.cell_drew] | rw [World.cell?_setCell_other _ _ _ _ (by first | (simp; done) | (simp; omega) | omega)] | rw [RX.cell_alloc, if_neg (by first | (simp; done) | (simp; omega) | omega)]); first | exact q2' | (rw [RX.cell_alloc, if_pos (by first | (simp; done) | omega)]; exact q2'))
  · exact (by (try have hLt := World.block_lt_of_cell? _ _ q3'); (try simp only at hLt); (repeat first | rw [RX.cell_drew] | rw [World.cell?_setCell_other _ _ _ _ (by first | (simp; done) | (simp; omega) | omega)] | rw [RX.cell_alloc, if_neg (by first | (simp; done) | (simp; omega) | omega)]); first | exact q3' | (rw [RX.cell_alloc, if_pos (by first | (simp; done) | omega)]; exact q3'))
  · rw [RX.frozen_alloc, if_neg (by omega)]; exact f0'
  · rw [RX.frozen_alloc, if_neg (by omega)]; exact f1'
  · rw [RX.frozen_alloc, if_neg (by omega)]; exact f2'
  · rw [RX.frozen_alloc, if_neg (by omega)]; exact f3'
  · exact hB2.alloc (by omega) _
  · simp; omega
  rintro W1 ⟨d, ⟨q0, q1, q2, q3⟩, ⟨f0, f1, f2, f3⟩, hB, hs⟩
  clear hB2 q0' q1' q2' q3' f0' f1' f2' f3' hs2 hB2e
  clear w2 w1
  have hTW := hT.below hB
  go_loopw [14] (fun i wr => ∃ k : Nat, k ≤ 20 ∧ i = .int .i64 k ∧ Hid (∀ j, j < k → okB (on j p) = false) ∧ Below W1.heap.size W1 wr) (fun i _ => 20 - (intOf i).toNat)
  case atStart => exact ⟨0, by omega, rfl, Lib.hid fun j hj => by omega, Below.refl _ _⟩
  case round =>
    obtain ⟨k, hk, rfl, HK, hbr⟩ := hrel
    have e0 := RX.keep hbr (d 0 (by omega))
    have e1 := RX.keep hbr (d 1 (by omega))
    have e2 := RX.keep hbr (d 2 (by omega))
    have e3 := RX.keep hbr (d 3 (by omega))
    have e4 := RX.keep hbr (d 4 (by omega))
    have e5 := RX.keep hbr (d 5 (by omega))
    have e6 := RX.keep hbr (d 6 (by omega))
    have e7 := RX.keep hbr (d 7 (by omega))
    have e8 := RX.keep hbr (d 8 (by omega))
    have e9 := RX.keep hbr (d 9 (by omega))
    have e10 := RX.keep hbr (d 10 (by omega))
    have e11 := RX.keep hbr (d 11 (by omega))
    have r0 := RX.keep hbr q0
    have r1 := RX.keep hbr q1
    have r2 := RX.keep hbr q2
    have r3 := RX.keep hbr q3
    have g0 := (hbr.frozen (p := ⟨w.heap.size + 1, 0, none⟩) (by show w.heap.size + 1 < _; omega)).trans f0
    have g1 := (hbr.frozen (p := ⟨w.heap.size + 1, 1, none⟩) (by show w.heap.size + 1 < _; omega)).trans f1
    have g2 := (hbr.frozen (p := ⟨w.heap.size + 1, 2, none⟩) (by show w.heap.size + 1 < _; omega)).trans f2
    have g3 := (hbr.frozen (p := ⟨w.heap.size + 1, 3, none⟩) (by show w.heap.size + 1 < _; omega)).trans f3
    have hTr := hTW.below hbr
    clear d q0 q1 q2 q3 f0 f1 f2 f3
    by_cases hlt : k < 20
    · go_wp2_with fail
      refine (on_any k hlt p _ hTr).mono ?_
      rintro e w3 ⟨rfl, hb3⟩
      cases hok : okB (on k p)
      · have HO := Lib.hid hok
        clear hok
        have hb4 : Below W1.heap.size W1 w3 := hbr.trans (hb3.mono hbr.size)
        clear hb3 hbr r0 r1 r2 r3 g0 g1 g2 g3 e0 e1 e2 e3 e4 e5 e6 e7 e8 e9 e10 e11
        unfold pv
        go_wp2
        go_roundw
        case rel => exact ⟨k + 1, by omega, by go_num, Lib.hid fun j hj => by
          by_cases hjk : j = k
          · subst hjk; exact HO.out
          · exact HK.out j (by omega), hb4.alloc hb4.size _⟩
        case measure => simp [intOf]; omega
      · have HE := Lib.hid (normal_first HP.out hlt hok HK.out)
        clear hok
        have r0' := RX.keep hb3 r0
        have r1' := RX.keep hb3 r1
        have r2' := RX.keep hb3 r2
        have r3' := RX.keep hb3 r3
        have g0' := (hb3.frozen (p := ⟨w.heap.size + 1, 0, none⟩) (show w.heap.size + 1 < wr.heap.size from World.block_lt_of_cell? wr ⟨w.heap.size + 1, 0, none⟩ r0)).trans g0
        have g1' := (hb3.frozen (p := ⟨w.heap.size + 1, 1, none⟩) (show w.heap.size + 1 < wr.heap.size from World.block_lt_of_cell? wr ⟨w.heap.size + 1, 0, none⟩ r0)).trans g1
        have g2' := (hb3.frozen (p := ⟨w.heap.size + 1, 2, none⟩) (show w.heap.size + 1 < wr.heap.size from World.block_lt_of_cell? wr ⟨w.heap.size + 1, 0, none⟩ r0)).trans g2
        have g3' := (hb3.frozen (p := ⟨w.heap.size + 1, 3, none⟩) (show w.heap.size + 1 < wr.heap.size from World.block_lt_of_cell? wr ⟨w.heap.size + 1, 0, none⟩ r0)).trans g3
        have hb4 : Below W1.heap.size W1 w3 := hbr.trans (hb3.mono hbr.size)
        have hb5 : Below w.heap.size w w3 := hB.trans (hb4.mono hB.size)
        have hs3 := hb5.size
        clear hb3 hbr r0 r1 r2 r3 g0 g1 g2 g3 e0 e1 e2 e3 e4 e5 e6 e7 e8 e9 e10 e11 hb4
        have hlt3 : w.heap.size + 1 < w3.heap.size := World.block_lt_of_cell? _ _ r0'
        unfold pv
        go_wp2
        refine bodyPost_ret (v := .tuple #[pv (on k p), .int .i64 0]) ?_ rfl ⟨?_, ?_⟩
        · have hne : ¬ (w.heap.size + 1 = w3.heap.size) := by omega
          simp [results, Tryd.results79, go_sem, pv, RX.cell_alloc, hne, r0', r1', r2', r3']
        · rw [← HE.out]; rfl
        · exact (by repeat (first | assumption | (with_reducible exact Below.refl _ _) | (with_reducible refine Below.setCell ?_ (by first | omega | (simp; done) | (simp; omega)) _) | (with_reducible refine Below.alloc ?_ (by first | omega | (simp; done) | (simp; omega)) _) | (with_reducible apply Below.drew)))
    · exfalso
      obtain ⟨g, _, hg, hg2, _⟩ := nface_some HP.out
      have := HK.out g (by omega)
      rw [this] at hg2
      cases hg2
end Go.Proofs.YtpbfgnffkhabnaaDoor
