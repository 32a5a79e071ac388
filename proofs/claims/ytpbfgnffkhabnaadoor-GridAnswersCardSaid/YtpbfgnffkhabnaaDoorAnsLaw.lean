import Derived.Test.YtpbfgnffkhabnaaDoorAns
import Derived.Test.YtpbfgnffkhabnaaDoorKSrc
import Derived.Test.YtpbfgnffkhabnaaDoorAwake03
set_option linter.unusedSimpArgs false
set_option linter.unusedVariables false
namespace Go.Proofs.YtpbfgnffkhabnaaDoor
open Go.RowKit Go.Sort Go.Shelf Go.Grid

set_option maxRecDepth 100000 in
set_option maxHeartbeats 4000000 in
theorem answers_law (W : World) (n0 f a b c : Int) (q : Option Addr) (cap : Nat) (L : List Int) (hV : VecAt W q L) (hI : I64L L) (hl : L.length ≤ cap) (hc : cap ≤ 9223372036854775807) (hT : HasTab W) :
    Calls Tryd.prog 3 #[.int .i64 n0, .agg #[.int .i64 f, .int .i64 a, .int .i64 b, .int .i64 c], .slice q L.length cap] W fun e w' => e = .returned (.bool true) ∧ Below W.heap.size W w' := by
  go_enter Tryd.func3, Tryd.ntmps3
  go_wp2_with fail
  have hb0 : Below W.heap.size W (W.alloc (.cells #[.int .i64 f, .int .i64 a, .int .i64 b, .int .i64 c] 23)) := (Below.refl _ _).alloc (Nat.le_refl _) _
  refine (knew_any q cap L _ (hV.below hb0) hI hl hc).mono ?_
  rintro e w1 ⟨rfl, hb, sb, hblt, hs⟩
  clear hV hI
  generalize min L.length 2000 = N at *
  have p0 : w1.cell? ⟨W.heap.size, 0, none⟩ = some (.int .i64 f) := RX.keep hb (by simp [RX.cell_drew, RX.cell_alloc, Nat.add_assoc])
  have p1 : w1.cell? ⟨W.heap.size, 1, none⟩ = some (.int .i64 a) := RX.keep hb (by simp [RX.cell_drew, RX.cell_alloc, Nat.add_assoc])
  have p2 : w1.cell? ⟨W.heap.size, 2, none⟩ = some (.int .i64 b) := RX.keep hb (by simp [RX.cell_drew, RX.cell_alloc, Nat.add_assoc])
  have p3 : w1.cell? ⟨W.heap.size, 3, none⟩ = some (.int .i64 c) := RX.keep hb (by simp [RX.cell_drew, RX.cell_alloc, Nat.add_assoc])
  replace hb := hb0.trans (hb.mono hb0.size)
  clear hb0
  go_wp2_with fail
  refine (somewhere_any w1 (W.heap.size + 1) sb N 0 (by simpa using hs) (fun h0 => by have := hblt h0; simp at this; have := hb.size; have := hs.lt; simp at this; omega)).mono ?_
  rintro e w2 ⟨x, rfl, hx, hg2, i2, hs2⟩
  have hsz1 : W.heap.size + 1 < w1.heap.size := by have := hs.lt; simpa using this
  replace p0 := hg2.cell p0 (by simp)
  replace p1 := hg2.cell p1 (by simp)
  replace p2 := hg2.cell p2 (by simp)
  replace p3 := hg2.cell p3 (by simp)
  replace hb := hb.grown hg2 hb.size (fun k hk => by injection hk with hk; omega)
  have hsz2 := hg2.size
  clear hg2 hs hblt
  have HX := Lib.hid hx
  clear hx
  unfold pv
  go_wp2_with fail
  have hb3 := hb.alloc hb.size (.cells #[.int .i64 x.f, .int .i64 x.a, .int .i64 x.b, .int .i64 x.c] 23)
  have hs3 := hs2.below ((Below.refl w2.heap.size w2).alloc (Nat.le_refl _) (.cells #[.int .i64 x.f, .int .i64 x.a, .int .i64 x.b, .int .i64 x.c] 23))
  have x0 : (w2.alloc (.cells #[.int .i64 x.f, .int .i64 x.a, .int .i64 x.b, .int .i64 x.c] 23)).cell? ⟨w2.heap.size, 0, none⟩ = some (.int .i64 x.f) := (by simp [RX.cell_drew, RX.cell_alloc, Nat.add_assoc])
  have x1 : (w2.alloc (.cells #[.int .i64 x.f, .int .i64 x.a, .int .i64 x.b, .int .i64 x.c] 23)).cell? ⟨w2.heap.size, 1, none⟩ = some (.int .i64 x.a) := (by simp [RX.cell_drew, RX.cell_alloc, Nat.add_assoc])
  have x2 : (w2.alloc (.cells #[.int .i64 x.f, .int .i64 x.a, .int .i64 x.b, .int .i64 x.c] 23)).cell? ⟨w2.heap.size, 2, none⟩ = some (.int .i64 x.b) := (by simp [RX.cell_drew, RX.cell_alloc, Nat.add_assoc])
  have x3 : (w2.alloc (.cells #[.int .i64 x.f, .int .i64 x.a, .int .i64 x.b, .int .i64 x.c] 23)).cell? ⟨w2.heap.size, 3, none⟩ = some (.int .i64 x.c) := (by simp [RX.cell_drew, RX.cell_alloc, Nat.add_assoc])
  replace p0 : (w2.alloc (.cells #[.int .i64 x.f, .int .i64 x.a, .int .i64 x.b, .int .i64 x.c] 23)).cell? ⟨W.heap.size, 0, none⟩ = some (.int .i64 f) := (by (try have hLt := World.block_lt_of_cell? _ _ p0); (try simp only at hLt); (repeat first | rw [RX.cell_drew] | rw [World.cell?_setCell_other _ _ _ _ (by first | (simp; done) | (simp; omega) | omega)] | rw [RX.cell_alloc, if_neg (by first | (simp; done) | (simp; omega) | omega)]); first | exact p0 | (rw [RX.cell_alloc, if_pos (by first | (simp; done) | omega)]; exact p0))
  replace p1 : (w2.alloc (.cells #[.int .i64 x.f, .int .i64 x.a, .int .i64 x.b, .int .i64 x.c] 23)).cell? ⟨W.heap.size, 1, none⟩ = some (.int .i64 a) := (by (try have hLt := World.block_lt_of_cell? _ _ p1); (try simp only at hLt); (repeat first | rw [RX.cell_drew] | rw [World.cell?_setCell_other _ _ _ _ (by first | (simp; done) | (simp; omega) | omega)] | rw [RX.cell_alloc, if_neg (by first | (simp; done) | (simp; omega) | omega)]); first | exact p1 | (rw [RX.cell_alloc, if_pos (by first | (simp; done) | omega)]; exact p1))
  replace p2 : (w2.alloc (.cells #[.int .i64 x.f, .int .i64 x.a, .int .i64 x.b, .int .i64 x.c] 23)).cell? ⟨W.heap.size, 2, none⟩ = some (.int .i64 b) := (by (try have hLt := World.block_lt_of_cell? _ _ p2); (try simp only at hLt); (repeat first | rw [RX.cell_drew] | rw [World.cell?_setCell_other _ _ _ _ (by first | (simp; done) | (simp; omega) | omega)] | rw [RX.cell_alloc, if_neg (by first | (simp; done) | (simp; omega) | omega)]); first | exact p2 | (rw [RX.cell_alloc, if_pos (by first | (simp; done) | omega)]; exact p2))
  replace p3 : (w2.alloc (.cells #[.int .i64 x.f, .int .i64 x.a, .int .i64 x.b, .int .i64 x.c] 23)).cell? ⟨W.heap.size, 3, none⟩ = some (.int .i64 c) := (by (try have hLt := World.block_lt_of_cell? _ _ p3); (try simp only at hLt); (repeat first | rw [RX.cell_drew] | rw [World.cell?_setCell_other _ _ _ _ (by first | (simp; done) | (simp; omega) | omega)] | rw [RX.cell_alloc, if_neg (by first | (simp; done) | (simp; omega) | omega)]); first | exact p3 | (rw [RX.cell_alloc, if_pos (by first | (simp; done) | omega)]; exact p3))
  clear hb hs2
  refine (srcRange_any _ (W.heap.size + 1) sb N i2 1 8 (by simpa using hs3) (by omega) (by omega) (by omega)).mono ?_
  rintro e w4 ⟨m0, rfl, hm1, hm8, hg4, _, _⟩
  replace p0 := hg4.cell p0 (by simp)
  replace p1 := hg4.cell p1 (by simp)
  replace p2 := hg4.cell p2 (by simp)
  replace p3 := hg4.cell p3 (by simp)
  have hnx : some w2.heap.size ≠ some (W.heap.size + 1) := fun e => by injection e with e; omega
  replace x0 := hg4.cell x0 (by simp; omega)
  replace x1 := hg4.cell x1 (by simp; omega)
  replace x2 := hg4.cell x2 (by simp; omega)
  replace x3 := hg4.cell x3 (by simp; omega)
  have hb4 := hb3.grown hg4 hb3.size (fun k hk => by injection hk with hk; omega)
  have hsz4 : w2.heap.size < w4.heap.size := World.block_lt_of_cell? _ _ x0
  clear hg4 hb3 hs3 hnx
  generalize w2.heap.size = X at *
  generalize hP : W.heap.size = P at *
  rw [← hP] at hb4
  have HB4 := Lib.hid hb4
  have HP4 := Lib.hid hP
  clear hb4 hP
  go_wp2
  go_loopw [34] (fun i wr => ∃ j : Nat, j ≤ 2 ∧ i = .int .i64 j ∧ Below w4.heap.size w4 wr ∧ (wr.cell? ⟨w4.heap.size, 0, none⟩ = some (.int .i64 n0) ∧ wr.cell? ⟨w4.heap.size, 1, none⟩ = some (.int .i64 m0))) (fun i _ => 2 - (intOf i).toNat)
  case atStart => exact ⟨0, by omega, rfl, (by repeat (first | (with_reducible assumption) | (with_reducible exact Below.refl _ _) | (with_reducible refine Below.setCell ?_ (by first | omega | (simp; done) | (simp; omega)) _) | (with_reducible refine Below.alloc ?_ (by first | omega | (simp; done) | (simp; omega)) _) | (with_reducible apply Below.drew) | assumption)), (by simp [RX.cell_drew, RX.cell_alloc, Nat.add_assoc]), (by simp [RX.cell_drew, RX.cell_alloc, Nat.add_assoc])⟩
  case round =>
    obtain ⟨j, hj, rfl, hB, k0, k1⟩ := hrel
    generalize wr = wo at *
    by_cases hlt : j < 2
    · have hdk : decide ((j : Int) < 2) = true := decide_eq_true (by omega)
      obtain ⟨k, hk⟩ : ∃ k : Int, wo.cell? ⟨w4.heap.size, j, none⟩ = some (.int .i64 k) := by
        rcases (show j = 0 ∨ j = 1 by omega) with rfl | rfl
        · exact ⟨_, k0⟩
        · exact ⟨_, k1⟩
      replace p0 := RX.keep hB p0
      replace p1 := RX.keep hB p1
      replace p2 := RX.keep hB p2
      replace p3 := RX.keep hB p3
      replace x0 := RX.keep hB x0
      replace x1 := RX.keep hB x1
      replace x2 := RX.keep hB x2
      replace x3 := RX.keep hB x3
      have hTr : HasTab wo := hT.below (HB4.out.trans (hB.mono HB4.out.size))
      have HTR := Lib.hid hTr
      clear hTr
      have hwr : w4.heap.size < wo.heap.size := World.block_lt_of_cell? _ _ k0
      go_wp2_with fail
      refine (count_any k _).mono ?_
      rintro e w5 ⟨rfl, rfl⟩
      go_wp2_with fail
      refine (rcount_any k _).mono ?_
      rintro e w5 ⟨rfl, rfl⟩
      have hcc : (countI k != countI k) = false := by rw [bne, beq_self_eq_true]; rfl
      generalize countI k = ck at *
      go_wp2
      go_loopw [47] (fun i wr => ∃ j2 : Nat, j2 ≤ 2 ∧ i = .int .i64 j2 ∧ Below wo.heap.size wo wr ∧ (wr.cell? ⟨wo.heap.size, 0, none⟩ = some (.int .i64 f) ∧ wr.cell? ⟨wo.heap.size, 1, none⟩ = some (.int .i64 a) ∧ wr.cell? ⟨wo.heap.size, 2, none⟩ = some (.int .i64 b) ∧ wr.cell? ⟨wo.heap.size, 3, none⟩ = some (.int .i64 c) ∧ wr.cell? ⟨wo.heap.size, 4, none⟩ = some (.int .i64 x.f) ∧ wr.cell? ⟨wo.heap.size, 5, none⟩ = some (.int .i64 x.a) ∧ wr.cell? ⟨wo.heap.size, 6, none⟩ = some (.int .i64 x.b) ∧ wr.cell? ⟨wo.heap.size, 7, none⟩ = some (.int .i64 x.c))) (fun i _ => 2 - (intOf i).toNat)
      case atStart => exact ⟨0, by omega, rfl, (by repeat (first | (with_reducible assumption) | (with_reducible exact Below.refl _ _) | (with_reducible refine Below.setCell ?_ (by first | omega | (simp; done) | (simp; omega)) _) | (with_reducible refine Below.alloc ?_ (by first | omega | (simp; done) | (simp; omega)) _) | (with_reducible apply Below.drew) | assumption)), (by simp [RX.cell_drew, RX.cell_alloc, Nat.add_assoc]), (by simp [RX.cell_drew, RX.cell_alloc, Nat.add_assoc]), (by simp [RX.cell_drew, RX.cell_alloc, Nat.add_assoc]), (by simp [RX.cell_drew, RX.cell_alloc, Nat.add_assoc]), (by simp [RX.cell_drew, RX.cell_alloc, Nat.add_assoc]), (by simp [RX.cell_drew, RX.cell_alloc, Nat.add_assoc]), (by simp [RX.cell_drew, RX.cell_alloc, Nat.add_assoc]), (by simp [RX.cell_drew, RX.cell_alloc, Nat.add_assoc])⟩
      case round =>
        obtain ⟨j2, hj2, rfl, hB2, y0, y1, y2, y3, y4, y5, y6, y7⟩ := hrel
        by_cases hlt2 : j2 < 2
        · have hdk2 : decide ((j2 : Int) < 2) = true := decide_eq_true (by omega)
          obtain ⟨qf, qa, qb, qc, q0, q1, q2, q3⟩ : ∃ qf qa qb qc : Int, wr.cell? ⟨wo.heap.size, j2 * 4, none⟩ = some (.int .i64 qf) ∧ wr.cell? ⟨wo.heap.size, j2 * 4 + 1, none⟩ = some (.int .i64 qa) ∧ wr.cell? ⟨wo.heap.size, j2 * 4 + 2, none⟩ = some (.int .i64 qb) ∧ wr.cell? ⟨wo.heap.size, j2 * 4 + 3, none⟩ = some (.int .i64 qc) := by
            rcases (show j2 = 0 ∨ j2 = 1 by omega) with rfl | rfl
            · exact ⟨_, _, _, _, y0, y1, y2, y3⟩
            · exact ⟨_, _, _, _, y4, y5, y6, y7⟩
          have hwr2 : wo.heap.size < wr.heap.size := World.block_lt_of_cell? _ _ y0
          have hB3 := hB2.alloc hB2.size (.cells #[.int .i64 qf, .int .i64 qa, .int .i64 qb, .int .i64 qc] 23)
          have HY := Lib.hid (And.intro hB2 (And.intro y0 (And.intro y1 (And.intro y2 (And.intro y3 (And.intro y4 (And.intro y5 (And.intro y6 y7))))))))
          clear y0 y1 y2 y3 y4 y5 y6 y7 hB2
          go_wp2_with fail
          refine (gindexT k qf qa qb qc _ (HTR.out.below hB3)).mono ?_
          rintro e v1 ⟨rfl, hv1⟩
          have z0 : v1.cell? ⟨wr.heap.size, 0, none⟩ = some (.int .i64 qf) := RX.keep hv1 (by simp [RX.cell_drew, RX.cell_alloc, Nat.add_assoc])
          have z1 : v1.cell? ⟨wr.heap.size, 1, none⟩ = some (.int .i64 qa) := RX.keep hv1 (by simp [RX.cell_drew, RX.cell_alloc, Nat.add_assoc])
          have z2 : v1.cell? ⟨wr.heap.size, 2, none⟩ = some (.int .i64 qb) := RX.keep hv1 (by simp [RX.cell_drew, RX.cell_alloc, Nat.add_assoc])
          have z3 : v1.cell? ⟨wr.heap.size, 3, none⟩ = some (.int .i64 qc) := RX.keep hv1 (by simp [RX.cell_drew, RX.cell_alloc, Nat.add_assoc])
          have hF : Below wr.heap.size wr v1 := Below.trans ((Below.refl _ _).alloc (Nat.le_refl _) _) (hv1.mono (by simp))
          replace hB3 := hB3.trans (hv1.mono hB3.size)
          clear hv1 q0 q1 q2 q3
          go_wp2_with fail
          refine (rindexT k qf qa qb qc _).mono ?_
          rintro e v2 ⟨rfl, hv2⟩
          replace z0 := RX.keep hv2 z0
          replace z1 := RX.keep hv2 z1
          replace z2 := RX.keep hv2 z2
          replace z3 := RX.keep hv2 z3
          replace hF := hF.trans (hv2.mono hF.size)
          replace hB3 := hB3.trans (hv2.mono hB3.size)
          clear hv2
          have hei : (idxV k qf qa qb qc != idxV k qf qa qb qc) = false := by rw [bne, beq_self_eq_true]; rfl
          have hee : (idxE k qf qa qb qc != idxE k qf qa qb qc) = false := by rw [bne, beq_self_eq_true]; rfl
          generalize idxV k qf qa qb qc = iv at *
          generalize idxE k qf qa qb qc = ie at *
          go_wp2_with fail
          refine (glocateT k qf qa qb qc _ (HTR.out.below hB3)).mono ?_
          rintro e v3 ⟨lv, T, rfl, hsv, hloc, hv3⟩
          replace z0 := RX.keep hv3 z0
          replace z1 := RX.keep hv3 z1
          replace z2 := RX.keep hv3 z2
          replace z3 := RX.keep hv3 z3
          replace hF := hF.trans (hv3.mono hF.size)
          replace hB3 := hB3.trans (hv3.mono hB3.size)
          clear hv3
          go_wp2_with fail
          refine (rlocateT k qf qa qb qc _).mono ?_
          rintro e v4 ⟨lv2, T2, rfl, hsv2, hloc2, hv4⟩
          obtain rfl := hloc2.unique hloc
          replace hsv := hsv.kept hv4
          replace z0 := RX.keep hv4 z0
          replace z1 := RX.keep hv4 z1
          replace z2 := RX.keep hv4 z2
          replace z3 := RX.keep hv4 z3
          replace hF := hF.trans (hv4.mono hF.size)
          replace hB3 := hB3.trans (hv4.mono hB3.size)
          clear hv4
          have HLO := Lib.hid hloc
          clear hloc hloc2
          have her : (errI k qf qa qb qc != errI k qf qa qb qc) = false := by rw [bne, beq_self_eq_true]; rfl
          generalize her0 : errI k qf qa qb qc = er at *
          have HER := Lib.hid her0
          clear her0
          go_wp2_with fail
          refine (gnearestT k qf qa qb qc _ (HTR.out.below hB3)).mono ?_
          rintro e v5 ⟨T3, rfl, hloc3, hv5⟩
          obtain rfl := hloc3.unique HLO.out
          replace hsv := hsv.kept hv5
          replace hsv2 := hsv2.kept hv5
          replace z0 := RX.keep hv5 z0
          replace z1 := RX.keep hv5 z1
          replace z2 := RX.keep hv5 z2
          replace z3 := RX.keep hv5 z3
          replace hF := hF.trans (hv5.mono hF.size)
          replace hB3 := hB3.trans (hv5.mono hB3.size)
          clear hv5
          clear hloc3
          rw [HER.out]
          go_wp2_with fail
          refine (rnearestT k qf qa qb qc _).mono ?_
          rintro e v6 ⟨T4, rfl, hloc4, hv6⟩
          obtain rfl := hloc4.unique HLO.out
          replace hsv := hsv.kept hv6
          replace hsv2 := hsv2.kept hv6
          replace z0 := RX.keep hv6 z0
          replace z1 := RX.keep hv6 z1
          replace z2 := RX.keep hv6 z2
          replace z3 := RX.keep hv6 z3
          replace hF := hF.trans (hv6.mono hF.size)
          replace hB3 := hB3.trans (hv6.mono hB3.size)
          clear hv6
          clear hloc4
          rw [HER.out]
          have hen : (nearV k qf qa qb qc T4 != nearV k qf qa qb qc T4) = false := by rw [bne, beq_self_eq_true]; rfl
          generalize nearV k qf qa qb qc T4 = nv at *
          obtain ⟨pa, ca, rfl, hca, hin⟩ := hsv
          obtain ⟨pb, cb, rfl, hcb, hin2⟩ := hsv2
          have hle := HLO.out.le
          have HIN := Lib.hid (And.intro hin hin2)
          clear hin hin2
          go_wp2_with fail
          refine (shares_any _ pa pb ca cb T4 T4 HIN.out.1 HIN.out.2 hca hcb (by omega) (by omega)).mono ?_
          rintro e v7 ⟨rfl, hv7⟩
          have heq : eqB T4 T4 = true := decide_eq_true rfl
          rw [heq]
          replace hF := hF.trans (hv7.mono hF.size)
          have HF := Lib.hid (And.intro (HY.out.1.trans (hF.mono HY.out.1.size)) hF)
          clear hv7 hF hB3 z0 z1 z2 z3 heq
          go_wp2
          obtain ⟨f1, f2⟩ := HF.out
          obtain ⟨_, y0, y1, y2, y3, y4, y5, y6, y7⟩ := HY.out
          go_roundw
          case rel => first | exact ⟨j2 + 1, by omega, by go_num, f1, RX.keep f2 y0, RX.keep f2 y1, RX.keep f2 y2, RX.keep f2 y3, RX.keep f2 y4, RX.keep f2 y5, RX.keep f2 y6, RX.keep f2 y7⟩ | ((repeat apply Exists.intro); exact ⟨⟨j2 + 1, by omega, by go_num, f1, RX.keep f2 y0, RX.keep f2 y1, RX.keep f2 y2, RX.keep f2 y3, RX.keep f2 y4, RX.keep f2 y5, RX.keep f2 y6, RX.keep f2 y7⟩, rfl⟩)
          case measure => simp [intOf]; omega
        · obtain rfl : j2 = 2 := by omega
          have HF := Lib.hid hB2
          clear hB2 y0 y1 y2 y3 y4 y5 y6 y7
          go_wp2
          go_roundw
          case rel => first | exact ⟨j + 1, by omega, by go_num, hB.trans (HF.out.mono hB.size), RX.keep HF.out k0, RX.keep HF.out k1⟩ | ((repeat apply Exists.intro); exact ⟨⟨j + 1, by omega, by go_num, hB.trans (HF.out.mono hB.size), RX.keep HF.out k0, RX.keep HF.out k1⟩, rfl⟩)
          case measure => simp [intOf]; omega
    · obtain rfl : j = 2 := by omega
      have hB9 := HB4.out.trans (hB.mono HB4.out.size)
      clear hB k0 k1
      go_wp2_with fail
      refine (awake03_any wo (hT.below hB9)).mono ?_
      rintro e w9 ⟨rfl, hb9⟩
      have HF := Lib.hid (hB9.trans (hb9.mono hB9.size))
      clear hb9 hB9
      go_wp2
      go_ret
      exact ⟨rfl, HF.out⟩
end Go.Proofs.YtpbfgnffkhabnaaDoor
