import Derived.Test.YtlfhildbjipheaaGreatDoorHops
import Derived.Test.YtlfhildbjipheaaGreatDoorListA
import Derived.Test.YtlfhildbjipheaaGreatDoorKSrc
import Derived.Test.YtlfhildbjipheaaGreatDoorAwake03
set_option linter.unusedSimpArgs false
set_option linter.unusedVariables false
namespace Go.Proofs.YtlfhildbjipheaaGreatDoor
open Go.RowKit Go.Grid Go.Maps Go.Sort Go.Shelf

set_option maxRecDepth 100000
set_option maxHeartbeats 1000000
/-- keep.In -/
theorem kin_any (v : Value) (zs : List Int) (x : Int) (w : World) (h : RdI w v zs) (hl : zs.length ≤ 1000000) : Calls Tryz.prog 44 #[v, .int .i64 x] w fun e w' => e = .returned (.bool (decide (x ∈ zs))) ∧ w = w' := by
  obtain ⟨p, cap, rfl, hcap, hV⟩ := h
  go_enter Tryz.func44, Tryz.ntmps44
  go_wp2
  go_loopw [5] (fun i wr => ∃ k : Nat, k ≤ zs.length ∧ i = .int .i64 k ∧ Hid (∀ j (h : j < zs.length), j < k → zs[j] ≠ x) ∧ wr = w) (fun i _ => zs.length - (intOf i).toNat)
  case atStart => exact ⟨0, by omega, rfl, Lib.hid fun j _ hj => by omega, rfl⟩
  case round =>
    obtain ⟨k, hk, rfl, HK, rfl⟩ := hrel
    by_cases hlt : k < zs.length
    · have hdk : decide ((k : Int) < (zs.length : Int)) = true := decide_eq_true (by omega)
      obtain ⟨b, o, rfl, hbl, hcell⟩ := hV.cell (by omega)
      have ck := hcell k hlt
      obtain ⟨y, hy⟩ : ∃ y, y = zs[k] := ⟨_, rfl⟩
      rw [← hy] at ck
      have HY := Lib.hid hy
      clear hy hcell
      by_cases hr : y = x
      · have HN : Hid (decide (x ∈ zs) = true) := Lib.hid (decide_eq_true (by rw [← hr, HY.out]; exact List.getElem_mem _))
        subst hr
        go_wp2
        go_ret
        rw [HN.out]; exact ⟨rfl, rfl⟩
      · have hb : (y == x) = false := by rw [beq_eq_false_iff_ne]; exact hr
        go_wp2
        go_roundw
        case rel => exact ⟨k + 1, by omega, by go_num, Lib.hid fun j hj hjk => by
          by_cases h : j = k
          · subst h; rw [← HY.out]; exact hr
          · exact HK.out j hj (by omega), (by first | rfl | trivial)⟩
        case measure => simp [intOf]; omega
    · have hdk : decide ((k : Int) < (zs.length : Int)) = false := decide_eq_false (by omega)
      have hkl : k = zs.length := by omega
      have HN : Hid (decide (x ∈ zs) = false) := Lib.hid (decide_eq_false fun hx => by
        obtain ⟨j, hj, e⟩ := List.getElem_of_mem hx
        exact HK.out j hj (by omega) e)
      clear hkl
      go_wp2
      go_ret
      rw [HN.out]; exact ⟨rfl, rfl⟩
theorem hops_nat {n a b : Int} (h : HopsI n a b) : ∃ m i j : Nat, n = m ∧ a = i ∧ b = j ∧ 1 ≤ m ∧ m ≤ 8 ∧ i < (nodesL m).length ∧ j < (nodesL m).length := by
  obtain ⟨m, i, rfl, rfl, h1, h8, hi⟩ := nodeI_nat h.1
  obtain ⟨m2, j, e, rfl, _, _, hj⟩ := nodeI_nat h.2
  obtain rfl : m = m2 := by omega
  exact ⟨m, i, j, rfl, rfl, rfl, h1, h8, hi, hj⟩
theorem ghopsA (n a b : Int) (w : World) (hT : HasTab w) : Calls Tryz.prog 41 #[.int .i64 n, .int .i64 a, .int .i64 b] w fun e w' => e = .returned (.tuple #[.int .i64 (hopV n a b), .int .i64 (hopE n a b)]) ∧ Below w.heap.size w w' := by
  by_cases h : HopsI n a b
  · have e1 : hopV n a b = hop n.toNat a.toNat b.toNat := if_pos h
    have e2 : hopE n a b = 0 := if_pos h
    rw [e1, e2]
    obtain ⟨m, i, j, rfl, rfl, rfl, h1, h8, hi, hj⟩ := hops_nat h
    refine (ghops_at m i j h1 h8 hi hj w hT).mono ?_
    rintro e w' ⟨rfl, _, hb⟩
    exact ⟨rfl, hb⟩
  · have e1 : hopV n a b = 0 := if_neg h
    have e2 : hopE n a b = 1 := if_neg h
    rw [e1, e2]
    refine (ghops_no n a b h w).mono ?_
    rintro e w' ⟨rfl, rfl⟩
    exact ⟨rfl, Below.refl _ _⟩
theorem rhopsA (n a b : Int) (w : World) : Calls Tryz.prog 43 #[.int .i64 n, .int .i64 a, .int .i64 b] w fun e w' => e = .returned (.tuple #[.int .i64 (hopV n a b), .int .i64 (hopE n a b)]) ∧ Below w.heap.size w w' := by
  by_cases h : HopsI n a b
  · have e1 : hopV n a b = hop n.toNat a.toNat b.toNat := if_pos h
    have e2 : hopE n a b = 0 := if_pos h
    rw [e1, e2]
    obtain ⟨m, i, j, rfl, rfl, rfl, h1, h8, hi, hj⟩ := hops_nat h
    refine (rhops_at m i j h1 h8 hi hj w).mono ?_
    rintro e w' ⟨rfl, _, hb⟩
    exact ⟨rfl, hb⟩
  · have e1 : hopV n a b = 0 := if_neg h
    have e2 : hopE n a b = 1 := if_neg h
    rw [e1, e2]
    refine (rhops_no n a b h w).mono ?_
    rintro e w' ⟨rfl, rfl⟩
    exact ⟨rfl, Below.refl _ _⟩

set_option maxHeartbeats 4000000 in
theorem hops_law (W : World) (q : Option Addr) (cap : Nat) (L : List Int) (n0 x0 y0 : Int) (hV : VecAt W q L) (hI : I64L L) (hl : L.length ≤ cap) (hc : cap ≤ 9223372036854775807) (hT : HasTab W) :
    Calls Tryz.prog 6 #[.slice q L.length cap, .int .i64 n0, .int .i64 x0, .int .i64 y0] W fun e w' => e = .returned (.bool true) ∧ Below W.heap.size W w' := by
  go_enter Tryz.func6, Tryz.ntmps6
  go_wp2_with fail
  refine (knew_any q cap L W hV hI hl hc).mono ?_
  rintro e w1 ⟨rfl, hb, b0, hblt, hs⟩
  clear hV hI
  generalize min L.length 2000 = N at *
  go_wp2_with fail
  refine (srcRange_any w1 W.heap.size b0 N 0 1 4 hs (by omega) (by omega) (by omega)).mono ?_
  rintro e w2 ⟨ni, rfl, hn1, hn4, hg2, i2, hs2⟩
  obtain ⟨n, rfl⟩ : ∃ n : Nat, ni = n := ⟨ni.toNat, by omega⟩
  replace hb := hb.grown hg2 hb.size (fun k hk => by injection hk with hk; omega)
  clear hg2 hs
  have h1 : 1 ≤ n := by omega
  have h8 : n ≤ 8 := by omega
  obtain ⟨M, hM⟩ : ∃ M, M = (nodesL n).length := ⟨_, rfl⟩
  have hcM : countI (n : Int) = (M : Int) := by
    rw [(countI_nat h1 h8).1, hM, nodes_len h1 h8]; simp
  have hM12 : 12 ≤ M ∧ M ≤ 642 := by have := countI_nat h1 h8; omega
  go_wp2_with fail
  refine (rcount_any n _).mono ?_
  rintro e w3 ⟨rfl, rfl⟩
  rw [hcM]
  have HM := Lib.hid hM
  clear hcM hM hn1 hn4
  go_wp2_with fail
  refine (srcN_any w2 W.heap.size b0 N i2 M hs2 (by omega) (by omega)).mono ?_
  rintro e w3 ⟨ai, rfl, ha0, ha1, hg3, i3, hs3⟩
  obtain ⟨a, rfl⟩ : ∃ a : Nat, ai = a := ⟨ai.toNat, by omega⟩
  replace hb := hb.grown hg3 hb.size (fun k hk => by injection hk with hk; omega)
  clear hg3 hs2
  go_wp2_with fail
  refine (srcN_any w3 W.heap.size b0 N i3 M hs3 (by omega) (by omega)).mono ?_
  rintro e w4 ⟨bi, rfl, hb0', hb1', hg4, i4, hs4⟩
  obtain ⟨b, rfl⟩ : ∃ b : Nat, bi = b := ⟨bi.toNat, by omega⟩
  replace hb := hb.grown hg4 hb.size (fun k hk => by injection hk with hk; omega)
  clear hg4 hs3
  go_wp2_with fail
  refine (srcN_any w4 W.heap.size b0 N i4 M hs4 (by omega) (by omega)).mono ?_
  rintro e w5 ⟨ci, rfl, hc0, hc1', hg5, i5, hs5⟩
  obtain ⟨c, rfl⟩ : ∃ c : Nat, ci = c := ⟨ci.toNat, by omega⟩
  replace hb := hb.grown hg5 hb.size (fun k hk => by injection hk with hk; omega)
  clear hg5 hs4 hs5
  have ha : a < (nodesL n).length := by rw [← HM.out]; omega
  have hbb : b < (nodesL n).length := by rw [← HM.out]; omega
  have hcc : c < (nodesL n).length := by rw [← HM.out]; omega
  have HB5 := Lib.hid hb
  clear hb
  -- the hops
  go_wp2_with fail
  refine (ghops_at n a b h1 h8 ha hbb w5 (hT.below HB5.out)).mono ?_
  rintro e w6 ⟨rfl, hSa, hb6⟩
  have HB6 := Lib.hid (HB5.out.trans (hb6.mono HB5.out.size))
  clear hb6 HB5
  go_wp2_with fail
  refine (ghops_at n b a h1 h8 hbb ha w6 (hT.below HB6.out)).mono ?_
  rintro e w7 ⟨rfl, hSb, hb7⟩
  rw [hop_symm h1 h8 hbb ha hSb hSa]
  have HB7 := Lib.hid (HB6.out.trans (hb7.mono HB6.out.size))
  clear hb7 HB6
  go_wp2_with fail
  refine (ghops_at n a c h1 h8 ha hcc w7 (hT.below HB7.out)).mono ?_
  rintro e w8 ⟨rfl, _, hb8⟩
  have HB8 := Lib.hid (HB7.out.trans (hb8.mono HB7.out.size))
  clear hb8 HB7
  go_wp2_with fail
  refine (ghops_at n c b h1 h8 hcc hbb w8 (hT.below HB8.out)).mono ?_
  rintro e w9 ⟨rfl, hSc, hb9⟩
  have HB9 := Lib.hid (HB8.out.trans (hb9.mono HB8.out.size))
  clear hb9 HB8
  go_wp2_with fail
  refine (gneigh_any n a h1 h8 ha w9 (hT.below HB9.out)).mono ?_
  rintro e wa ⟨vn, rfl, hrn, hba⟩
  have HBa := Lib.hid (HB9.out.trans (hba.mono HB9.out.size))
  clear hba HB9
  go_wp2_with fail
  refine (ghopsA n0 x0 y0 wa (hT.below HBa.out)).mono ?_
  rintro e wb ⟨rfl, hbb2⟩
  have HBb := Lib.hid (HBa.out.trans (hbb2.mono HBa.out.size))
  replace hrn := hrn.below hbb2
  clear hbb2 HBa
  go_wp2_with fail
  refine (rhopsA n0 x0 y0 wb).mono ?_
  rintro e wc ⟨rfl, hbc⟩
  have HBc := Lib.hid (HBb.out.trans (hbc.mono HBb.out.size))
  replace hrn := hrn.below hbc
  clear hbc HBb
  have t1 := hop_tri h1 h8 ha hbb hcc hSa hSc
  have t2 := hop_bd h1 h8 ha hbb hSa
  have t3 := hop_bd h1 h8 ha hcc hSa
  have t4 := hop_bd h1 h8 hcc hbb hSc
  have hz : ∃ z : Bool, (hop n a b == 0) = z ∧ ((a : Int) == (b : Int)) = z := by
    refine ⟨_, rfl, ?_⟩
    have h9 := hop_zero h1 h8 ha hbb hSa
    by_cases e : a = b
    · rw [(h9.2 e), e]; simp
    · have e2 : ¬ hop n a b = 0 := fun h => e (h9.1 h)
      rw [beq_eq_false_iff_ne.2 e2, beq_eq_false_iff_ne.2 (by omega)]
  have ho : ∃ z : Bool, (hop n a b == 1) = z ∧ decide ((b : Int) ∈ nextL n a) = z := by
    refine ⟨_, rfl, ?_⟩
    have h9 := hop_one h1 h8 ha hbb hSa
    by_cases e : (b : Int) ∈ nextL n a
    · rw [(h9.2 e), decide_eq_true e]; rfl
    · have e2 : ¬ hop n a b = 1 := fun h => e (h9.1 h)
      rw [beq_eq_false_iff_ne.2 e2, decide_eq_false e]
  obtain ⟨z0, hz1, hz2⟩ := hz
  obtain ⟨z1, ho1, ho2⟩ := ho
  have HNEAR : Hid (∀ d : Nat, (d : Int) ∈ nextL n a → d < (nodesL n).length ∧ ((∃ i, (Bfs.st (nbG n) d i).2.length = i) → hop n d b ≤ hop n a b + 1 ∧ hop n a b - 1 ≤ hop n d b)) := Lib.hid (fun d hd => by
    have hdl : d < (nodesL n).length := by have := next_in h1 h8 hd; omega
    exact ⟨hdl, fun hed => hop_near h1 h8 ha hbb hdl hSa hed hd⟩)
  have HBD : Hid (∀ d : Nat, d < (nodesL n).length → Searched n d → 0 ≤ hop n d b ∧ hop n d b < 642) := Lib.hid (fun d hd hS => hop_bd h1 h8 hd hbb hS)
  obtain ⟨ab, hab⟩ : ∃ ab, ab = hop n a b := ⟨_, rfl⟩
  obtain ⟨ac, hac⟩ : ∃ ac, ac = hop n a c := ⟨_, rfl⟩
  obtain ⟨cb, hcb⟩ : ∃ cb, cb = hop n c b := ⟨_, rfl⟩
  obtain ⟨ux, hux⟩ : ∃ ux, ux = hopV n0 x0 y0 := ⟨_, rfl⟩
  obtain ⟨ue, hue⟩ : ∃ ue, ue = hopE n0 x0 y0 := ⟨_, rfl⟩
  rw [← hab] at t1 t2 hz1 ho1 HNEAR
  rw [← hac] at t1 t3
  rw [← hcb] at t1 t4
  rw [← hab, ← hac, ← hcb, ← hux, ← hue]
  clear hab hac hcb hux hue hSa hSb hSc
  have hlz := next_len h1 h8 a
  go_wp2_with fail
  refine (kin_any vn (nextL n a) b wc hrn (by omega)).mono ?_
  rintro e wd ⟨rfl, rfl⟩
  rw [ho2]
  obtain ⟨p, vcap, rfl, hvc, hvec⟩ := hrn
  have HV := Lib.hid hvec
  obtain ⟨zs, hzs⟩ : ∃ zs, zs = nextL n a := ⟨_, rfl⟩
  rw [← hzs] at HV HNEAR hvc hlz
  rw [← hzs]
  have HZS := Lib.hid hzs
  clear hzs hvec ho2
  go_wp2
  go_loopw [152] (fun i wr => ∃ k : Nat, k ≤ zs.length ∧ i = .int .i64 k ∧ Below wc.heap.size wc wr) (fun i _ => zs.length - (intOf i).toNat)
  case atStart => exact ⟨0, by omega, rfl, Below.refl _ _⟩
  case round =>
    obtain ⟨k, hk, rfl, hb⟩ := hrel
    by_cases hlt : k < zs.length
    · have hdk : decide ((k : Int) < (zs.length : Int)) = true := decide_eq_true (by omega)
      obtain ⟨vb, vo, rfl, hbl, hcell⟩ := HV.out.cell (by omega)
      have ck := RX.keep hb (hcell k hlt)
      have hmem : zs[k] ∈ zs := List.getElem_mem _
      obtain ⟨y, hy⟩ : ∃ y, y = zs[k] := ⟨_, rfl⟩
      rw [← hy] at ck hmem
      clear hy hcell
      have hy0 : 0 ≤ y ∧ y < 642 := by
        have hm2 := hmem
        rw [HZS.out] at hm2
        have := next_in h1 h8 hm2
        have := nodes_max h1 h8
        omega
      obtain ⟨d, rfl⟩ : ∃ d : Nat, y = d := ⟨y.toNat, by omega⟩
      obtain ⟨hdl, hnear⟩ := HNEAR.out d hmem
      have hTr : HasTab wr := hT.below (HBc.out.trans (hb.mono HBc.out.size))
      have HB := Lib.hid hb
      clear hb hmem
      go_wp2_with fail
      refine (ghops_at n d b h1 h8 hdl hbb wr hTr).mono ?_
      rintro e we ⟨rfl, hSd, hbe⟩
      have n1 := hnear hSd
      have n2 := HBD.out d hdl hSd
      obtain ⟨u, hu⟩ : ∃ u, u = hop n d b := ⟨_, rfl⟩
      rw [← hu] at n1 n2
      rw [← hu]
      clear hu hnear hSd
      have HBE := Lib.hid (HB.out.trans (hbe.mono HB.out.size))
      clear hbe
      go_wp2
      go_roundw
      case rel => exact ⟨k + 1, by omega, by go_num, HBE.out⟩
      case measure => simp [intOf]; omega
    · have hdk : decide ((k : Int) < (zs.length : Int)) = false := decide_eq_false (by omega)
      have HB := Lib.hid (HBc.out.trans (hb.mono HBc.out.size))
      clear hb
      go_wp2_with fail
      refine (awake03_any wr (hT.below HB.out)).mono ?_
      rintro e we ⟨rfl, hbe⟩
      have HBE := Lib.hid (HB.out.trans (hbe.mono HB.out.size))
      clear hbe
      go_wp2
      go_ret
      exact ⟨rfl, HBE.out⟩
end Go.Proofs.YtlfhildbjipheaaGreatDoor
