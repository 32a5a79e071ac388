import Derived.Test.YtpbfgnffkhabnaaDoorAwake03
set_option linter.unusedSimpArgs false
set_option linter.unusedVariables false
namespace Go.Proofs.YtpbfgnffkhabnaaDoor
open Go.RowKit Go.Sort Go.Shelf Go.Grid

/-- The nodes' cells in a row. -/
theorem nodes_cells {w : World} {base b cap : Nat} {L : List Pl} {v : Nat} (hown : w.ownsRow base 23 4 (.slice (some ⟨b, 0, none⟩) L.length cap) v (plVals L)) (hv : v = L.length) : ∀ m (h : m < L.length), w.cell? ⟨b, m * 4, none⟩ = some (.int .i64 L[m].f) ∧ w.cell? ⟨b, m * 4 + 1, none⟩ = some (.int .i64 L[m].a) ∧ w.cell? ⟨b, m * 4 + 2, none⟩ = some (.int .i64 L[m].b) ∧ w.cell? ⟨b, m * 4 + 3, none⟩ = some (.int .i64 L[m].c) := by
  subst hv
  intro m h
  let _ : Inhabited Pl := ⟨⟨0, 0, 0, 0⟩⟩
  have hH : HoldsK plCells 4 w b 0 L.toArray := own_holds (k := 4) (by decide) (fun _ => rfl) hown rfl
  have hm2 : m < L.toArray.size := by simpa using h
  have eq1 : ∀ j, j / 4 = m → L.toArray[j / 4]! = L[m] := fun j hj => by rw [hj, getElem!_pos L.toArray m hm2]; simp
  have h0 := (hH (m * 4) (by rw [size_flatK]; omega)).1
  have h1 := (hH (m * 4 + 1) (by rw [size_flatK]; omega)).1
  have h2 := (hH (m * 4 + 2) (by rw [size_flatK]; omega)).1
  have h3 := (hH (m * 4 + 3) (by rw [size_flatK]; omega)).1
  rw [get_flatK _ _ _ _ (by omega), eq1 _ (by omega), Nat.zero_add] at h0 h1 h2 h3
  rw [show m * 4 % 4 = 0 by omega] at h0
  rw [show (m * 4 + 1) % 4 = 1 by omega] at h1
  rw [show (m * 4 + 2) % 4 = 2 by omega] at h2
  rw [show (m * 4 + 3) % 4 = 3 by omega] at h3
  exact ⟨h0, h1, h2, h3⟩

set_option maxRecDepth 100000 in
set_option maxHeartbeats 2000000 in
theorem nearest_law (W : World) (q : Option Addr) (cap : Nat) (L : List Int) (hV : VecAt W q L) (hI : I64L L) (hl : L.length ≤ cap) (hc : cap ≤ 9223372036854775807) (hT : HasTab W) :
    Calls Tryd.prog 4 #[.slice q L.length cap] W fun e w' => e = .returned (.bool true) ∧ Below W.heap.size W w' := by
  go_enter Tryd.func4, Tryd.ntmps4
  go_wp2_with fail
  refine (knew_any q cap L W hV hI hl hc).mono ?_
  rintro e w1 ⟨rfl, hb, b, hblt, hs⟩
  clear hV hI
  generalize min L.length 2000 = N at *
  go_wp2_with fail
  refine (srcRange_any w1 W.heap.size b N 0 1 5 hs (by omega) (by omega) (by omega)).mono ?_
  rintro e w2 ⟨ni, rfl, hn1, hn5, hg2, i2, hs2⟩
  obtain ⟨n, rfl⟩ : ∃ n : Nat, ni = n := ⟨ni.toNat, by omega⟩
  replace hb := hb.grown hg2 hb.size (fun k hk => by injection hk with hk; omega)
  clear hg2 hs w1
  go_wp2_with fail
  refine (somewhere_any w2 W.heap.size b N i2 hs2 (fun h0 => by have := hblt h0; have := hb.size; omega)).mono ?_
  rintro e w3 ⟨p, rfl, hp, hg3, i3, hs3⟩
  replace hb := hb.grown hg3 hb.size (fun k hk => by injection hk with hk; omega)
  clear hg3 hs2 w2
  have HP := Lib.hid hp
  have hpv : Hid (pv p = .agg #[.int .i64 p.f, .int .i64 p.a, .int .i64 p.b, .int .i64 p.c]) := Lib.hid rfl
  rw [hpv.out]
  clear hp
  go_wp2_with fail
  rw [← hpv.out]
  have hb4 := hb.alloc hb.size (.cells #[.int .i64 p.f, .int .i64 p.a, .int .i64 p.b, .int .i64 p.c] 23)
  have c0 : (w3.alloc (.cells #[.int .i64 p.f, .int .i64 p.a, .int .i64 p.b, .int .i64 p.c] 23)).cell? ⟨w3.heap.size, 0, none⟩ = some (.int .i64 p.f) := (by simp [RX.cell_drew, RX.cell_alloc, Nat.add_assoc])
  have c1 : (w3.alloc (.cells #[.int .i64 p.f, .int .i64 p.a, .int .i64 p.b, .int .i64 p.c] 23)).cell? ⟨w3.heap.size, 1, none⟩ = some (.int .i64 p.a) := (by simp [RX.cell_drew, RX.cell_alloc, Nat.add_assoc])
  have c2 : (w3.alloc (.cells #[.int .i64 p.f, .int .i64 p.a, .int .i64 p.b, .int .i64 p.c] 23)).cell? ⟨w3.heap.size, 2, none⟩ = some (.int .i64 p.b) := (by simp [RX.cell_drew, RX.cell_alloc, Nat.add_assoc])
  have c3 : (w3.alloc (.cells #[.int .i64 p.f, .int .i64 p.a, .int .i64 p.b, .int .i64 p.c] 23)).cell? ⟨w3.heap.size, 3, none⟩ = some (.int .i64 p.c) := (by simp [RX.cell_drew, RX.cell_alloc, Nat.add_assoc])
  have hs4 := hs3.below ((Below.refl w3.heap.size w3).alloc (Nat.le_refl _) (.cells #[.int .i64 p.f, .int .i64 p.a, .int .i64 p.b, .int .i64 p.c] 23))
  clear hs3
  have hWl := hb.size
  generalize (w3.alloc (.cells #[.int .i64 p.f, .int .i64 p.a, .int .i64 p.b, .int .i64 p.c] 23)) = w4 at *
  refine (gnearest_any n (by omega) (by omega) p HP.out w4 (hT.below hb4)).mono ?_
  rintro e w5 ⟨S, hS, rfl, hb5⟩
  replace c0 := RX.keep hb5 c0
  replace c1 := RX.keep hb5 c1
  replace c2 := RX.keep hb5 c2
  replace c3 := RX.keep hb5 c3
  replace hs4 := hs4.below hb5
  replace hb5 := hb4.trans (hb5.mono hb4.size)
  have HS := Lib.hid hS
  clear hS hb4 w4
  obtain ⟨K, hK⟩ : ∃ K, K = (best S).1 := ⟨_, rfl⟩
  rw [← hK]
  have HK := Lib.hid hK
  clear hK
  go_wp2_with fail
  rw [← hpv.out]
  refine (glocate_any n (by omega) (by omega) p HP.out w5 (hT.below hb5)).mono ?_
  rintro e w6 ⟨xb, xc, S', hS', rfl, hxc, hat, hb6⟩
  obtain rfl := hS'.unique HS.out
  replace hs4 := hs4.below hb6
  replace hb6 := hb5.trans (hb6.mono hb5.size)
  clear hb5 c0 c1 c2 c3 hS' w5
  have hSne : S' ≠ [] := fun h => loc_ne (by omega) (hh_mul (by omega) (by omega)) HP.out (List.perm_nil.1 (h ▸ HS.out.1).symm)
  have FB := Lib.hid (best_facts HS.out.2 hSne)
  have hSw : Hid (∀ x ∈ S', x.2 ≤ 840 ∧ 0 < x.2) := Lib.hid (fun x hx => by
    have := loc_nodes (by omega) (hh_mul (n := n) (by omega) (by omega)) HP.out x (HS.out.1.mem_iff.1 hx); omega)
  have hSl : S'.length ≤ 3 := by
    rw [HS.out.1.length_eq]
    unfold locRaw
    rw [List.length_map]
    refine Nat.le_trans (List.length_filter_le _ _) ?_
    unfold locAll
    dsimp only
    split
    · simp
    · split <;> simp
  clear hSne HP HS hpv
  have HAT := Lib.hid hat
  clear hat
  have HSRC := Lib.hid hs4
  have HB6 := Lib.hid hb6
  clear hs4 hb hb6
  go_wp2
  go_loopw [10, 11, 47] (fun o m i wr => ∃ j : Nat, j ≤ S'.length ∧ i = .int .i64 j ∧ o = .int .i64 ((ownL K (S'.take j) 0 : Nat) : Int) ∧ m = .int .i64 ((mostL (S'.take j) 0 : Nat) : Int) ∧ Below w6.heap.size w6 wr) (fun _ _ i _ => S'.length - (intOf i).toNat)
  case atStart => exact ⟨0, Nat.zero_le _, rfl, rfl, rfl, (by repeat (first | (with_reducible assumption) | (with_reducible exact Below.refl _ _) | (with_reducible refine Below.setCell ?_ (by first | omega | (simp; done) | (simp; omega)) _) | (with_reducible refine Below.alloc ?_ (by first | omega | (simp; done) | (simp; omega)) _) | (with_reducible apply Below.drew) | assumption))⟩
  case round =>
    obtain ⟨j, hj, rfl, rfl, rfl, hB⟩ := hrel
    by_cases hlt : j < S'.length
    · have hdk : decide ((j : Int) < (S'.length : Int)) = true := decide_eq_true (by omega)
      have ck := HAT.out j hlt
      obtain ⟨d0, d1⟩ := ck
      have hw := (hSw.out _ (List.getElem_mem hlt)).1
      have hM : mostL (S'.take (j + 1)) 0 = max (mostL (S'.take j) 0) S'[j].2 := mostL_take hlt 0
      have hO : ownL K (S'.take (j + 1)) 0 = if S'[j].1 = K then S'[j].2 else ownL K (S'.take j) 0 := ownL_take hlt 0
      have HMO := Lib.hid (And.intro hM hO)
      clear hM hO
      obtain ⟨x, hx⟩ : ∃ x, x = S'[j] := ⟨_, rfl⟩
      rw [← hx] at d0 d1 hw HMO
      clear hx
      obtain ⟨x0, x1⟩ := x
      generalize hm0 : mostL (S'.take j) 0 = m0 at *
      generalize ho0 : ownL K (S'.take j) 0 = o0 at *
      clear hm0 ho0
      dsimp only at d0 d1 hw HMO
      replace d0 := RX.keep hB d0
      replace d1 := RX.keep hB d1
      have hBs := hB.size
      have hk0 : (0 : Int) ≤ (j : Int) := by omega
      have hkl : (j : Int) < (S'.length : Int) := by omega
      by_cases he : x0 = K
      · have hbq : ((x0 : Int) == (K : Int)) = true := by rw [beq_iff_eq]; omega
        have HO2 : Hid (ownL K (S'.take (j + 1)) 0 = x1) := Lib.hid (by rw [HMO.out.2, if_pos he])
        clear he
        go_wp2
        go_roundw
        case rel => exact ⟨j + 1, by omega, by go_num, by rw [HO2.out], by rw [HMO.out.1]; congr 1; omega, (by repeat (first | (with_reducible assumption) | (with_reducible exact Below.refl _ _) | (with_reducible refine Below.setCell ?_ (by first | omega | (simp; done) | (simp; omega)) _) | (with_reducible refine Below.alloc ?_ (by first | omega | (simp; done) | (simp; omega)) _) | (with_reducible apply Below.drew) | assumption))⟩
        case measure => simp [intOf]; omega
      · have hbq : ((x0 : Int) == (K : Int)) = false := by rw [beq_eq_false_iff_ne]; omega
        have HO2 : Hid (ownL K (S'.take (j + 1)) 0 = o0) := Lib.hid (by rw [HMO.out.2, if_neg he])
        clear he
        go_wp2
        go_roundw
        case rel => exact ⟨j + 1, by omega, by go_num, by rw [HO2.out], by rw [HMO.out.1]; congr 1; omega, (by repeat (first | (with_reducible assumption) | (with_reducible exact Below.refl _ _) | (with_reducible refine Below.setCell ?_ (by first | omega | (simp; done) | (simp; omega)) _) | (with_reducible refine Below.alloc ?_ (by first | omega | (simp; done) | (simp; omega)) _) | (with_reducible apply Below.drew) | assumption))⟩
        case measure => simp [intOf]; omega
    · obtain rfl : j = S'.length := by omega
      rw [List.take_of_length_le (Nat.le_refl _)]
      obtain ⟨f1, f2, f3, f4, f5⟩ := FB.out
      rw [← HK.out] at f3 f5
      rw [f4, f5]
      have H3 := Lib.hid f3
      have HM2 := Lib.hid (hSw.out _ f1)
      clear f1 f2 f3 f4 f5
      have hm840 := HM2.out
      generalize hmm : (best S').2 = mm at *
      clear hmm
      go_wp2
      go_loopw [64] (fun i wr2 => ∃ j : Nat, j ≤ S'.length ∧ i = .int .i64 j ∧ Below w6.heap.size w6 wr2) (fun i _ => S'.length - (intOf i).toNat)
      case atStart => exact ⟨0, Nat.zero_le _, rfl, hB⟩
      case round =>
        obtain ⟨j, hj, rfl, hB2⟩ := hrel
        clear hB
        by_cases hlt : j < S'.length
        · have hdk : decide ((j : Int) < (S'.length : Int)) = true := decide_eq_true (by omega)
          have ck := HAT.out j hlt
          obtain ⟨d0, d1⟩ := ck
          have h3 := H3.out _ (List.getElem_mem hlt)
          obtain ⟨x, hx⟩ : ∃ x, x = S'[j] := ⟨_, rfl⟩
          rw [← hx] at d0 d1 h3
          clear hx
          obtain ⟨x0, x1⟩ := x
          dsimp only at d0 d1 h3
          replace d0 := RX.keep hB2 d0
          replace d1 := RX.keep hB2 d1
          have hBs := hB2.size
          have hk0 : (0 : Int) ≤ (j : Int) := by omega
          have hkl : (j : Int) < (S'.length : Int) := by omega
          by_cases he : x1 = mm
          · have hbq : ((x1 : Int) == (mm : Int)) = true := by rw [beq_iff_eq]; omega
            have hx0 := h3 he
            have hbd : decide ((x0 : Int) < (K : Int)) = false := decide_eq_false (by omega)
            clear he h3
            go_wp2
            go_roundw
            case rel => exact ⟨j + 1, by omega, by go_num, (by repeat (first | (with_reducible assumption) | (with_reducible exact Below.refl _ _) | (with_reducible refine Below.setCell ?_ (by first | omega | (simp; done) | (simp; omega)) _) | (with_reducible refine Below.alloc ?_ (by first | omega | (simp; done) | (simp; omega)) _) | (with_reducible apply Below.drew) | assumption))⟩
            case measure => simp [intOf]; omega
          · have hbq : ((x1 : Int) == (mm : Int)) = false := by rw [beq_eq_false_iff_ne]; omega
            clear he h3
            go_wp2
            go_roundw
            case rel => exact ⟨j + 1, by omega, by go_num, (by repeat (first | (with_reducible assumption) | (with_reducible exact Below.refl _ _) | (with_reducible refine Below.setCell ?_ (by first | omega | (simp; done) | (simp; omega)) _) | (with_reducible refine Below.alloc ?_ (by first | omega | (simp; done) | (simp; omega)) _) | (with_reducible apply Below.drew) | assumption))⟩
            case measure => simp [intOf]; omega
        · obtain rfl : j = S'.length := by omega
          have hB3 := HB6.out.trans (hB2.mono HB6.out.size)
          have hs6 := HSRC.out.below hB2
          clear hB2
          go_wp2_with fail
          refine (gnodes_any n (by omega) (by omega) wr (hT.below hB3)).mono ?_
          rintro e w7 ⟨nb, nc, rfl, hnc, hown, hb7⟩
          have hs7 := hs6.below hb7
          have HC := Lib.hid (nodes_cells hown rfl)
          have hB7 := hB3.trans (hb7.mono hB3.size)
          have hb7s := hb7.size
          have hlen := nodes_len (n := n) (by omega) (by omega)
          have hlen1 : 1 ≤ (nodesL n).length ∧ (nodesL n).length ≤ 100000 := by
            have h64 := Nat.mul_le_mul (show n ≤ 8 by omega) (show n ≤ 8 by omega)
            have h640 : 10 * n * n ≤ 640 := by rw [Nat.mul_assoc]; omega
            omega
          have hlz : (((nodesL n).length : Nat) : Int) ≠ 0 := by omega
          have hlb : ((((nodesL n).length : Nat) : Int) == 0) = false := by rw [beq_eq_false_iff_ne]; exact hlz
          have hnw : ∀ m (h : m < (nodesL n).length), nb < w7.heap.size ∧ nb ≠ W.heap.size := fun m h => by
            have h0 := (HC.out m h).1
            have h1 := World.block_lt_of_cell? _ _ h0
            have h2 := (hown.lt nb (by rfl)).1
            have h4 := hB3.size
            simp only at h1
            omega
          have hnw2 := hnw 0 (by omega)
          clear hown hb7 hs6 hB3 hlen hlz hnw
          clear HSRC HB6 HAT H3
          go_wp2_with fail
          refine (srcN_any w7 W.heap.size b N _ (((nodesL n).length : Nat) : Int) hs7 (by omega) (by omega)).mono ?_
          rintro e w8 ⟨mi, rfl, hm0, hm1, hg8, i8, hs8⟩
          obtain ⟨m, rfl⟩ : ∃ m : Nat, mi = m := ⟨mi.toNat, by omega⟩
          have hml : m < (nodesL n).length := by omega
          have hB8 := hB7.grown hg8 hB7.size (fun k hk => by injection hk with hk; omega)
          obtain ⟨n0, n1, n2, n3⟩ := HC.out m hml
          replace n0 := hg8.cell n0 (fun e => by injection e with e; exact hnw2.2 e)
          replace n1 := hg8.cell n1 (fun e => by injection e with e; exact hnw2.2 e)
          replace n2 := hg8.cell n2 (fun e => by injection e with e; exact hnw2.2 e)
          replace n3 := hg8.cell n3 (fun e => by injection e with e; exact hnw2.2 e)
          clear hg8 hs8 hs7 HC hB7
          have hmem := List.getElem_mem hml
          have HN := Lib.hid (loc_node (n := n) (by omega) (by omega) (hh_mul (by omega) (by omega)) hml)
          have HNO : Hid ((nodesL n)[m]).Ok := Lib.hid (node_ok (hh_mul (by omega) (by omega)) hmem).1
          obtain ⟨nd, hnd⟩ : ∃ d, d = (nodesL n)[m] := ⟨_, rfl⟩
          rw [← hnd] at n0 n1 n2 n3 HN HNO
          clear hnd hmem
          have hnv : Hid (pv nd = .agg #[.int .i64 nd.f, .int .i64 nd.a, .int .i64 nd.b, .int .i64 nd.c]) := Lib.hid rfl
          go_wp2_with fail
          rw [← hnv.out]
          refine (gnearest_any n (by omega) (by omega) nd HNO.out w8 (hT.below hB8)).mono ?_
          rintro e w9 ⟨S2, hS2, rfl, hb9⟩
          obtain rfl := hS2.unique (show IsLoc n nd [(m, 840)] from ⟨by rw [HN.out], List.pairwise_singleton _ _⟩)
          have hB9 := hB8.trans (hb9.mono hB8.size)
          have hbm : Hid ((best [(m, 840)]).1 = m) := Lib.hid rfl
          rw [hbm.out]
          clear hS2 hb9 hB8 n0 n1 n2 n3
          have hmp : decide ((0 : Int) < (mm : Int)) = true := decide_eq_true (by have := HM2.out.2; omega)
          go_wp2_with fail
          refine (awake03_any w9 (hT.below hB9)).mono ?_
          rintro e w10 ⟨rfl, hb10⟩
          have HBF := Lib.hid (hB9.trans (hb10.mono hB9.size))
          clear hb10 hB9
          go_wp2
          go_ret
          exact ⟨rfl, HBF.out⟩
end Go.Proofs.YtpbfgnffkhabnaaDoor
