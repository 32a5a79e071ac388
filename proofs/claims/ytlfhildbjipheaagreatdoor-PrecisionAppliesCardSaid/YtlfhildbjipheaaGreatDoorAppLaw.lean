import Derived.Test.YtlfhildbjipheaaGreatDoorPrecA
import Derived.Test.YtlfhildbjipheaaGreatDoorKCodes
import Derived.Test.YtlfhildbjipheaaGreatDoorKAwake
import Derived.Test.YtlfhildbjipheaaGreatDoorKLists
set_option linter.unusedSimpArgs false
set_option linter.unusedVariables false
namespace Go.Proofs.YtlfhildbjipheaaGreatDoor
open Go.RowKit Go.Grid Go.Maps Go.Sort Go.Shelf

theorem kints_sameA (v u : Value) (zs : List Int) (w : World) (h1 : RdI w v zs) (h2 : RdI w u zs) (hl : zs.length ≤ 1000) : Calls Tryz.prog 18 #[v, u] w fun e w' => e = .returned (.bool true) ∧ Below w.heap.size w w' := by
  obtain ⟨p, c, rfl, _, hv⟩ := h1
  obtain ⟨q, d, rfl, _, hu⟩ := h2
  refine (kints_len p q zs zs c d w hv hu rfl (by omega)).mono ?_
  rintro e w' ⟨rfl, hb⟩
  exact ⟨by simp, hb⟩
theorem RowV.rd {w : World} {base : Nat} {v : Value} {zs : List Int} (h : RowV w base v zs) : RdI w v zs := RdI.of_own h
set_option maxRecDepth 100000
set_option maxHeartbeats 4000000 in
theorem applies_law (W : World) (pf ps pa : Int) (q1 : Option Addr) (cap1 : Nat) (raw : List Int) (hV1 : VecAt W q1 raw) (hI1 : I64L raw) (hl1 : raw.length ≤ cap1) (hc1 : cap1 ≤ 9223372036854775807)
    (q2 : Option Addr) (cap2 cb2 co2 : Nat) (L : List Int) (hp2 : 0 < L.length → q2 = some ⟨cb2, co2, none⟩) (hl2 : L.length ≤ cap2) (hc2 : cap2 ≤ 9223372036854775807) (hcell2 : ∀ k (h : k < L.length), W.cell? ⟨cb2, co2 + k, none⟩ = some (.int .u8 L[k]) ∧ 0 ≤ L[k] ∧ L[k] < 256) (hT : HasTab W) :
    Calls Tryz.prog 4 #[.agg #[.int .i64 pf, .int .i64 ps, .int .i64 pa], .slice q1 raw.length cap1, .slice q2 L.length cap2] W fun e w' => e = .returned (.bool true) ∧ Below W.heap.size W w' := by
  go_enter Tryz.func4, Tryz.ntmps4
  go_wp2_with fail
  have hb0 : Below W.heap.size W (W.alloc (.cells #[.int .i64 pf, .int .i64 ps, .int .i64 pa] 47)) := (Below.refl _ _).alloc (Nat.le_refl _) _
  have k0 : (W.alloc (.cells #[.int .i64 pf, .int .i64 ps, .int .i64 pa] 47)).cell? ⟨W.heap.size, 0, none⟩ = some (.int .i64 pf) := (by simp [RX.cell_drew, RX.cell_alloc, Nat.add_assoc])
  have k1 : (W.alloc (.cells #[.int .i64 pf, .int .i64 ps, .int .i64 pa] 47)).cell? ⟨W.heap.size, 1, none⟩ = some (.int .i64 ps) := (by simp [RX.cell_drew, RX.cell_alloc, Nat.add_assoc])
  have k2 : (W.alloc (.cells #[.int .i64 pf, .int .i64 ps, .int .i64 pa] 47)).cell? ⟨W.heap.size, 2, none⟩ = some (.int .i64 pa) := (by simp [RX.cell_drew, RX.cell_alloc, Nat.add_assoc])
  generalize (W.alloc (.cells #[.int .i64 pf, .int .i64 ps, .int .i64 pa] 47)) = w0 at *
  refine (awake22_any w0 (hT.below hb0)).mono ?_
  rintro e w1 ⟨rfl, hb1⟩
  replace k0 := RX.keep hb1 k0
  replace k1 := RX.keep hb1 k1
  replace k2 := RX.keep hb1 k2
  replace hb1 := hb0.trans (hb1.mono hb0.size)
  clear hb0
  clear w0
  by_cases hbig : 700 < raw.length
  · have HB := Lib.hid hb1
    clear hb1
    go_wp2
    go_ret
    exact ⟨rfl, HB.out⟩
  · have hr700 : raw.length ≤ 700 := by omega
    have hcw1 : ∀ k (h : k < L.length), w1.cell? ⟨cb2, co2 + k, none⟩ = some (.int .u8 L[k]) ∧ 0 ≤ L[k] ∧ L[k] < 256 := fun k hk => ⟨RX.keep hb1 (hcell2 k hk).1, (hcell2 k hk).2⟩
    have HBG : Hid (decide ((700 : Int) < (raw.length : Int)) = false) := Lib.hid (decide_eq_false (by omega))
    have hRaw := hV1.below hb1
    clear hcell2 hV1
    go_wp2_with fail
    refine (new_any w1 q2 cap2 cb2 co2 120 L (by omega) hp2 hl2 hc2 hcw1).mono ?_
    rintro e w2 ⟨rfl, hb2, b', hb', hC2⟩
    have hw1 : W.heap.size < w1.heap.size := World.block_lt_of_cell? _ _ k0
    have hlt0 : 0 < (L.take 120).length → b' < w1.heap.size := fun h => hb' (by rw [List.length_take] at h; omega)
    generalize L.take 120 = CL at *
    obtain ⟨g, hg⟩ : ∃ g, g = w1.heap.size := ⟨_, rfl⟩
    have KEEP : Hid (∀ wx, Below g w1 wx → ∀ p v, w1.cell? p = some v → wx.cell? p = some v) := Lib.hid (fun wx hb p v h => RX.keep (by rw [← hg]; exact hb) h)
    have HRAW : Hid (∀ wx, Below g w1 wx → VecAt wx q1 raw) := Lib.hid (fun wx hb => hRaw.below (by rw [← hg]; exact hb))
    have HBW : Hid (∀ wx, Below g w1 wx → Below W.heap.size W wx) := Lib.hid (fun wx hb => hb1.trans (hb.mono (by omega)))
    rw [← hg] at hC2 hlt0 hw1 hb2 ⊢
    have hgs2 : g < w2.heap.size := hC2.lt
    clear hcw1 hp2 hb' hb1 hRaw hg
    go_wp2_with fail
    refine (cprec_any w2 g b' CL 0 hC2).mono ?_
    rintro e w3 ⟨f, s, a, rfl, hP, hg3, i3, hC3⟩
    have hb3 : Below g w1 w3 := hb2.grown hg3 (by omega) (fun k hk => by injection hk with hk; omega)
    have hs3 := hg3.size
    have hpv : Hid (prv f s a = .agg #[.int .i64 f, .int .i64 s, .int .i64 a]) := Lib.hid rfl
    rw [hpv.out]
    have HP := Lib.hid hP
    clear hC2 hg3 hb2 hP
    go_wp2_with fail
    have hb4 : Below g w1 (w3.alloc (.cells #[.int .i64 f, .int .i64 s, .int .i64 a] 47)) := hb3.alloc (by omega) _
    have c0 : (w3.alloc (.cells #[.int .i64 f, .int .i64 s, .int .i64 a] 47)).cell? ⟨w3.heap.size, 0, none⟩ = some (.int .i64 f) := (by simp [RX.cell_drew, RX.cell_alloc, Nat.add_assoc])
    have c1 : (w3.alloc (.cells #[.int .i64 f, .int .i64 s, .int .i64 a] 47)).cell? ⟨w3.heap.size, 1, none⟩ = some (.int .i64 s) := (by simp [RX.cell_drew, RX.cell_alloc, Nat.add_assoc])
    have c2 : (w3.alloc (.cells #[.int .i64 f, .int .i64 s, .int .i64 a] 47)).cell? ⟨w3.heap.size, 2, none⟩ = some (.int .i64 a) := (by simp [RX.cell_drew, RX.cell_alloc, Nat.add_assoc])
    have hC4 := hC3.below ((Below.refl w3.heap.size w3).alloc (Nat.le_refl _) (.cells #[.int .i64 f, .int .i64 s, .int .i64 a] 47))
    have hs4 : (w3.alloc (.cells #[.int .i64 f, .int .i64 s, .int .i64 a] 47)).heap.size = w3.heap.size + 1 := by simp
    generalize (w3.alloc (.cells #[.int .i64 f, .int .i64 s, .int .i64 a] 47)) = w4 at *
    rw [← hpv.out]
    refine (cfor_any w4 g b' CL i3 f s a hC4 (fun h0 => by have := hlt0 h0; omega) HP.out).mono ?_
    rintro e w5 ⟨v, zs, rfl, hzl, hzw, hrow, hg5, i5, hC5⟩
    have hb5 : Below g w1 w5 := hb4.grown hg5 (by omega) (fun k hk => by injection hk with hk; omega)
    replace c0 := hg5.cell c0 (by simp; omega)
    replace c1 := hg5.cell c1 (by simp; omega)
    replace c2 := hg5.cell c2 (by simp; omega)
    have hs5 := hg5.size
    have hz1 : 12 ≤ zs.length ∧ zs.length ≤ 42 := by
      obtain ⟨⟨h1, h2⟩, _, _⟩ := HP.out
      have : f = 1 ∨ f = 2 := by omega
      rcases this with rfl | rfl <;> omega
    have HZ := Lib.hid (And.intro hzl hzw)
    obtain ⟨px, cx, bx, rfl, hcx, hpx, hvx⟩ := RowV.form hrow
    obtain ⟨rfl, hbx1, hbx2⟩ := hpx (by omega)
    clear hC3 hC4 hg5 hb3 hb4 hzl hzw hpx
    have hown : w5.ownsRow w4.heap.size 3 1 (.slice (some ⟨bx, 0, none⟩) zs.length cx) zs.length (zs.map (Value.int .i64)) := hrow
    have hbytes : (0 + zs.length) * 8 ≤ 140737488355328 := by omega
    go_wp2_with (refine RX.wpl_apg (by rfl) elInt _ _ (by rfl) none 0 [] (by rfl) (fun _ => rfl) (by simp) (RX.SrcAt.none _ _ _) w4.heap.size zs.length _ _ (by rfl) hown (by omega) (fun u hu => by obtain ⟨z, _, rfl⟩ := List.mem_map.1 hu; rfl) hbytes (by omega) ?_; intro v6 w6 hown6 hg6; obtain ⟨b6, c6, hv6, hb6l, hb6u⟩ := hown6.form (by omega); subst hv6)
    have hrow6 : RowV w6 w5.heap.size (.slice (some ⟨b6, 0, none⟩) zs.length c6) zs := by
      have h9 := hown6
      rw [Nat.zero_add, List.nil_append] at h9
      exact h9
    have hC6 := hC5.own hg6 (fun k hk => by cases hk)
    have hb56 : Below w5.heap.size w5 w6 := (Below.refl _ _).grown hg6 (Nat.le_refl _) (fun k hk => by cases hk)
    have hb6 : Below g w1 w6 := hb5.trans (hb56.mono (by omega))
    replace c0 := RX.keep hb56 c0
    replace c1 := RX.keep hb56 c1
    replace c2 := RX.keep hb56 c2
    have hx6 : Hid (∀ j (h : j < zs.length), w6.cell? ⟨bx, j, none⟩ = some (.int .i64 zs[j])) := Lib.hid (fun j hj => RX.keep hb56 (by have := (hvx j hj).1; rwa [Nat.zero_add] at this))
    have hbxg : bx ≠ g := by omega
    have hbx6 : bx ≠ b6 := by omega
    have hs6 := hb56.size
    obtain ⟨p6, c6', b6', e6, hc6, hpp6, hv6⟩ := RowV.form hrow6
    injection e6 with e6 _ e6'
    subst e6'
    obtain ⟨e7, _, _⟩ := hpp6 (by omega)
    rw [e7] at e6
    injection e6 with e6
    injection e6 with e6
    subst e6
    clear hrow hown hg6 hown6 hrow6 hC5 hb5 hvx hpp6 e7 hb56
    refine (next_any w6 g b' CL i5 zs.length hC6 (by omega)).mono ?_
    rintro e w7 ⟨r, rfl, hr, hg7, i7, hC7⟩
    have hrl : r < zs.length := by omega
    have hb7 : Below g w1 w7 := hb6.grown hg7 (by omega) (fun k hk => by injection hk with hk; omega)
    have keep7 : ∀ (b j : Nat) (v : Value), w6.cell? ⟨b, j, none⟩ = some v → b ≠ g → w7.cell? ⟨b, j, none⟩ = some v := fun b j v h hne => hg7.cell h (by simp; exact hne)
    have hs7 := hg7.size
    clear hr
    go_wp2_with fail
    refine (int_any w7 g b' CL i7 hC7).mono ?_
    rintro e w8 ⟨y, rfl, hy1, hy2, hg8, i8, hC8⟩
    have hb8 : Below g w1 w8 := hb7.grown hg8 (by omega) (fun k hk => by injection hk with hk; omega)
    have keep8 : Hid (∀ (b j : Nat) (v : Value), w6.cell? ⟨b, j, none⟩ = some v → b ≠ g → w8.cell? ⟨b, j, none⟩ = some v) := Lib.hid (fun b j v h hne => hg8.cell (keep7 b j v h hne) (by simp; exact hne))
    have hs8 := hg8.size
    replace c0 := keep8.out _ _ _ c0 (by omega)
    replace c1 := keep8.out _ _ _ c1 (by omega)
    replace c2 := keep8.out _ _ _ c2 (by omega)
    have hI8 : IntsAt w8 b6 0 zs := fun j hj => by
      obtain ⟨a1, a2⟩ := hv6 j hj
      rw [Nat.zero_add] at a1 a2 ⊢
      refine ⟨keep8.out _ _ _ a1 (by omega), ?_⟩
      exact (hg8.frozen_far _ (by show b6 < _; omega) (by simp; omega)).trans ((hg7.frozen_far _ (by show b6 < _; omega) (by simp; omega)).trans a2)
    obtain ⟨d0, f0⟩ := hI8 r hrl
    rw [Nat.zero_add] at d0 f0
    have m0 := KEEP.out w8 hb8 _ _ k0
    have m1 := KEEP.out w8 hb8 _ _ k1
    have m2 := KEEP.out w8 hb8 _ _ k2
    have hr0 : (0 : Int) ≤ (r : Int) := by omega
    have hrl' : (r : Int) < (zs.length : Int) := by omega
    have HI8 := Lib.hid hI8
    have hX8 : Hid (∀ j (h : j < zs.length), w8.cell? ⟨bx, j, none⟩ = some (.int .i64 zs[j])) := Lib.hid (fun j hj => keep8.out _ _ _ (hx6.out j hj) hbxg)
    have hgb6 : g ≤ b6 := by omega
    have hlt6 : b6 < w8.heap.size := by omega
    have hlt3 : w3.heap.size < w8.heap.size := by omega
    have hltW : W.heap.size < w8.heap.size := by omega
    have hn1 : ¬ (b6 = w3.heap.size) := by omega
    have hn2 : ¬ (b6 = W.heap.size) := by omega
    have hn3 : ¬ (w3.heap.size = w8.heap.size) := by omega
    have hn4 : ¬ (W.heap.size = w8.heap.size) := by omega
    have hn5 : ¬ (b6 = w8.heap.size) := by omega
    have hn6 : ¬ (W.heap.size = w3.heap.size) := by omega
    have hg8g : g < w8.heap.size := by omega
    clear hg7 hg8 keep7 hC8 hC7 hC6 hb7 hb6 hv6 hI8 hs7 hs6 hs5 hs4 hs3 hs8 hbx1 hbytes
    go_wp2
    obtain ⟨PF, hPF⟩ : ∃ PF : Nat → Int, PF = fun j => if j = 1 then f else pf := ⟨_, rfl⟩
    obtain ⟨PS, hPS⟩ : ∃ PS : Nat → Int, PS = fun j => if j = 0 then ps else s := ⟨_, rfl⟩
    obtain ⟨PA, hPA⟩ : ∃ PA : Nat → Int, PA = fun j => if j = 0 then pa else a := ⟨_, rfl⟩
    obtain ⟨ZZ, hZZ⟩ : ∃ ZZ : Nat → List Int, ZZ = fun j => if j = 0 then raw else if j = 1 then zs else zs.set r y := ⟨_, rfl⟩
    have HZI : Hid (∀ j, I64L (ZZ j) ∧ (ZZ j).length ≤ 700) := Lib.hid (fun j => by
      have hzs : I64L zs := fun x hx => by have := HZ.out.2 x hx; omega
      rw [hZZ]
      dsimp only
      split
      · exact ⟨hI1, hr700⟩
      · split
        · exact ⟨hzs, by omega⟩
        · refine ⟨fun x hx => ?_, by rw [List.length_set]; omega⟩
          rcases List.mem_or_eq_of_mem_set hx with hx | rfl
          · exact hzs x hx
          · exact ⟨hy1, hy2⟩)
    refine absW (F := fun w' => (∀ j, j < 3 → w'.cell? ⟨w8.heap.size + 1, j * 3, none⟩ = some (.int .i64 (PF j)) ∧ w'.cell? ⟨w8.heap.size + 1, j * 3 + 1, none⟩ = some (.int .i64 (PS j)) ∧ w'.cell? ⟨w8.heap.size + 1, j * 3 + 2, none⟩ = some (.int .i64 (PA j))) ∧ RdI w' (.slice q1 raw.length cap1) (ZZ 0) ∧ RdI w' (.slice (some ⟨bx, 0, none⟩) zs.length cx) (ZZ 1) ∧ RdI w' (.slice (some ⟨b6, 0, none⟩) zs.length c6) (ZZ 2) ∧ Below g w1 w' ∧ w8.heap.size + 1 < w'.heap.size) ⟨?_, ?_, ?_, ?_, ?_, ?_⟩ ?_
    · have hsz : ((w8.setCell ⟨b6, r, none⟩ (.int .i64 y)).alloc (.cells #[.int .i64 pf, .int .i64 s, .int .i64 a] 47)).heap.size = w8.heap.size + 1 := by simp
      intro j hj
      have hj3 : j = 0 ∨ j = 1 ∨ j = 2 := by omega
      rw [← hsz, hPF, hPS, hPA]
      refine ⟨?_, ?_, ?_⟩
      · rw [RX.cell_alloc, if_pos rfl]; rcases hj3 with rfl | rfl | rfl <;> rfl
      · rw [RX.cell_alloc, if_pos rfl]; rcases hj3 with rfl | rfl | rfl <;> rfl
      · rw [RX.cell_alloc, if_pos rfl]; rcases hj3 with rfl | rfl | rfl <;> rfl
    · rw [show ZZ 0 = raw by rw [hZZ]; rfl]
      exact ⟨q1, cap1, rfl, hl1, HRAW.out _ (((hb8.setCell (by simp; exact hgb6) _).alloc (by simp [World.setCell]; omega) _).alloc (by simp [World.setCell]; omega) _)⟩
    · rw [show ZZ 1 = zs by rw [hZZ]; rfl]
      refine ⟨_, cx, rfl, hcx, bx, 0, fun _ => rfl, fun j hj => ?_⟩
      rw [Nat.zero_add]
      have h9 : (w8.setCell ⟨b6, r, none⟩ (.int .i64 y)).cell? ⟨bx, j, none⟩ = some (.int .i64 zs[j]) := by
        rw [World.cell?_setCell_other _ _ _ _ (by intro e; injection e with e; exact hbx6 e.symm)]
        exact hX8.out j hj
      exact RX.keep (((Below.refl _ _).alloc (Nat.le_refl _) _).alloc (by simp) _) h9
    · rw [show ZZ 2 = zs.set r y by rw [hZZ]; rfl]
      have h9 := HI8.out.set r y
      rw [Nat.zero_add] at h9
      refine ⟨_, c6, by rw [List.length_set], by rw [List.length_set]; exact hc6, b6, 0, fun _ => rfl, fun j hj => ?_⟩
      exact RX.keep (((Below.refl _ _).alloc (Nat.le_refl _) _).alloc (by simp) _) (h9 j hj).1
    · exact ((hb8.setCell (by simp; exact hgb6) _).alloc (by simp [World.setCell]; omega) _).alloc (by simp [World.setCell]; omega) _
    · simp
    rintro W9 ⟨hpc, hr0', hr1', hr2', hb9, hs9⟩
    have HPC := Lib.hid hpc
    obtain ⟨VV, hVV⟩ : ∃ VV : Nat → Value, VV = fun j => if j = 0 then .slice q1 raw.length cap1 else if j = 1 then .slice (some ⟨bx, 0, none⟩) zs.length cx else .slice (some ⟨b6, 0, none⟩) zs.length c6 := ⟨_, rfl⟩
    have HVV : Hid (∀ j, j < 3 → RdI W9 (VV j) (ZZ j)) := Lib.hid (fun j hj => by
      have hj3 : j = 0 ∨ j = 1 ∨ j = 2 := by omega
      rw [hVV]
      rcases hj3 with rfl | rfl | rfl
      · exact hr0'
      · exact hr1'
      · exact hr2')
    have HV0 : Hid (VV 0 = .slice q1 raw.length cap1 ∧ VV 1 = .slice (some ⟨bx, 0, none⟩) zs.length cx ∧ VV 2 = .slice (some ⟨b6, 0, none⟩) zs.length c6) := Lib.hid (by rw [hVV]; exact ⟨rfl, rfl, rfl⟩)
    obtain ⟨B, hB⟩ : ∃ B, B = w8.heap.size + 1 := ⟨_, rfl⟩
    rw [← hB] at HPC hs9
    rw [← hB]
    have hgW9 : g ≤ W9.heap.size := by omega
    have HB9 := Lib.hid hb9
    have hBW : Hid (∀ wx, Below W9.heap.size W9 wx → HasTab wx) := Lib.hid (fun wx hb => hT.below (HBW.out _ (HB9.out.trans (hb.mono hgW9))))
    clear hPF hPS hPA hZZ hVV hpc hr0' hr1' hr2' hb9 hB c0 c1 c2 k0 k1 k2 m0 m1 m2 d0 f0 hb8
    go_loopw [55] (fun i wr => ∃ j : Nat, j ≤ 3 ∧ i = .int .i64 j ∧ Below W9.heap.size W9 wr) (fun i _ => 3 - (intOf i).toNat)
    case atStart => exact ⟨0, by omega, rfl, Below.refl _ _⟩
    case round =>
      obtain ⟨j, hj, rfl, hb⟩ := hrel
      by_cases hlt : j < 3
      · have hdj : decide ((j : Int) < 3) = true := decide_eq_true (by omega)
        obtain ⟨a0, a1, a2⟩ := HPC.out j hlt
        replace a0 := RX.keep hb a0
        replace a1 := RX.keep hb a1
        replace a2 := RX.keep hb a2
        obtain ⟨f1, hf1⟩ : ∃ x, x = PF j := ⟨_, rfl⟩
        obtain ⟨s1, hs1⟩ : ∃ x, x = PS j := ⟨_, rfl⟩
        obtain ⟨x1, hx1⟩ : ∃ x, x = PA j := ⟨_, rfl⟩
        rw [← hf1] at a0
        rw [← hs1] at a1
        rw [← hx1] at a2
        clear hf1 hs1 hx1
        have hj0 : (0 : Int) ≤ (j : Int) := by omega
        have hj3 : (j : Int) < 3 := by omega
        have HB := Lib.hid hb
        clear hb
        go_wp2
        refine absW (F := fun w' => (w'.cell? ⟨wr.heap.size, 0, none⟩ = some (.int .i64 f1) ∧ w'.cell? ⟨wr.heap.size, 1, none⟩ = some (.int .i64 s1) ∧ w'.cell? ⟨wr.heap.size, 2, none⟩ = some (.int .i64 x1)) ∧ (∀ t, t < 3 → w'.cell? ⟨wr.heap.size + 1, t, none⟩ = some (VV t)) ∧ Below W9.heap.size W9 w' ∧ wr.heap.size + 1 < w'.heap.size) ⟨⟨?_, ?_, ?_⟩, ?_, ?_, ?_⟩ ?_
        · exact (by simp [RX.cell_drew, RX.cell_alloc, Nat.add_assoc])
        · exact (by simp [RX.cell_drew, RX.cell_alloc, Nat.add_assoc])
        · exact (by simp [RX.cell_drew, RX.cell_alloc, Nat.add_assoc])
        · intro t ht
          have hsz : (wr.alloc (.cells #[.int .i64 f1, .int .i64 s1, .int .i64 x1] 47)).heap.size = wr.heap.size + 1 := by simp
          have ht3 : t = 0 ∨ t = 1 ∨ t = 2 := by omega
          rw [← hsz, RX.cell_alloc, if_pos rfl]
          rcases ht3 with rfl | rfl | rfl
          · rw [HV0.out.1]; rfl
          · rw [HV0.out.2.1]; rfl
          · rw [HV0.out.2.2]; rfl
        · exact (HB.out.alloc HB.out.size _).alloc (by have := HB.out.size; simp; omega) _
        · simp
        rintro Wi ⟨⟨y0, y1', y2⟩, hsl, hbi, hsi⟩
        obtain ⟨ky, hky⟩ : ∃ ky, ky = wr.heap.size := ⟨_, rfl⟩
        rw [← hky] at y0 y1' y2 hsl hsi
        rw [← hky]
        have HY := Lib.hid (And.intro y0 (And.intro y1' y2))
        have HSL := Lib.hid hsl
        have HBI := Lib.hid hbi
        clear hky y0 y1' y2 hsl hbi a0 a1 a2
        have hpv1 : Hid (prv f1 s1 x1 = .agg #[.int .i64 f1, .int .i64 s1, .int .i64 x1]) := Lib.hid rfl
        go_loopw [64] (fun i wx => ∃ t : Nat, t ≤ 3 ∧ i = .int .i64 t ∧ Below Wi.heap.size Wi wx) (fun i _ => 3 - (intOf i).toNat)
        case atStart => exact ⟨0, by omega, rfl, Below.refl _ _⟩
        case round =>
          obtain ⟨t, ht, rfl, hb⟩ := hrel
          by_cases hltt : t < 3
          · have hdt : decide ((t : Int) < 3) = true := decide_eq_true (by omega)
            have vc := RX.keep hb (HSL.out t hltt)
            have hz9 : Below W9.heap.size W9 wr := HBI.out.trans (hb.mono HBI.out.size)
            have hrv := (HVV.out t hltt).below hz9
            have hTr := hBW.out wr hz9
            obtain ⟨hzi, hzl⟩ := HZI.out t
            obtain ⟨v, hv⟩ : ∃ v, v = VV t := ⟨_, rfl⟩
            obtain ⟨Z, hZ⟩ : ∃ Z, Z = ZZ t := ⟨_, rfl⟩
            rw [← hv] at vc hrv
            rw [← hZ] at hrv hzi hzl
            clear hv hZ
            obtain ⟨pz, cz, rfl, hcz, hVz⟩ := hrv
            obtain ⟨c0, c1, c2⟩ := HY.out
            replace c0 := RX.keep hb c0
            replace c1 := RX.keep hb c1
            replace c2 := RX.keep hb c2
            have ht0 : (0 : Int) ≤ (t : Int) := by omega
            have ht3 : (t : Int) < 3 := by omega
            have HB := Lib.hid hb
            have HZI2 := Lib.hid hzi
            have HVZ := Lib.hid hVz
            have hrd : RdI wr (.slice pz Z.length cz) Z := ⟨pz, cz, rfl, hcz, hVz⟩
            have HRD := Lib.hid hrd
            clear hb hzi hVz hrd
            go_wp2_with fail
            rw [← hpv1.out]
            refine (applyA f1 s1 x1 _ Z wr HRD.out (by omega) hTr).mono ?_
            rintro e wa ⟨ua, rfl, hua, hba⟩
            replace c0 := RX.keep hba c0
            replace c1 := RX.keep hba c1
            replace c2 := RX.keep hba c2
            have HBa := Lib.hid hba
            clear hba
            go_wp2_with fail
            rw [← hpv1.out]
            refine (rapplyA f1 s1 x1 _ Z wa (HRD.out.below HBa.out) (by omega) HZI2.out).mono ?_
            rintro e wb ⟨ub, rfl, hub, hbb⟩
            replace c0 := RX.keep hbb c0
            replace c1 := RX.keep hbb c1
            replace c2 := RX.keep hbb c2
            replace hua := hua.below hbb
            have HBb := Lib.hid (HBa.out.trans (hbb.mono HBa.out.size))
            clear hbb
            go_wp2_with fail
            rw [← hpv1.out]
            refine (genergyA f1 s1 x1 _ Z wb (HRD.out.below HBb.out) (by omega) (hTr.below HBb.out)).mono ?_
            rintro e wc ⟨rfl, hbc⟩
            replace c0 := RX.keep hbc c0
            replace c1 := RX.keep hbc c1
            replace c2 := RX.keep hbc c2
            replace hua := hua.below hbc
            replace hub := hub.below hbc
            have HBc := Lib.hid (HBb.out.trans (hbc.mono HBb.out.size))
            clear hbc
            obtain ⟨EA, EB, hEA, hEB, hE⟩ := wv_parts (energyV f1 s1 x1 Z)
            clear hEA hEB
            have HE := Lib.hid hE
            rw [hE]
            clear hE
            obtain ⟨er, her⟩ : ∃ er, er = vecErr f1 s1 x1 Z := ⟨_, rfl⟩
            have HER := Lib.hid her
            rw [← her]
            clear her
            have hbd := (Below.refl wc.heap.size wc).alloc (Nat.le_refl _) (.cells #[.int .i64 EA, .int .u64 EB] 59)
            have e0 : (wc.alloc (.cells #[.int .i64 EA, .int .u64 EB] 59)).cell? ⟨wc.heap.size, 0, none⟩ = some (.int .i64 EA) := (by simp [RX.cell_drew, RX.cell_alloc, Nat.add_assoc])
            have e1 : (wc.alloc (.cells #[.int .i64 EA, .int .u64 EB] 59)).cell? ⟨wc.heap.size, 1, none⟩ = some (.int .u64 EB) := (by simp [RX.cell_drew, RX.cell_alloc, Nat.add_assoc])
            have hkyc : ky < wc.heap.size := World.block_lt_of_cell? _ _ c0
            have hkyn : ¬ (ky = wc.heap.size) := by omega
            go_wp2_with fail
            replace c0 := RX.keep hbd c0
            replace c1 := RX.keep hbd c1
            replace c2 := RX.keep hbd c2
            replace hua := hua.below hbd
            replace hub := hub.below hbd
            have HBd := Lib.hid (HBc.out.trans (hbd.mono HBc.out.size))
            clear hbd
            generalize (wc.alloc (.cells #[.int .i64 EA, .int .u64 EB] 59)) = wd at *
            rw [← hpv1.out]
            refine (renergyA f1 s1 x1 _ Z wd (HRD.out.below HBd.out) (by omega) HZI2.out).mono ?_
            rintro e we ⟨rfl, hbe⟩
            replace c0 := RX.keep hbe c0
            replace c1 := RX.keep hbe c1
            replace c2 := RX.keep hbe c2
            replace e0 := RX.keep hbe e0
            replace e1 := RX.keep hbe e1
            replace hua := hua.below hbe
            replace hub := hub.below hbe
            have HBe := Lib.hid (HBd.out.trans (hbe.mono HBd.out.size))
            clear hbe
            rw [HE.out, ← HER.out]
            have hbf := (Below.refl we.heap.size we).alloc (Nat.le_refl _) (.cells #[.int .i64 EA, .int .u64 EB] 59)
            have g0 : (we.alloc (.cells #[.int .i64 EA, .int .u64 EB] 59)).cell? ⟨we.heap.size, 0, none⟩ = some (.int .i64 EA) := (by simp [RX.cell_drew, RX.cell_alloc, Nat.add_assoc])
            have g1 : (we.alloc (.cells #[.int .i64 EA, .int .u64 EB] 59)).cell? ⟨we.heap.size, 1, none⟩ = some (.int .u64 EB) := (by simp [RX.cell_drew, RX.cell_alloc, Nat.add_assoc])
            replace c0 := RX.keep hbf c0
            replace c1 := RX.keep hbf c1
            replace c2 := RX.keep hbf c2
            replace e0 := RX.keep hbf e0
            replace e1 := RX.keep hbf e1
            replace hua := hua.below hbf
            replace hub := hub.below hbf
            have HBf := Lib.hid (HBe.out.trans (hbf.mono HBe.out.size))
            clear hbf
            go_wp2
            generalize (we.alloc (.cells #[.int .i64 EA, .int .u64 EB] 59)) = wf at *
            obtain ⟨ec, hec⟩ : ∃ ec, ec = prErr f1 s1 x1 := ⟨_, rfl⟩
            have HEC := Lib.hid hec
            clear hec
            have HUA := Lib.hid hua
            have HUB := Lib.hid hub
            clear hua hub
            refine RX.region RX.fL (fun w' => w'.cell? ⟨ky, 0, none⟩ = some (.int .i64 f1) ∧ w'.cell? ⟨ky, 1, none⟩ = some (.int .i64 s1) ∧ w'.cell? ⟨ky, 2, none⟩ = some (.int .i64 x1) ∧ w'.cell? ⟨wc.heap.size, 0, none⟩ = some (.int .i64 EA) ∧ w'.cell? ⟨wc.heap.size, 1, none⟩ = some (.int .u64 EB) ∧ w'.cell? ⟨we.heap.size, 0, none⟩ = some (.int .i64 EA) ∧ w'.cell? ⟨we.heap.size, 1, none⟩ = some (.int .u64 EB)) (by kernel_rfl) (by kernel_rfl) (⟨c0, c1, c2, e0, e1, g0, g1⟩) (fun OPS HO QR hQR => ?_)
            repeat
              refine RX.step (fun R hR => ?_)
              first
              | (refine RX.one_skip (by first | rfl | (rw [HO.out]; rfl)) (by simp only [RX.put_some, RX.put_none, List.set_cons_zero, List.set_cons_succ]; rfl) ?_
                 refine hR _ _ ?_; clear hR R)
              | (refine RX.one_move (by first | rfl | (rw [HO.out]; rfl)) rfl (by first | exact Or.inl rfl | exact Or.inr rfl) (by simp only [RX.eval_tmp, RX.eval_const, List.getD_cons_zero, List.getD_cons_succ]; rfl) (by simp only [RX.put_some, RX.put_none, List.set_cons_zero, List.set_cons_succ]; rfl) ?_
                 refine hR _ _ ?_; clear hR R)
              | (refine RX.one_nil (by first | rfl | (rw [HO.out]; rfl)) rfl rfl (by simp only [RX.eval_tmp, RX.eval_const, List.getD_cons_zero, List.getD_cons_succ]; rfl) (by simp only [RX.put_some, RX.put_none, List.set_cons_zero, List.set_cons_succ]; rfl) ?_
                 refine hR _ _ ?_; clear hR R)
              | (refine RX.one_float (by first | rfl | (rw [HO.out]; rfl)) rfl rfl rfl ?_
                 apply Exists.intro; apply Exists.intro
                 refine ⟨fun w' hS K hK => ?_, ?_, ?_⟩
                 · obtain ⟨hS1, hS2, hS3, hS4, hS5, hS6, hS7⟩ := hS; go_wp2; exact hK _ _ (by simp only [RX.arr_getD, List.getD_cons_zero, List.getD_cons_succ]; first | exact RX.dec_t (by omega) | exact RX.dec_f (by omega) | exact RX.beq_t (by omega) | exact RX.beq_f (by omega) | exact RX.bne_t (by omega) | exact RX.bne_f (by omega) | exact RX.bneB _ | rfl) rfl
                 · simp only [RX.put_some, RX.put_none, List.set_cons_zero, List.set_cons_succ]; rfl
                 refine hR _ _ ?_; clear hR R)
            refine RX.step (fun R hR => ?_)
            refine RX.one_chain (by first | rfl | (rw [HO.out]; rfl)) rfl (fun K hK => ?_)
            go_wp2_with fail
            rw [← hpv1.out]
            refine (pcheck_any f1 s1 x1 _).mono ?_
            rintro e wg ⟨rfl, hbq⟩
            rw [← HEC.out]
            replace hbq : Below wf.heap.size wf wg := ⟨hbq.os, hbq.tape, hbq.output, hbq.size, hbq.block⟩
            have HD := Lib.hid hbq
            have c00 := RX.keep hbq c0
            have c10 := RX.keep hbq c1
            have c20 := RX.keep hbq c2
            have e00 := RX.keep hbq e0
            have e10 := RX.keep hbq e1
            have g00 := RX.keep hbq g0
            have g10 := RX.keep hbq g1
            clear hbq
            refine hK _ _ ⟨⟨c00, c10, c20, e00, e10, g00, g10⟩, hR _ _ ?_⟩; clear hK K hR R
            repeat
              refine RX.step (fun R hR => ?_)
              first
              | (refine RX.one_skip (by first | rfl | (rw [HO.out]; rfl)) (by simp only [RX.put_some, RX.put_none, List.set_cons_zero, List.set_cons_succ]; rfl) ?_
                 refine hR _ _ ?_; clear hR R)
              | (refine RX.one_move (by first | rfl | (rw [HO.out]; rfl)) rfl (by first | exact Or.inl rfl | exact Or.inr rfl) (by simp only [RX.eval_tmp, RX.eval_const, List.getD_cons_zero, List.getD_cons_succ]; rfl) (by simp only [RX.put_some, RX.put_none, List.set_cons_zero, List.set_cons_succ]; rfl) ?_
                 refine hR _ _ ?_; clear hR R)
              | (refine RX.one_nil (by first | rfl | (rw [HO.out]; rfl)) rfl rfl (by simp only [RX.eval_tmp, RX.eval_const, List.getD_cons_zero, List.getD_cons_succ]; rfl) (by simp only [RX.put_some, RX.put_none, List.set_cons_zero, List.set_cons_succ]; rfl) ?_
                 refine hR _ _ ?_; clear hR R)
              | (refine RX.one_float (by first | rfl | (rw [HO.out]; rfl)) rfl rfl rfl ?_
                 apply Exists.intro; apply Exists.intro
                 refine ⟨fun w' hS K hK => ?_, ?_, ?_⟩
                 · obtain ⟨hS1, hS2, hS3, hS4, hS5, hS6, hS7⟩ := hS; go_wp2; exact hK _ _ (by simp only [RX.arr_getD, List.getD_cons_zero, List.getD_cons_succ]; first | exact RX.dec_t (by omega) | exact RX.dec_f (by omega) | exact RX.beq_t (by omega) | exact RX.beq_f (by omega) | exact RX.bne_t (by omega) | exact RX.bne_f (by omega) | exact RX.bneB _ | rfl) rfl
                 · simp only [RX.put_some, RX.put_none, List.set_cons_zero, List.set_cons_succ]; rfl
                 refine hR _ _ ?_; clear hR R)
            refine RX.step (fun R hR => ?_)
            refine RX.one_chain (by first | rfl | (rw [HO.out]; rfl)) rfl (fun K hK => ?_)
            go_wp2_with fail
            rw [← hpv1.out]
            refine (rpcheck_any f1 s1 x1 _).mono ?_
            rintro e wh ⟨rfl, hbq⟩
            rw [← HEC.out]
            replace hbq : Below wf.heap.size wf wh := HD.out.trans (hbq.mono HD.out.size)
            replace HD := Lib.hid hbq
            have c01 := RX.keep hbq c0
            have c11 := RX.keep hbq c1
            have c21 := RX.keep hbq c2
            have e01 := RX.keep hbq e0
            have e11 := RX.keep hbq e1
            have g01 := RX.keep hbq g0
            have g11 := RX.keep hbq g1
            clear hbq
            refine hK _ _ ⟨⟨c01, c11, c21, e01, e11, g01, g11⟩, hR _ _ ?_⟩; clear hK K hR R
            repeat
              refine RX.step (fun R hR => ?_)
              first
              | (refine RX.one_skip (by first | rfl | (rw [HO.out]; rfl)) (by simp only [RX.put_some, RX.put_none, List.set_cons_zero, List.set_cons_succ]; rfl) ?_
                 refine hR _ _ ?_; clear hR R)
              | (refine RX.one_move (by first | rfl | (rw [HO.out]; rfl)) rfl (by first | exact Or.inl rfl | exact Or.inr rfl) (by simp only [RX.eval_tmp, RX.eval_const, List.getD_cons_zero, List.getD_cons_succ]; rfl) (by simp only [RX.put_some, RX.put_none, List.set_cons_zero, List.set_cons_succ]; rfl) ?_
                 refine hR _ _ ?_; clear hR R)
              | (refine RX.one_nil (by first | rfl | (rw [HO.out]; rfl)) rfl rfl (by simp only [RX.eval_tmp, RX.eval_const, List.getD_cons_zero, List.getD_cons_succ]; rfl) (by simp only [RX.put_some, RX.put_none, List.set_cons_zero, List.set_cons_succ]; rfl) ?_
                 refine hR _ _ ?_; clear hR R)
              | (refine RX.one_float (by first | rfl | (rw [HO.out]; rfl)) rfl rfl rfl ?_
                 apply Exists.intro; apply Exists.intro
                 refine ⟨fun w' hS K hK => ?_, ?_, ?_⟩
                 · obtain ⟨hS1, hS2, hS3, hS4, hS5, hS6, hS7⟩ := hS; go_wp2; exact hK _ _ (by simp only [RX.arr_getD, List.getD_cons_zero, List.getD_cons_succ]; first | exact RX.dec_t (by omega) | exact RX.dec_f (by omega) | exact RX.beq_t (by omega) | exact RX.beq_f (by omega) | exact RX.bne_t (by omega) | exact RX.bne_f (by omega) | exact RX.bneB _ | rfl) rfl
                 · simp only [RX.put_some, RX.put_none, List.set_cons_zero, List.set_cons_succ]; rfl
                 refine hR _ _ ?_; clear hR R)
            refine RX.step (fun R hR => ?_)
            refine RX.one_chain (by first | rfl | (rw [HO.out]; rfl)) rfl (fun K hK => ?_)
            go_wp2_with fail
            rw [← hpv1.out]
            refine (vector_any f1 s1 x1 pz Z cz _ (HVZ.out.below (HBf.out.trans (HD.out.mono HBf.out.size))) (by omega)).mono ?_
            rintro e wk ⟨rfl, hbq⟩
            rw [← HER.out]
            replace hbq : Below wf.heap.size wf wk := HD.out.trans (hbq.mono HD.out.size)
            replace HD := Lib.hid hbq
            have c02 := RX.keep hbq c0
            have c12 := RX.keep hbq c1
            have c22 := RX.keep hbq c2
            have e02 := RX.keep hbq e0
            have e12 := RX.keep hbq e1
            have g02 := RX.keep hbq g0
            have g12 := RX.keep hbq g1
            clear hbq
            refine hK _ _ ⟨⟨c02, c12, c22, e02, e12, g02, g12⟩, hR _ _ ?_⟩; clear hK K hR R
            repeat
              refine RX.step (fun R hR => ?_)
              first
              | (refine RX.one_skip (by first | rfl | (rw [HO.out]; rfl)) (by simp only [RX.put_some, RX.put_none, List.set_cons_zero, List.set_cons_succ]; rfl) ?_
                 refine hR _ _ ?_; clear hR R)
              | (refine RX.one_move (by first | rfl | (rw [HO.out]; rfl)) rfl (by first | exact Or.inl rfl | exact Or.inr rfl) (by simp only [RX.eval_tmp, RX.eval_const, List.getD_cons_zero, List.getD_cons_succ]; rfl) (by simp only [RX.put_some, RX.put_none, List.set_cons_zero, List.set_cons_succ]; rfl) ?_
                 refine hR _ _ ?_; clear hR R)
              | (refine RX.one_nil (by first | rfl | (rw [HO.out]; rfl)) rfl rfl (by simp only [RX.eval_tmp, RX.eval_const, List.getD_cons_zero, List.getD_cons_succ]; rfl) (by simp only [RX.put_some, RX.put_none, List.set_cons_zero, List.set_cons_succ]; rfl) ?_
                 refine hR _ _ ?_; clear hR R)
              | (refine RX.one_float (by first | rfl | (rw [HO.out]; rfl)) rfl rfl rfl ?_
                 apply Exists.intro; apply Exists.intro
                 refine ⟨fun w' hS K hK => ?_, ?_, ?_⟩
                 · obtain ⟨hS1, hS2, hS3, hS4, hS5, hS6, hS7⟩ := hS; go_wp2; exact hK _ _ (by simp only [RX.arr_getD, List.getD_cons_zero, List.getD_cons_succ]; first | exact RX.dec_t (by omega) | exact RX.dec_f (by omega) | exact RX.beq_t (by omega) | exact RX.beq_f (by omega) | exact RX.bne_t (by omega) | exact RX.bne_f (by omega) | exact RX.bneB _ | rfl) rfl
                 · simp only [RX.put_some, RX.put_none, List.set_cons_zero, List.set_cons_succ]; rfl
                 refine hR _ _ ?_; clear hR R)
            refine RX.step (fun R hR => ?_)
            refine RX.one_chain (by first | rfl | (rw [HO.out]; rfl)) rfl (fun K hK => ?_)
            go_wp2_with fail
            rw [← hpv1.out]
            refine (rvector_any f1 s1 x1 pz Z cz _ (HVZ.out.below (HBf.out.trans (HD.out.mono HBf.out.size))) (by omega) HZI2.out).mono ?_
            rintro e wl ⟨rfl, hbq⟩
            rw [← HER.out]
            replace hbq : Below wf.heap.size wf wl := HD.out.trans (hbq.mono HD.out.size)
            replace HD := Lib.hid hbq
            have c03 := RX.keep hbq c0
            have c13 := RX.keep hbq c1
            have c23 := RX.keep hbq c2
            have e03 := RX.keep hbq e0
            have e13 := RX.keep hbq e1
            have g03 := RX.keep hbq g0
            have g13 := RX.keep hbq g1
            clear hbq
            refine hK _ _ ⟨⟨c03, c13, c23, e03, e13, g03, g13⟩, hR _ _ ?_⟩; clear hK K hR R
            repeat
              refine RX.step (fun R hR => ?_)
              first
              | (refine RX.one_skip (by first | rfl | (rw [HO.out]; rfl)) (by simp only [RX.put_some, RX.put_none, List.set_cons_zero, List.set_cons_succ]; rfl) ?_
                 refine hR _ _ ?_; clear hR R)
              | (refine RX.one_move (by first | rfl | (rw [HO.out]; rfl)) rfl (by first | exact Or.inl rfl | exact Or.inr rfl) (by simp only [RX.eval_tmp, RX.eval_const, List.getD_cons_zero, List.getD_cons_succ]; rfl) (by simp only [RX.put_some, RX.put_none, List.set_cons_zero, List.set_cons_succ]; rfl) ?_
                 refine hR _ _ ?_; clear hR R)
              | (refine RX.one_nil (by first | rfl | (rw [HO.out]; rfl)) rfl rfl (by simp only [RX.eval_tmp, RX.eval_const, List.getD_cons_zero, List.getD_cons_succ]; rfl) (by simp only [RX.put_some, RX.put_none, List.set_cons_zero, List.set_cons_succ]; rfl) ?_
                 refine hR _ _ ?_; clear hR R)
              | (refine RX.one_float (by first | rfl | (rw [HO.out]; rfl)) rfl rfl rfl ?_
                 apply Exists.intro; apply Exists.intro
                 refine ⟨fun w' hS K hK => ?_, ?_, ?_⟩
                 · obtain ⟨hS1, hS2, hS3, hS4, hS5, hS6, hS7⟩ := hS; go_wp2; exact hK _ _ (by simp only [RX.arr_getD, List.getD_cons_zero, List.getD_cons_succ]; first | exact RX.dec_t (by omega) | exact RX.dec_f (by omega) | exact RX.beq_t (by omega) | exact RX.beq_f (by omega) | exact RX.bne_t (by omega) | exact RX.bne_f (by omega) | exact RX.bneB _ | rfl) rfl
                 · simp only [RX.put_some, RX.put_none, List.set_cons_zero, List.set_cons_succ]; rfl
                 refine hR _ _ ?_; clear hR R)
            refine RX.step (fun R hR => ?_)
            refine RX.one_chain (by first | rfl | (rw [HO.out]; rfl)) rfl (fun K hK => ?_)
            go_wp2_with fail
            refine (kints_sameA ua ub (applyV f1 s1 x1 Z) _ (HUA.out.below HD.out) (HUB.out.below HD.out) (applyV_len _ _ _ _)).mono ?_
            rintro e wm ⟨rfl, hbq⟩
            replace hbq : Below wf.heap.size wf wm := HD.out.trans (hbq.mono HD.out.size)
            replace HD := Lib.hid hbq
            have c04 := RX.keep hbq c0
            have c14 := RX.keep hbq c1
            have c24 := RX.keep hbq c2
            have e04 := RX.keep hbq e0
            have e14 := RX.keep hbq e1
            have g04 := RX.keep hbq g0
            have g14 := RX.keep hbq g1
            clear hbq
            refine hK _ _ ⟨⟨c04, c14, c24, e04, e14, g04, g14⟩, hR _ _ ?_⟩; clear hK K hR R
            repeat
              refine RX.step (fun R hR => ?_)
              first
              | (refine RX.one_skip (by first | rfl | (rw [HO.out]; rfl)) (by simp only [RX.put_some, RX.put_none, List.set_cons_zero, List.set_cons_succ]; rfl) ?_
                 refine hR _ _ ?_; clear hR R)
              | (refine RX.one_move (by first | rfl | (rw [HO.out]; rfl)) rfl (by first | exact Or.inl rfl | exact Or.inr rfl) (by simp only [RX.eval_tmp, RX.eval_const, List.getD_cons_zero, List.getD_cons_succ]; rfl) (by simp only [RX.put_some, RX.put_none, List.set_cons_zero, List.set_cons_succ]; rfl) ?_
                 refine hR _ _ ?_; clear hR R)
              | (refine RX.one_nil (by first | rfl | (rw [HO.out]; rfl)) rfl rfl (by simp only [RX.eval_tmp, RX.eval_const, List.getD_cons_zero, List.getD_cons_succ]; rfl) (by simp only [RX.put_some, RX.put_none, List.set_cons_zero, List.set_cons_succ]; rfl) ?_
                 refine hR _ _ ?_; clear hR R)
              | (refine RX.one_float (by first | rfl | (rw [HO.out]; rfl)) rfl rfl rfl ?_
                 apply Exists.intro; apply Exists.intro
                 refine ⟨fun w' hS K hK => ?_, ?_, ?_⟩
                 · obtain ⟨hS1, hS2, hS3, hS4, hS5, hS6, hS7⟩ := hS; go_wp2; exact hK _ _ (by simp only [RX.arr_getD, List.getD_cons_zero, List.getD_cons_succ]; first | exact RX.dec_t (by omega) | exact RX.dec_f (by omega) | exact RX.beq_t (by omega) | exact RX.beq_f (by omega) | exact RX.bne_t (by omega) | exact RX.bne_f (by omega) | exact RX.bneB _ | rfl) rfl
                 · simp only [RX.put_some, RX.put_none, List.set_cons_zero, List.set_cons_succ]; rfl
                 refine hR _ _ ?_; clear hR R)
            refine RX.wpL_nil (hQR _ _ (⟨c04, c14, c24, e04, e14, g04, g14⟩) ?_); clear hQR QR HO OPS
            have HBZ := Lib.hid (HB.out.trans ((HBf.out.trans (HD.out.mono HBf.out.size)).mono HB.out.size))
            go_wp2
            go_roundw
            case rel => first | exact ⟨t + 1, by omega, by go_num, HBZ.out⟩ | ((repeat apply Exists.intro); refine ⟨⟨t + 1, by omega, ?_, HBZ.out⟩, rfl⟩; first | rfl | go_num)
            case measure => simp [intOf]; omega
          · have hdt : decide ((t : Int) < 3) = false := decide_eq_false (by omega)
            have HBx := Lib.hid (HBI.out.trans (hb.mono HBI.out.size))
            clear hb
            go_wp2
            go_roundw
            case rel => exact ⟨j + 1, by omega, by go_num, HBx.out⟩
            case measure => simp [intOf]; omega
      · have hdj : decide ((j : Int) < 3) = false := decide_eq_false (by omega)
        have HBx := Lib.hid (HBW.out _ (HB9.out.trans (hb.mono hgW9)))
        clear hb
        go_wp2
        go_ret
        exact ⟨rfl, HBx.out⟩
end Go.Proofs.YtlfhildbjipheaaGreatDoor
