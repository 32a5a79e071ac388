import Derived.Test.YtpbfgnffkhabnaaDoorKCodes
import Derived.Test.YtpbfgnffkhabnaaDoorKPrec
import Derived.Test.YtpbfgnffkhabnaaDoorKLin
set_option linter.unusedSimpArgs false
set_option linter.unusedVariables false
namespace Go.Proofs.YtpbfgnffkhabnaaDoor
open Go.RowKit

/-- A row made by a call can be read. -/
theorem RowV.vec {w : World} {base : Nat} {v : Value} {zs : List Int} (h : RowV w base v zs) : ∃ p cap, v = .slice p zs.length cap ∧ VecAt w p zs := by
  obtain ⟨p, cap, b, rfl, _, h1, h2⟩ := h.form
  exact ⟨p, cap, rfl, b, 0, fun h0 => (h1 h0).1, fun j hj => (h2 j hj).1⟩
def halvesL (zs : List Int) : List Int := zs.map (fun x => x.tdiv 2)

set_option maxRecDepth 100000 in
set_option maxHeartbeats 2000000 in
theorem halves_any (p : Option Addr) (zs : List Int) (cap : Nat) (w : World) (hV : VecAt w p zs) (hl : zs.length ≤ 1000) (bz : Within 1048576 zs) :
    Calls Tryd.prog 37 #[.slice p zs.length cap] w fun e w' => ∃ v, e = .returned v ∧ RowV w' w.heap.size v (halvesL zs) ∧ Below w.heap.size w w' := by
  go_enter Tryd.func37, Tryd.ntmps37
  go_wp2
  have HV := Lib.hid (And.intro hV bz)
  clear hV bz
  go_loopw [3, 8] (fun v i wr => ∃ (k : Nat) (xs : List Int), k ≤ zs.length ∧ i = .int .i64 k ∧ xs.length = k ∧ Hid (xs = halvesL (zs.take k)) ∧ RowV wr w.heap.size v xs ∧ Below w.heap.size w wr) (fun v i _ => zs.length - (intOf i).toNat)
  case atStart => exact ⟨0, [], by omega, rfl, rfl, Lib.hid rfl, RowV.nil _ _, Below.refl _ _⟩
  case round =>
    obtain ⟨_, xs, hk, rfl, rfl, HX, hrow, hB⟩ := hrel
    by_cases hlt : xs.length < zs.length
    · have hdk : decide ((xs.length : Int) < (zs.length : Int)) = true := decide_eq_true (by omega)
      obtain ⟨b, o, rfl, hbl, hcell⟩ := HV.out.1.cell (by omega)
      have ck := RX.keep hB (hcell xs.length hlt)
      have hbz := HV.out.2 zs[xs.length] (List.getElem_mem _)
      obtain ⟨x, hx⟩ : ∃ x, x = zs[xs.length] := ⟨_, rfl⟩
      rw [← hx] at ck hbz
      have hstep : Hid (xs ++ [x.tdiv 2] = halvesL (zs.take (xs.length + 1))) := Lib.hid (by
        rw [List.take_succ_eq_append_getElem hlt, ← hx]
        unfold halvesL
        rw [List.map_append]
        show _ = halvesL (zs.take xs.length) ++ _
        rw [← HX.out]; rfl)
      clear hx hcell
      obtain ⟨p8, c8, rfl, hc8⟩ := own_slice hrow
      have hs1 := hB.size
      have hown := World.ownsRow.alloc hrow (.cells #[.int .i64 (x.tdiv 2)] 3)
      clear hrow
      have HB := Lib.hid hB
      clear hB
      go_wp2_with (refine RX.wpl_app2 (by rfl) elInt _ _ (by rfl) w.heap.size _ _ _ hown (by rfl) wr.heap.size _ 1 (by rfl) (heap_alloc_new _ _) (by rfl) (by simp [Value.oneCell']) (by omega) (by omega) (by simp; omega) ?_; intro v' w2 hown2 hb2 hg2 hat2)
      have hlow : ∀ q, (Value.slice p8 xs.length c8).ownBlock = some q → w.heap.size ≤ q := fun q hq => (World.ownsRow.lt hown q hq).1
      have HB2 : Hid (Below w.heap.size w w2) := Lib.hid ((HB.out.alloc (by omega) _).grown hg2 (by simp; omega) hlow)
      have HR2 : Hid (RowV w2 w.heap.size v' (xs ++ [x.tdiv 2])) := Lib.hid (RowV.snoc hown2)
      go_roundw
      case rel => exact ⟨xs.length + 1, xs ++ [x.tdiv 2], by omega, by go_num, by simp, hstep, HR2.out, HB2.out⟩
      case measure => simp [intOf]; omega
    · have hdk : decide ((xs.length : Int) < (zs.length : Int)) = false := decide_eq_false (by omega)
      have he : xs.length = zs.length := by omega
      have HE : Hid (xs = halvesL zs) := Lib.hid (by rw [HX.out, he, List.take_length])
      clear he
      go_wp2
      go_ret
      rw [← HE.out]
      exact ⟨_, rfl, hrow, hB⟩

set_option maxRecDepth 100000 in
set_option maxHeartbeats 2000000 in
theorem vsum_any (p q : Option Addr) (zs ys : List Int) (cz cy : Nat) (w : World) (hV : VecAt w p zs) (hU : VecAt w q ys) (hlen : zs.length = ys.length) (hl : zs.length ≤ 1000) (bz : ∀ x ∈ zs, -2305843009213693952 ≤ x ∧ x ≤ 2305843009213693952) (bY : ∀ x ∈ ys, -2305843009213693952 ≤ x ∧ x ≤ 2305843009213693952) :
    Calls Tryd.prog 40 #[.slice p zs.length cz, .slice q zs.length cy] w fun e w' => ∃ v, e = .returned v ∧ RowV w' w.heap.size v (addL zs ys) ∧ Below w.heap.size w w' := by
  have HV := Lib.hid (And.intro hV (And.intro hU (And.intro bz (And.intro bY hlen))))
  clear hV hU bz bY hlen
  go_enter Tryd.func40, Tryd.ntmps40
  go_wp2
  go_loopw [5, 9] (fun v i wr => ∃ (k : Nat) (xs : List Int), k ≤ zs.length ∧ i = .int .i64 k ∧ xs.length = k ∧ Hid (xs = addL (zs.take k) (ys.take k)) ∧ RowV wr w.heap.size v xs ∧ Below w.heap.size w wr) (fun v i _ => zs.length - (intOf i).toNat)
  case atStart => exact ⟨0, [], by omega, rfl, rfl, Lib.hid rfl, RowV.nil _ _, Below.refl _ _⟩
  case round =>
    obtain ⟨_, xs, hk, rfl, rfl, HX, hrow, hB⟩ := hrel
    by_cases hlt : xs.length < zs.length
    · have hdk : decide ((xs.length : Int) < (zs.length : Int)) = true := decide_eq_true (by omega)
      have hlty : xs.length < ys.length := by rw [← HV.out.2.2.2.2]; exact hlt
      obtain ⟨b, o, rfl, hbl, hcell⟩ := HV.out.1.cell (by omega)
      obtain ⟨c, o2, rfl, hcl, hcell2⟩ := HV.out.2.1.cell (by omega)
      have ck := RX.keep hB (hcell xs.length hlt)
      have dk := RX.keep hB (hcell2 xs.length hlty)
      have hbz := HV.out.2.2.1 zs[xs.length] (List.getElem_mem _)
      have hby := HV.out.2.2.2.1 ys[xs.length] (List.getElem_mem _)
      obtain ⟨x, hx⟩ : ∃ x, x = zs[xs.length] := ⟨_, rfl⟩
      rw [← hx] at ck hbz
      obtain ⟨u, hu⟩ : ∃ u, u = ys[xs.length] := ⟨_, rfl⟩
      rw [← hu] at dk hby
      have hstep : Hid (xs ++ [x + u] = addL (zs.take (xs.length + 1)) (ys.take (xs.length + 1))) := Lib.hid (by
        rw [List.take_succ_eq_append_getElem hlt, List.take_succ_eq_append_getElem hlty, ← hx, ← hu]
        have e := HX.out
        unfold addL at e ⊢
        rw [List.zipWith_append (by simp; omega), ← e]; rfl)
      obtain ⟨y, hy⟩ : ∃ y, x + u = y := ⟨_, rfl⟩
      rw [hy] at hstep
      clear hx hu hcell hcell2
      obtain ⟨p8, c8, rfl, hc8⟩ := own_slice hrow
      have hs1 := hB.size
      have hown := World.ownsRow.alloc hrow (.cells #[.int .i64 y] 3)
      clear hrow
      have HB := Lib.hid hB
      clear hB
      have hxy : -4611686018427387904 ≤ y ∧ y ≤ 4611686018427387904 := by omega
      go_wp2
      refine RY.region RX.fL (fun w' => w'.cell? ⟨b, o + xs.length, none⟩ = some (.int .i64 x) ∧ w'.cell? ⟨c, o2 + xs.length, none⟩ = some (.int .i64 u)) (by kernel_rfl) (by kernel_rfl) (⟨ck, dk⟩) (fun OPS HO QR hQR => ?_)
      repeat
        refine RY.step (fun R hR => ?_)
        first
        | (refine RY.one_skip (by first | rfl | (rw [HO.out]; rfl)) (by simp only [RX.put_some, RX.put_none, List.set_cons_zero, List.set_cons_succ]; rfl) ?_
           refine hR _ _ ?_; clear hR R)
        | (refine RY.one_move (by first | rfl | (rw [HO.out]; rfl)) rfl (by first | exact Or.inl rfl | exact Or.inr rfl) (by simp only [RX.eval_tmp, RX.eval_const, List.getD_cons_zero, List.getD_cons_succ]; rfl) (by simp only [RX.put_some, RX.put_none, List.set_cons_zero, List.set_cons_succ]; rfl) ?_
           refine hR _ _ ?_; clear hR R)
        | (refine RY.one_nil (by first | rfl | (rw [HO.out]; rfl)) rfl rfl (by simp only [RX.eval_tmp, RX.eval_const, List.getD_cons_zero, List.getD_cons_succ]; rfl) (by simp only [RX.put_some, RX.put_none, List.set_cons_zero, List.set_cons_succ]; rfl) ?_
           refine hR _ _ ?_; clear hR R)
        | (refine RY.one_float (by first | rfl | (rw [HO.out]; rfl)) rfl rfl rfl ?_
           apply Exists.intro; apply Exists.intro
           refine ⟨fun w' hS K hK => ?_, ?_, ?_⟩
           · obtain ⟨hS1, hS2⟩ := hS; go_wp2; exact hK _ _ (by simp only [RX.arr_getD, List.getD_cons_zero, List.getD_cons_succ]; first | exact RX.dec_t (by omega) | exact RX.dec_f (by omega) | exact RX.beq_t (by omega) | exact RX.beq_f (by omega) | exact RX.bne_t (by omega) | exact RX.bne_f (by omega) | exact RX.bneB _ | rfl) rfl
           · simp only [RX.put_some, RX.put_none, List.set_cons_zero, List.set_cons_succ]; rfl
           refine hR _ _ ?_; clear hR R)
      refine RY.step (fun R hR => ?_)
      refine RY.one_chain (by first | rfl | (rw [HO.out]; rfl)) rfl (fun K hK => ?_)
      go_wp2
      refine ⟨.inr (⟨(by (try have hLt := World.block_lt_of_cell? _ _ ck); (try simp only at hLt); (repeat first | rw [RX.cell_drew] | rw [World.cell?_setCell_other _ _ _ _ (by first | (simp; done) | (simp; omega) | omega)] | rw [RX.cell_alloc, if_neg (by first | (simp; done) | (simp; omega) | omega)]); first | exact ck | (rw [RX.cell_alloc, if_pos (by first | (simp; done) | omega)]; exact ck)), (by (try have hLt := World.block_lt_of_cell? _ _ dk); (try simp only at hLt); (repeat first | rw [RX.cell_drew] | rw [World.cell?_setCell_other _ _ _ _ (by first | (simp; done) | (simp; omega) | omega)] | rw [RX.cell_alloc, if_neg (by first | (simp; done) | (simp; omega) | omega)]); first | exact dk | (rw [RX.cell_alloc, if_pos (by first | (simp; done) | omega)]; exact dk))⟩), hR _ _ ?_⟩; clear hR R
      repeat
        refine RY.step (fun R hR => ?_)
        first
        | (refine RY.one_skip (by first | rfl | (rw [HO.out]; rfl)) (by simp only [RX.put_some, RX.put_none, List.set_cons_zero, List.set_cons_succ]; rfl) ?_
           refine hR _ _ ?_; clear hR R)
        | (refine RY.one_move (by first | rfl | (rw [HO.out]; rfl)) rfl (by first | exact Or.inl rfl | exact Or.inr rfl) (by simp only [RX.eval_tmp, RX.eval_const, List.getD_cons_zero, List.getD_cons_succ]; rfl) (by simp only [RX.put_some, RX.put_none, List.set_cons_zero, List.set_cons_succ]; rfl) ?_
           refine hR _ _ ?_; clear hR R)
        | (refine RY.one_nil (by first | rfl | (rw [HO.out]; rfl)) rfl rfl (by simp only [RX.eval_tmp, RX.eval_const, List.getD_cons_zero, List.getD_cons_succ]; rfl) (by simp only [RX.put_some, RX.put_none, List.set_cons_zero, List.set_cons_succ]; rfl) ?_
           refine hR _ _ ?_; clear hR R)
        | (refine RY.one_float (by first | rfl | (rw [HO.out]; rfl)) rfl rfl rfl ?_
           apply Exists.intro; apply Exists.intro
           refine ⟨fun w' hS K hK => ?_, ?_, ?_⟩
           · obtain ⟨hS1, hS2⟩ := hS; go_wp2; exact hK _ _ (by simp only [RX.arr_getD, List.getD_cons_zero, List.getD_cons_succ]; first | exact RX.dec_t (by omega) | exact RX.dec_f (by omega) | exact RX.beq_t (by omega) | exact RX.beq_f (by omega) | exact RX.bne_t (by omega) | exact RX.bne_f (by omega) | exact RX.bneB _ | rfl) rfl
           · simp only [RX.put_some, RX.put_none, List.set_cons_zero, List.set_cons_succ]; rfl
           refine hR _ _ ?_; clear hR R)
      refine RY.step (fun R hR => ?_)
      refine RY.one_chain (by first | rfl | (rw [HO.out]; rfl)) rfl (fun K hK => ?_)
      refine RX.wp_app elInt _ _ rfl w.heap.size _ _ _ (hown.drew) (by simp only [RX.eval_tmp, RX.eval_const, List.getD_cons_zero, List.getD_cons_succ]) wr.heap.size _ 1 (by simp only [RX.eval_tmp, RX.eval_const, List.getD_cons_zero, List.getD_cons_succ]) (heap_alloc_new _ _) rfl (by simp [Value.oneCell']) (by omega) (by omega) (by simp; omega) (fun v' w2 hown2 hb2 hg2 hat2 => ?_)
      have hlow : ∀ q, (Value.slice p8 xs.length c8).ownBlock = some q → w.heap.size ≤ q := fun q hq => (World.ownsRow.lt hown q hq).1
      have HB2 : Hid (Below w.heap.size w w2) := Lib.hid ((HB.out.alloc (by omega) _).drew.grown hg2 (by simp; omega) hlow)
      have HR2 : Hid (RowV w2 w.heap.size v' (xs ++ [y])) := Lib.hid (RowV.snoc hown2)
      have x2 : w2.cell? ⟨b, o + xs.length, none⟩ = some (.int .i64 x) := hg2.cell (a := ⟨b, o + xs.length, none⟩) (by (try have hLt := World.block_lt_of_cell? _ _ ck); (try simp only at hLt); (repeat first | rw [RX.cell_drew] | rw [World.cell?_setCell_other _ _ _ _ (by first | (simp; done) | (simp; omega) | omega)] | rw [RX.cell_alloc, if_neg (by first | (simp; done) | (simp; omega) | omega)]); first | exact ck | (rw [RX.cell_alloc, if_pos (by first | (simp; done) | omega)]; exact ck)) (fun e => by have := hlow b e.symm; omega)
      have y2 : w2.cell? ⟨c, o2 + xs.length, none⟩ = some (.int .i64 u) := hg2.cell (a := ⟨c, o2 + xs.length, none⟩) (by (try have hLt := World.block_lt_of_cell? _ _ dk); (try simp only at hLt); (repeat first | rw [RX.cell_drew] | rw [World.cell?_setCell_other _ _ _ _ (by first | (simp; done) | (simp; omega) | omega)] | rw [RX.cell_alloc, if_neg (by first | (simp; done) | (simp; omega) | omega)]); first | exact dk | (rw [RX.cell_alloc, if_pos (by first | (simp; done) | omega)]; exact dk)) (fun e => by have := hlow c e.symm; omega)
      refine hK _ _ ⟨.inr (⟨x2, y2⟩), ?_⟩; clear hK K; refine RY.at_ (by simp only [RX.put_some, RX.put_none, List.set_cons_zero, List.set_cons_succ]; rfl) (hR _ _ ?_); clear hR R
      repeat
        refine RY.step (fun R hR => ?_)
        first
        | (refine RY.one_skip (by first | rfl | (rw [HO.out]; rfl)) (by simp only [RX.put_some, RX.put_none, List.set_cons_zero, List.set_cons_succ]; rfl) ?_
           refine hR _ _ ?_; clear hR R)
        | (refine RY.one_move (by first | rfl | (rw [HO.out]; rfl)) rfl (by first | exact Or.inl rfl | exact Or.inr rfl) (by simp only [RX.eval_tmp, RX.eval_const, List.getD_cons_zero, List.getD_cons_succ]; rfl) (by simp only [RX.put_some, RX.put_none, List.set_cons_zero, List.set_cons_succ]; rfl) ?_
           refine hR _ _ ?_; clear hR R)
        | (refine RY.one_nil (by first | rfl | (rw [HO.out]; rfl)) rfl rfl (by simp only [RX.eval_tmp, RX.eval_const, List.getD_cons_zero, List.getD_cons_succ]; rfl) (by simp only [RX.put_some, RX.put_none, List.set_cons_zero, List.set_cons_succ]; rfl) ?_
           refine hR _ _ ?_; clear hR R)
        | (refine RY.one_float (by first | rfl | (rw [HO.out]; rfl)) rfl rfl rfl ?_
           apply Exists.intro; apply Exists.intro
           refine ⟨fun w' hS K hK => ?_, ?_, ?_⟩
           · obtain ⟨hS1, hS2⟩ := hS; go_wp2; exact hK _ _ (by simp only [RX.arr_getD, List.getD_cons_zero, List.getD_cons_succ]; first | exact RX.dec_t (by omega) | exact RX.dec_f (by omega) | exact RX.beq_t (by omega) | exact RX.beq_f (by omega) | exact RX.bne_t (by omega) | exact RX.bne_f (by omega) | exact RX.bneB _ | rfl) rfl
           · simp only [RX.put_some, RX.put_none, List.set_cons_zero, List.set_cons_succ]; rfl
           refine hR _ _ ?_; clear hR R)
      refine RY.wpL_nil (hQR _ _ ?_); clear hQR QR HO OPS
      go_wp2
      go_roundw
      case rel => exact ⟨xs.length + 1, xs ++ [y], by omega, by go_num, by simp, hstep, HR2.out, HB2.out⟩
      case measure => simp [intOf]; omega
    · have hdk : decide ((xs.length : Int) < (zs.length : Int)) = false := decide_eq_false (by omega)
      have he : xs.length = zs.length := by omega
      have HE : Hid (xs = addL zs ys) := Lib.hid (by rw [HX.out, he, List.take_length, HV.out.2.2.2.2, List.take_length])
      clear he
      go_wp2
      go_ret
      rw [← HE.out]
      exact ⟨_, rfl, hrow, hB⟩
end Go.Proofs.YtpbfgnffkhabnaaDoor
