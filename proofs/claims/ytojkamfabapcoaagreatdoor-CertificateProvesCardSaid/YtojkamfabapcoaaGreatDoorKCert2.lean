import Derived.Test.YtojkamfabapcoaaGreatDoorKCert
import Derived.Test.YtojkamfabapcoaaGreatDoorKInts
import Derived.Test.YtojkamfabapcoaaGreatDoorRing
import Derived.Test.YtojkamfabapcoaaGreatDoorVecs
import Derived.Test.YtojkamfabapcoaaGreatDoorKLaw23
set_option linter.unusedSimpArgs false
set_option linter.unusedVariables false
namespace Go.Proofs.YtojkamfabapcoaaGreatDoor
open Go.RowKit Go.Grid

/-! certificate.Verify of what Of returns; the sanity check of chapter 26; synopticref25.Ints. -/
theorem CertOf.uniq {sq a : Int} {r s : Nat} (h : CertOf sq a r) (g : CertOf sq a s) : r = s := by
  rcases Nat.lt_trichotomy r s with h1 | h1 | h1
  · have := g.2.2 r h1; rw [h.2.1] at this; cases this
  · exact h1
  · have := h.2.2 s h1; rw [g.2.1] at this; cases this
set_option maxRecDepth 100000 in
set_option maxHeartbeats 2000000 in
theorem cverify_ok (S : Sy) (v : Value) (q p : Option Addr) (R x : List Int) (rc xc n : Nat) (w : World) (hT : HasTab w) (hS : SysIn w v S) (hok : SyOk S) (hV : VecAt w p x) (hvo : VecOk S.f S.s S.a x) (hU : VecAt w q R) (hxl : x.length = n) (hRl : R.length = n) (hRB : Bd 144115188075855872 R)
    (hZ : dotL (lessL R (multL S x)) (lessL R (multL S x)) ≤ 21267647932558653966460912964485513216) (C D : Int) (r : Nat) (hW : wv (dotL (lessL R (multL S x)) (lessL R (multL S x))) = .agg #[.int .i64 C, .int .u64 D]) (hC : CertOf (dotL (lessL R (multL S x)) (lessL R (multL S x))) S.a r) :
    Calls Tryz.prog 44 #[v, .slice q n rc, .slice p n xc, .agg #[.int .i64 C, .int .u64 D, .int .i64 S.a, .int .i64 (r : Int)]] w fun e w' => e = .returned (.int .i64 0) ∧ Below w.heap.size w w' := by
  have HH : Hid (∀ w2 v2, HasTab w2 → SysIn w2 v2 S → VecAt w2 p x → VecAt w2 q R → Calls Tryz.prog 42 #[v2, .slice q n rc, .slice p n xc] w2 fun e w' => e = .returned (.tuple #[.agg #[.int .i64 C, .int .u64 D, .int .i64 S.a, .int .i64 (r : Int)], .int .i64 0]) ∧ Below w2.heap.size w2 w') := Lib.hid (fun w2 v2 h1 h2 h3 h4 => by
    refine (cof_ok S v2 q p R x rc xc n w2 h1 h2 hok h3 hvo h4 hxl hRl hRB hZ).mono ?_
    rintro e w' ⟨C', D', r', h5, rfl, h6, hb⟩
    rw [hW] at h5
    have h7 := hC.uniq h6
    simp only [Value.agg.injEq, Array.mk.injEq, List.cons.injEq, Value.int.injEq, true_and, and_true] at h5
    obtain ⟨rfl, rfl⟩ := h5
    subst h7
    exact ⟨rfl, hb⟩)
  have HS := Lib.hid hS
  obtain ⟨a, ha⟩ : ∃ a, a = S.a := ⟨_, rfl⟩
  have HAE := Lib.hid ha
  obtain ⟨p1, d1, p2, d2, rfl, _⟩ := hS
  rw [← ha] at HH ⊢
  clear ha hok hvo hxl hRl hRB hZ hW hC
  go_enter Tryz.func44, Tryz.ntmps44
  go_wp2_with fail
  refine (HH.out _ _ (hT.below (by repeat (first | (with_reducible assumption) | (with_reducible exact Below.refl _ _) | (with_reducible refine Below.setCell ?_ (by first | omega | (simp; done) | (simp; omega)) _) | (with_reducible refine Below.alloc ?_ (by first | omega | (simp; done) | (simp; omega)) _) | (with_reducible apply Below.drew) | assumption))) (by rw [HAE.out]; exact HS.out.below (by repeat (first | (with_reducible assumption) | (with_reducible exact Below.refl _ _) | (with_reducible refine Below.setCell ?_ (by first | omega | (simp; done) | (simp; omega)) _) | (with_reducible refine Below.alloc ?_ (by first | omega | (simp; done) | (simp; omega)) _) | (with_reducible apply Below.drew) | assumption))) (hV.below (by repeat (first | (with_reducible assumption) | (with_reducible exact Below.refl _ _) | (with_reducible refine Below.setCell ?_ (by first | omega | (simp; done) | (simp; omega)) _) | (with_reducible refine Below.alloc ?_ (by first | omega | (simp; done) | (simp; omega)) _) | (with_reducible apply Below.drew) | assumption))) (hU.below (by repeat (first | (with_reducible assumption) | (with_reducible exact Below.refl _ _) | (with_reducible refine Below.setCell ?_ (by first | omega | (simp; done) | (simp; omega)) _) | (with_reducible refine Below.alloc ?_ (by first | omega | (simp; done) | (simp; omega)) _) | (with_reducible apply Below.drew) | assumption)))).mono ?_
  rintro e w1 ⟨rfl, hb1⟩
  have hB : Below w.heap.size w w1 := Below.trans (by repeat (first | (with_reducible assumption) | (with_reducible exact Below.refl _ _) | (with_reducible refine Below.setCell ?_ (by first | omega | (simp; done) | (simp; omega)) _) | (with_reducible refine Below.alloc ?_ (by first | omega | (simp; done) | (simp; omega)) _) | (with_reducible apply Below.drew) | assumption)) (hb1.mono (by simp <;> omega))
  have c0 : w1.cell? ⟨w.heap.size + 1, 0, none⟩ = some (.int .i64 C) := RX.keep hb1 (by simp [RX.cell_drew, RX.cell_alloc, Nat.add_assoc])
  have c1 : w1.cell? ⟨w.heap.size + 1, 1, none⟩ = some (.int .u64 D) := RX.keep hb1 (by simp [RX.cell_drew, RX.cell_alloc, Nat.add_assoc])
  have c2 : w1.cell? ⟨w.heap.size + 1, 2, none⟩ = some (.int .i64 a) := RX.keep hb1 (by simp [RX.cell_drew, RX.cell_alloc, Nat.add_assoc])
  have c3 : w1.cell? ⟨w.heap.size + 1, 3, none⟩ = some (.int .i64 (r : Int)) := RX.keep hb1 (by simp [RX.cell_drew, RX.cell_alloc, Nat.add_assoc])
  have hlt : w.heap.size + 1 < w1.heap.size := World.block_lt_of_cell? _ _ c0
  have hne : ¬ (w.heap.size + 1 = w1.heap.size) := by omega
  clear hb1 HH HS hT hV hU
  go_wp2
  go_ret
  exact ⟨rfl, (by repeat (first | (with_reducible assumption) | (with_reducible exact Below.refl _ _) | (with_reducible refine Below.setCell ?_ (by first | omega | (simp; done) | (simp; omega)) _) | (with_reducible refine Below.alloc ?_ (by first | omega | (simp; done) | (simp; omega)) _) | (with_reducible apply Below.drew) | assumption))⟩
set_option maxRecDepth 100000 in
set_option maxHeartbeats 1000000 in
theorem awake26_any (w : World) : Calls Tryz.prog 35 #[] w fun e w' => e = .returned (.bool true) ∧ Below w.heap.size w w' := by
  have HR : Hid (∀ w', Calls Tryz.prog 40 #[wv 10, .int .i64 3] w' fun e w'' => e = .returned (.tuple #[.int .i64 2, .int .i64 0]) ∧ Below w'.heap.size w' w'') := Lib.hid (fun w' => by
    have e : wv 10 = .agg #[.int .i64 0, .int .u64 10] := by unfold wv wrap64; rfl
    rw [e]
    refine (radius_ok 0 10 3 w' (by omega) (by omega) (by omega) (by omega) (by omega) (by omega)).mono ?_
    rintro e w'' ⟨r, rfl, h1, h2, h3, hb⟩
    have h4 : r = 2 := by
      unfold enough at h2 h3
      rw [decide_eq_true_eq] at h2
      rcases Nat.lt_trichotomy r 2 with h | h | h
      · have : r = 0 ∨ r = 1 := by omega
        rcases this with rfl | rfl <;> simp at h2
      · exact h
      · have := h3 2 h; simp at this
    subst h4
    exact ⟨rfl, hb⟩)
  go_enter Tryz.func35, Tryz.ntmps35
  go_wp2_with fail
  refine (wide_any 10 (by omega) (by omega) _).mono ?_
  rintro e w1 ⟨rfl, hb1⟩
  obtain ⟨C, D, q1, q2, hS⟩ := wv_parts 10
  clear q1 q2
  have HS := Lib.hid hS
  rw [hS]
  clear hS
  go_wp2_with fail
  rw [← HS.out]
  refine (HR.out _).mono ?_
  rintro e w2 ⟨rfl, hb2⟩
  have hB := hb1.trans (hb2.mono hb1.size)
  clear hb1 hb2
  go_wp2
  go_ret
  exact ⟨rfl, hB⟩
set_option maxRecDepth 100000 in
set_option maxHeartbeats 2000000 in
/-- synoptickeep.Ints at equal lengths. -/
theorem rints25_len (p q : Option Addr) (zs ys : List Int) (cz cy : Nat) (w : World) (hV : VecAt w p zs) (hU : VecAt w q ys) (hlen : zs.length = ys.length) (hl : zs.length ≤ 1000000000) :
    Calls Tryz.prog 52 #[.slice p zs.length cz, .slice q zs.length cy] w fun e w' => e = .returned (.bool (decide (zs = ys))) ∧ Below w.heap.size w w' := by
  have HE : Hid ((∀ k (h : k < zs.length) (h2 : k < ys.length), zs[k] = ys[k]) → decide (zs = ys) = true) := Lib.hid (fun h => decide_eq_true (List.ext_getElem hlen (fun k h1 h2 => h k h1 h2)))
  have HF : Hid (∀ k (h : k < zs.length) (h2 : k < ys.length), zs[k] ≠ ys[k] → decide (zs = ys) = false) := Lib.hid (fun k h h2 hne => decide_eq_false (fun e => hne (by subst e; rfl)))
  have HV := Lib.hid (And.intro hV (And.intro hU hlen))
  clear hV hU
  obtain ⟨n, hn⟩ : ∃ n, n = zs.length := ⟨_, rfl⟩
  have hny : n = ys.length := hn.trans hlen
  have HN := Lib.hid (And.intro hn hny)
  rw [← hn] at hl ⊢
  clear hn hny hlen
  go_enter Tryz.func52, Tryz.ntmps52
  go_wp2
  go_loopw [5] (fun i wr => ∃ k : Nat, k ≤ n ∧ i = .int .i64 k ∧ Hid (∀ j (h : j < zs.length) (h2 : j < ys.length), j < k → zs[j] = ys[j]) ∧ Below w.heap.size w wr) (fun i _ => n - (intOf i).toNat)
  case atStart => exact ⟨0, by omega, rfl, Lib.hid (fun j _ _ h => by omega), Below.refl _ _⟩
  case round =>
    obtain ⟨k, hk, rfl, HX, hB⟩ := hrel
    by_cases hlt : k < n
    · have hdk : decide ((k : Int) < (n : Int)) = true := decide_eq_true (by omega)
      have h1 : k < zs.length := by rw [← HN.out.1]; exact hlt
      have h2 : k < ys.length := by rw [← HN.out.2]; exact hlt
      obtain ⟨b, o, rfl, hbl, hcell⟩ := HV.out.1.cell (by omega)
      obtain ⟨c, o2, rfl, hcl, hcell2⟩ := HV.out.2.1.cell (by omega)
      have ck := RX.keep hB (hcell k h1)
      have dk := RX.keep hB (hcell2 k h2)
      have HNE := HF.out k h1 h2
      obtain ⟨x, hx⟩ : ∃ x, x = zs[k] := ⟨_, rfl⟩
      obtain ⟨u, hu⟩ : ∃ u, u = ys[k] := ⟨_, rfl⟩
      rw [← hx] at ck HNE
      rw [← hu] at dk HNE
      have HXU := Lib.hid (And.intro hx hu)
      clear hx hu hcell hcell2
      by_cases he : x = u
      · subst he
        clear HNE
        go_wp2
        refine RX.region RX.fN (fun w' => w' = _) (by kernel_rfl) (by kernel_rfl) rfl (fun OPS HO QR hQR => ?_)
        repeat
          refine RX.step (fun R hR => ?_)
          first
          | (refine RX.one_skip (by first | rfl | (rw [HO.out]; rfl)) (by simp only [RX.put_some, RX.put_none, List.set_cons_zero, List.set_cons_succ]; rfl) ?_
             refine hR _ _ ?_; clear hR R)
          | (refine RX.one_move (by first | rfl | (rw [HO.out]; rfl)) rfl (by first | exact Or.inl rfl | exact Or.inr rfl) (by simp only [RX.eval_tmp, RX.eval_const, List.getD_cons_zero, List.getD_cons_succ]; rfl) (by simp only [RX.put_some, RX.put_none, List.set_cons_zero, List.set_cons_succ]; rfl) ?_
             refine hR _ _ ?_; clear hR R)
          | (refine RX.one_nil (by first | rfl | (rw [HO.out]; rfl)) rfl rfl (by simp only [RX.eval_tmp, RX.eval_const, List.getD_cons_zero, List.getD_cons_succ]; rfl) (by simp only [RX.put_some, RX.put_none, List.set_cons_zero, List.set_cons_succ]; rfl) ?_
             refine hR _ _ ?_; clear hR R)
          | (refine RX.one_float (by first | rfl | (rw [HO.out]; rfl)) rfl rfl rfl ?_
             apply Exists.intro; apply Exists.intro
             refine ⟨fun w' hS K hK => ?_, ?_, ?_⟩
             · subst hS; go_wp2; exact hK _ _ (by simp only [RX.arr_getD, List.getD_cons_zero, List.getD_cons_succ]; first | exact RX.dec_t (by omega) | exact RX.dec_f (by omega) | exact RX.beq_t (by omega) | exact RX.beq_f (by omega) | exact RX.bne_t (by omega) | exact RX.bne_f (by omega) | exact RX.bneB _ | rfl) rfl
             · simp only [RX.put_some, RX.put_none, List.set_cons_zero, List.set_cons_succ]; rfl
             refine hR _ _ ?_; clear hR R)
        refine RX.wpL_nil (hQR _ _ rfl ?_); clear hQR QR HO OPS
        go_wp2
        go_roundw
        case rel => exact ⟨k + 1, by omega, by go_num, Lib.hid (fun j h3 h4 h => by
          by_cases hj : j = k
          · subst hj; rw [← HXU.out.1, ← HXU.out.2]
          · exact HX.out j h3 h4 (by omega)), hB.drew⟩
        case measure => simp [intOf]; omega
      · have hne := HNE he
        have HNE2 := Lib.hid hne
        clear HNE hne
        have hb : (x == u) = false := by rw [beq_eq_false_iff_ne]; exact he
        have hb2 : (x != u) = true := by simp [he]
        go_wp2
        refine RX.region RX.fN (fun w' => w' = _) (by kernel_rfl) (by kernel_rfl) rfl (fun OPS HO QR hQR => ?_)
        repeat
          refine RX.step (fun R hR => ?_)
          first
          | (refine RX.one_skip (by first | rfl | (rw [HO.out]; rfl)) (by simp only [RX.put_some, RX.put_none, List.set_cons_zero, List.set_cons_succ]; rfl) ?_
             refine hR _ _ ?_; clear hR R)
          | (refine RX.one_move (by first | rfl | (rw [HO.out]; rfl)) rfl (by first | exact Or.inl rfl | exact Or.inr rfl) (by simp only [RX.eval_tmp, RX.eval_const, List.getD_cons_zero, List.getD_cons_succ]; rfl) (by simp only [RX.put_some, RX.put_none, List.set_cons_zero, List.set_cons_succ]; rfl) ?_
             refine hR _ _ ?_; clear hR R)
          | (refine RX.one_nil (by first | rfl | (rw [HO.out]; rfl)) rfl rfl (by simp only [RX.eval_tmp, RX.eval_const, List.getD_cons_zero, List.getD_cons_succ]; rfl) (by simp only [RX.put_some, RX.put_none, List.set_cons_zero, List.set_cons_succ]; rfl) ?_
             refine hR _ _ ?_; clear hR R)
          | (refine RX.one_float (by first | rfl | (rw [HO.out]; rfl)) rfl rfl rfl ?_
             apply Exists.intro; apply Exists.intro
             refine ⟨fun w' hS K hK => ?_, ?_, ?_⟩
             · subst hS; go_wp2; exact hK _ _ (by simp only [RX.arr_getD, List.getD_cons_zero, List.getD_cons_succ]; first | exact RX.dec_t (by omega) | exact RX.dec_f (by omega) | exact RX.beq_t (by omega) | exact RX.beq_f (by omega) | exact RX.bne_t (by omega) | exact RX.bne_f (by omega) | exact RX.bneB _ | rfl) rfl
             · simp only [RX.put_some, RX.put_none, List.set_cons_zero, List.set_cons_succ]; rfl
             refine hR _ _ ?_; clear hR R)
        refine RX.wpL_nil (hQR _ _ rfl ?_); clear hQR QR HO OPS
        go_wp2
        go_ret
        rw [HNE2.out]
        exact ⟨rfl, hB.drew⟩
    · have hdk : decide ((k : Int) < (n : Int)) = false := decide_eq_false (by omega)
      obtain rfl : k = n := by omega
      have HT := Lib.hid (HE.out (fun j h h2 => HX.out j h h2 (by rw [HN.out.1]; exact h)))
      go_wp2
      go_ret
      rw [HT.out]
      exact ⟨rfl, hB⟩
theorem rints25_at (p q : Option Addr) (zs ys : List Int) (cz cy n : Nat) (w : World) (h1 : zs.length = n) (h2 : ys.length = n) (hV : VecAt w p zs) (hU : VecAt w q ys) (hl : n ≤ 1000000000) :
    Calls Tryz.prog 52 #[.slice p n cz, .slice q n cy] w fun e w' => e = .returned (.bool (decide (zs = ys))) ∧ Below w.heap.size w w' := by
  subst h1; exact rints25_len p q zs ys cz cy w hV hU h2.symm hl
end Go.Proofs.YtojkamfabapcoaaGreatDoor

set_option linter.unusedSimpArgs false
set_option linter.unusedVariables false
namespace Go.Proofs.YtojkamfabapcoaaGreatDoor
open Go.RowKit Go.Grid

/-! certificate.Within, at small elements. -/
def wTo (x y : List Int) (k : Nat) : Int := dotL ((subL x y).take k) ((subL x y).take k)
theorem wTo_succ {x y : List Int} (h : x.length = y.length) {k : Nat} (hk : k < x.length) : wTo x y (k + 1) = wTo x y k + (x[k] - y[k]'(by omega)) * (x[k] - y[k]'(by omega)) := by
  unfold wTo
  rw [dotL_take rfl (by rw [subL_len h]; exact hk)]
  simp [subL]
theorem dot_append : ∀ u v : List Int, dotL (u ++ v) (u ++ v) = dotL u u + dotL v v
  | [], v => by simp [dotL]
  | a :: u, v => by
    have ih := dot_append u v
    have e1 : dotL (a :: u ++ v) (a :: u ++ v) = a * a + dotL (u ++ v) (u ++ v) := rfl
    have e2 : dotL (a :: u) (a :: u) = a * a + dotL u u := rfl
    rw [e1, e2, ih]; omega
theorem wTo_le (x y : List Int) (k : Nat) : 0 ≤ wTo x y k ∧ wTo x y k ≤ dotL (subL x y) (subL x y) := by
  have h1 := dot_append ((subL x y).take k) ((subL x y).drop k)
  rw [List.take_append_drop] at h1
  have h2 := dot_nn ((subL x y).drop k)
  have h3 := dot_nn ((subL x y).take k)
  unfold wTo; omega
theorem wTo_end {x y : List Int} (h : x.length = y.length) : wTo x y x.length = dotL (subL x y) (subL x y) := by
  unfold wTo
  rw [List.take_of_length_le (by rw [subL_len h]; omega)]
theorem compare_wv2 (p q : Int) (v u : Value) (w : World) (hv : v = wv p) (hu : u = wv q) (hp : -170141183460469231731687303715884105728 ≤ p) (hp' : p < 170141183460469231731687303715884105728) (hq : -170141183460469231731687303715884105728 ≤ q) (hq' : q < 170141183460469231731687303715884105728) :
    Calls Tryz.prog 86 #[v, u] w fun e w' => e = .returned (.int .i64 (sgn p q)) ∧ Below w.heap.size w w' := by
  subst hv hu; exact compare_wv p q w hp hp' hq hq'
set_option maxRecDepth 100000
set_option maxHeartbeats 4000000 in
theorem cwithin_ok (C D a r : Int) (p q : Option Addr) (x y : List Int) (xc yc n : Nat) (w : World) (hx : x.length = n) (hy : y.length = n) (hV : VecAt w p x) (hU : VecAt w q y) (hn : n ≤ 1000) (hxb : Bd 1099511627776 x) (hyb : Bd 1099511627776 y) (hr0 : 0 ≤ r) (hr1 : r ≤ 4611686018427387905) :
    Calls Tryz.prog 48 #[.agg #[.int .i64 C, .int .u64 D, .int .i64 a, .int .i64 r], .slice p n xc, .slice q n yc] w fun e w' => e = .returned (.bool (decide (dotL (subL x y) (subL x y) ≤ r * r))) ∧ Below w.heap.size w w' := by
  have HXL := Lib.hid (And.intro hx hy)
  have HXB := Lib.hid (And.intro hxb hyb)
  have HV := Lib.hid (And.intro hV hU)
  have HSTEP : Hid (∀ k (h : k < x.length) (h2 : k < y.length), wTo x y (k + 1) = wTo x y k + (x[k] - y[k]) * (x[k] - y[k])) := Lib.hid (fun k h h2 => wTo_succ (by omega) h)
  have HLE := Lib.hid (wTo_le x y)
  have HEND : Hid (wTo x y n = dotL (subL x y) (subL x y)) := Lib.hid (by rw [← hx]; exact wTo_end (by omega))
  have HZ : Hid (wTo x y 0 = 0) := Lib.hid (by simp [wTo, dotL])
  obtain ⟨R2, hR2⟩ : ∃ R2, R2 = r * r := ⟨_, rfl⟩
  have HR2 : Hid (0 ≤ R2 ∧ R2 ≤ 21267647932558653975684298701340262016) := Lib.hid (by
    have h1 := Int.mul_nonneg hr0 hr0
    have h2 := Int.mul_le_mul hr1 hr1 hr0 (by omega)
    rw [hR2]; omega)
  have HRE := Lib.hid hR2
  rw [← hR2]
  clear hx hy hxb hyb hV hU hR2
  have hnn : ((n : Int) != (n : Int)) = false := by simp
  go_enter Tryz.func48, Tryz.ntmps48
  go_wp2_with fail
  refine (product_wv _ _ _ (by omega) (by omega) (by omega) (by omega)).mono ?_
  rintro e w1 ⟨rfl, hb1⟩
  have hB : Below w.heap.size w w1 := Below.trans (by repeat (first | (with_reducible assumption) | (with_reducible exact Below.refl _ _) | (with_reducible refine Below.setCell ?_ (by first | omega | (simp; done) | (simp; omega)) _) | (with_reducible refine Below.alloc ?_ (by first | omega | (simp; done) | (simp; omega)) _) | (with_reducible apply Below.drew) | assumption)) (hb1.mono (by simp <;> omega))
  rw [← HRE.out]
  obtain ⟨C0, D0, q1, q2, hS0⟩ := wv_parts R2
  clear q1 q2
  rw [hS0]
  have HS0 := Lib.hid hS0
  clear hS0 hb1
  have hHZ : Hid (wv (wTo x y 0) = .agg #[.int .i64 0, .int .u64 0]) := Lib.hid (by rw [HZ.out]; exact wv_zero.symm)
  obtain ⟨N, hN⟩ : ∃ N, N = w1.heap.size := ⟨_, rfl⟩
  go_wp2
  refine absW (F := fun w' => w'.cell? ⟨w1.heap.size, 0, none⟩ = some (.int .i64 C0) ∧ w'.cell? ⟨w1.heap.size, 1, none⟩ = some (.int .u64 D0) ∧ w'.cell? ⟨w1.heap.size + 1, 0, none⟩ = some (.int .i64 0) ∧ w'.cell? ⟨w1.heap.size + 1, 1, none⟩ = some (.int .u64 0) ∧ w'.frozen? ⟨w1.heap.size + 1, 0, none⟩ = false ∧ w'.frozen? ⟨w1.heap.size + 1, 1, none⟩ = false ∧ Below w1.heap.size w1 w') ⟨(by simp [RX.cell_drew, RX.cell_alloc, Nat.add_assoc]), (by simp [RX.cell_drew, RX.cell_alloc, Nat.add_assoc]), (by simp [RX.cell_drew, RX.cell_alloc, Nat.add_assoc]), (by simp [RX.cell_drew, RX.cell_alloc, Nat.add_assoc]), by simp, by simp, (by repeat (first | (with_reducible assumption) | (with_reducible exact Below.refl _ _) | (with_reducible refine Below.setCell ?_ (by first | omega | (simp; done) | (simp; omega)) _) | (with_reducible refine Below.alloc ?_ (by first | omega | (simp; done) | (simp; omega)) _) | (with_reducible apply Below.drew) | assumption))⟩ ?_
  rintro W4 ⟨m0, m1, s0, s1, sf0, sf1, hb4⟩
  rw [← hN] at m0 m1 s0 s1 sf0 sf1 ⊢
  have hwN : w.heap.size ≤ N := by have := hB.size; omega
  have HB4 := Lib.hid (hB.trans (hb4.mono hB.size))
  clear hB hb4 hN
  go_loopw [23] (fun i wr => ∃ (k : Nat) (C1 D1 : Int), k ≤ n ∧ i = .int .i64 k ∧ Hid (wv (wTo x y k) = .agg #[.int .i64 C1, .int .u64 D1]) ∧ Hid (wTo x y k ≤ R2) ∧ wr.cell? ⟨N, 0, none⟩ = some (.int .i64 C0) ∧ wr.cell? ⟨N, 1, none⟩ = some (.int .u64 D0) ∧ wr.cell? ⟨N + 1, 0, none⟩ = some (.int .i64 C1) ∧ wr.cell? ⟨N + 1, 1, none⟩ = some (.int .u64 D1) ∧ wr.frozen? ⟨N + 1, 0, none⟩ = false ∧ wr.frozen? ⟨N + 1, 1, none⟩ = false ∧ Below w.heap.size w wr) (fun i _ => n - (intOf i).toNat)
  case atStart => exact ⟨0, 0, 0, Nat.zero_le _, rfl, hHZ, Lib.hid (by rw [HZ.out]; exact HR2.out.1), m0, m1, s0, s1, sf0, sf1, HB4.out⟩
  case round =>
    clear m0 m1 s0 s1 sf0 sf1
    obtain ⟨k, C1, D1, hk, rfl, HW, HWR, m0, m1, s0, s1, sf0, sf1, hbr⟩ := hrel
    by_cases hlt : k < n
    · have hdk : decide ((k : Int) < (n : Int)) = true := decide_eq_true (by omega)
      have hkx : k < x.length := by rw [HXL.out.1]; exact hlt
      have hky : k < y.length := by rw [HXL.out.2]; exact hlt
      obtain ⟨b1, o1, rfl, hbl, hcell⟩ := HV.out.1.cell (by omega)
      obtain ⟨b2, o2, rfl, hcl, hcell2⟩ := HV.out.2.cell (by omega)
      have ck := RX.keep hbr (hcell k hkx)
      have dk := RX.keep hbr (hcell2 k hky)
      have hb1 := HXB.out.1 x[k] (List.getElem_mem _)
      have hb2 := HXB.out.2 y[k] (List.getElem_mem _)
      have HST := Lib.hid (HSTEP.out k hkx hky)
      obtain ⟨a1, ha1⟩ : ∃ a1, a1 = x[k] := ⟨_, rfl⟩
      obtain ⟨a2, ha2⟩ : ∃ a2, a2 = y[k] := ⟨_, rfl⟩
      rw [← ha1] at ck hb1 HST
      rw [← ha2] at dk hb2 HST
      have hk0 : (0 : Int) ≤ (k : Int) := by omega
      have hkI : (k : Int) < (n : Int) := by omega
      have HLT := Lib.hid (And.intro hkx hky)
      obtain ⟨bb, hq1, hq2⟩ : ∃ bb, decide (a1 - a2 < 0) = bb ∧ decide (a1 < a2) = bb := ⟨decide (a1 < a2), by rw [decide_eq_decide]; omega, rfl⟩
      have HLK := Lib.hid (And.intro (HLE.out k) (HLE.out (k + 1)))
      obtain ⟨d, hd⟩ : ∃ d, d = a1 - a2 := ⟨_, rfl⟩
      rw [← hd] at HST
      have hdb : -2199023255552 ≤ d ∧ d ≤ 2199023255552 := by omega
      clear ha1 ha2 hcell hcell2 hkx hky
      go_wp2
      refine RX.region RX.fN (fun w' => w' = _) (by kernel_rfl) (by kernel_rfl) rfl (fun OPS HO QR hQR => ?_)
      repeat
        refine RX.step (fun R hR => ?_)
        first
        | (refine RX.one_skip (by first | rfl | (rw [HO.out]; rfl)) (by simp only [RX.put_some, RX.put_none, List.set_cons_zero, List.set_cons_succ]; rfl) ?_
           refine hR _ _ ?_; clear hR R)
        | (refine RX.one_move (by first | rfl | (rw [HO.out]; rfl)) rfl (by first | exact Or.inl rfl | exact Or.inr rfl) (by simp only [RX.eval_tmp, RX.eval_const, List.getD_cons_zero, List.getD_cons_succ]; rfl) (by simp only [RX.put_some, RX.put_none, List.set_cons_zero, List.set_cons_succ]; rfl) ?_
           refine hR _ _ ?_; clear hR R)
        | (refine RX.one_nil (by first | rfl | (rw [HO.out]; rfl)) rfl rfl (by simp only [RX.eval_tmp, RX.eval_const, List.getD_cons_zero, List.getD_cons_succ]; rfl) (by simp only [RX.put_some, RX.put_none, List.set_cons_zero, List.set_cons_succ]; rfl) ?_
           refine hR _ _ ?_; clear hR R)
        | (refine RX.one_float (by first | rfl | (rw [HO.out]; rfl)) rfl rfl rfl ?_
           apply Exists.intro; apply Exists.intro
           refine ⟨fun w' hS K hK => ?_, ?_, ?_⟩
           · subst hS; go_wp2; exact hK _ _ (by simp only [RX.arr_getD, List.getD_cons_zero, List.getD_cons_succ]; first | exact RX.dec_t (by omega) | exact RX.dec_f (by omega) | exact RX.beq_t (by omega) | exact RX.beq_f (by omega) | exact RX.bne_t (by omega) | exact RX.bne_f (by omega) | exact RX.bneB _ | rfl) rfl
           · simp only [RX.put_some, RX.put_none, List.set_cons_zero, List.set_cons_succ]; rfl
           refine hR _ _ ?_; clear hR R)
      refine RX.wpL_nil (hQR _ _ rfl ?_); clear hQR QR HO OPS
      go_wp2
      refine RX.region RX.fN (fun w' => w' = _) (by kernel_rfl) (by kernel_rfl) rfl (fun OPS HO QR hQR => ?_)
      repeat
        refine RX.step (fun R hR => ?_)
        first
        | (refine RX.one_skip (by first | rfl | (rw [HO.out]; rfl)) (by simp only [RX.put_some, RX.put_none, List.set_cons_zero, List.set_cons_succ]; rfl) ?_
           refine hR _ _ ?_; clear hR R)
        | (refine RX.one_move (by first | rfl | (rw [HO.out]; rfl)) rfl (by first | exact Or.inl rfl | exact Or.inr rfl) (by simp only [RX.eval_tmp, RX.eval_const, List.getD_cons_zero, List.getD_cons_succ]; rfl) (by simp only [RX.put_some, RX.put_none, List.set_cons_zero, List.set_cons_succ]; rfl) ?_
           refine hR _ _ ?_; clear hR R)
        | (refine RX.one_nil (by first | rfl | (rw [HO.out]; rfl)) rfl rfl (by simp only [RX.eval_tmp, RX.eval_const, List.getD_cons_zero, List.getD_cons_succ]; rfl) (by simp only [RX.put_some, RX.put_none, List.set_cons_zero, List.set_cons_succ]; rfl) ?_
           refine hR _ _ ?_; clear hR R)
        | (refine RX.one_float (by first | rfl | (rw [HO.out]; rfl)) rfl rfl rfl ?_
           apply Exists.intro; apply Exists.intro
           refine ⟨fun w' hS K hK => ?_, ?_, ?_⟩
           · subst hS; go_wp2; exact hK _ _ (by simp only [RX.arr_getD, List.getD_cons_zero, List.getD_cons_succ]; first | exact RX.dec_t (by omega) | exact RX.dec_f (by omega) | exact RX.beq_t (by omega) | exact RX.beq_f (by omega) | exact RX.bne_t (by omega) | exact RX.bne_f (by omega) | exact RX.bneB _ | rfl) rfl
           · simp only [RX.put_some, RX.put_none, List.set_cons_zero, List.set_cons_succ]; rfl
           refine hR _ _ ?_; clear hR R)
      refine RX.wpL_nil (hQR _ _ rfl ?_); clear hQR QR HO OPS
      go_wp2
      rw [← hd]
      clear hq1 hq2 hd
      have HBR := Lib.hid hbr.drew.drew
      have y0 : wr.drew.drew.cell? ⟨N + 1, 0, none⟩ = some (.int .i64 C1) := (by (try have hLt := World.block_lt_of_cell? _ _ s0); (try simp only at hLt); (repeat first | rw [RX.cell_drew] | rw [World.cell?_setCell_other _ _ _ _ (by first | (simp; done) | (simp; omega) | omega)] | rw [RX.cell_alloc, if_neg (by first | (simp; done) | (simp; omega) | omega)]); first | exact s0 | (rw [RX.cell_alloc, if_pos (by first | (simp; done) | omega)]; exact s0))
      have y1 : wr.drew.drew.cell? ⟨N + 1, 1, none⟩ = some (.int .u64 D1) := (by (try have hLt := World.block_lt_of_cell? _ _ s1); (try simp only at hLt); (repeat first | rw [RX.cell_drew] | rw [World.cell?_setCell_other _ _ _ _ (by first | (simp; done) | (simp; omega) | omega)] | rw [RX.cell_alloc, if_neg (by first | (simp; done) | (simp; omega) | omega)]); first | exact s1 | (rw [RX.cell_alloc, if_pos (by first | (simp; done) | omega)]; exact s1))
      have x0 : wr.drew.drew.cell? ⟨N, 0, none⟩ = some (.int .i64 C0) := (by (try have hLt := World.block_lt_of_cell? _ _ m0); (try simp only at hLt); (repeat first | rw [RX.cell_drew] | rw [World.cell?_setCell_other _ _ _ _ (by first | (simp; done) | (simp; omega) | omega)] | rw [RX.cell_alloc, if_neg (by first | (simp; done) | (simp; omega) | omega)]); first | exact m0 | (rw [RX.cell_alloc, if_pos (by first | (simp; done) | omega)]; exact m0))
      have x1 : wr.drew.drew.cell? ⟨N, 1, none⟩ = some (.int .u64 D0) := (by (try have hLt := World.block_lt_of_cell? _ _ m1); (try simp only at hLt); (repeat first | rw [RX.cell_drew] | rw [World.cell?_setCell_other _ _ _ _ (by first | (simp; done) | (simp; omega) | omega)] | rw [RX.cell_alloc, if_neg (by first | (simp; done) | (simp; omega) | omega)]); first | exact m1 | (rw [RX.cell_alloc, if_pos (by first | (simp; done) | omega)]; exact m1))
      have yf0 : wr.drew.drew.frozen? ⟨N + 1, 0, none⟩ = false := sf0
      have yf1 : wr.drew.drew.frozen? ⟨N + 1, 1, none⟩ = false := sf1
      clear s0 s1 m0 m1 sf0 sf1 ck dk hbr
      generalize wr.drew.drew = V at *
      clear hk0 hkI
      refine RY.region RX.fN (fun w' => w'.cell? ⟨N + 1, 0, none⟩ = some (.int .i64 C1) ∧ w'.cell? ⟨N + 1, 1, none⟩ = some (.int .u64 D1)) (by kernel_rfl) (by kernel_rfl) (⟨y0, y1⟩) (fun OPS HO QR hQR => ?_)
      repeat
        refine RY.step (fun R hR => ?_)
        first
        | (refine RY.one_skip (by first | rfl | (rw [HO.out]; rfl)) (by simp only [RX.put_some, RX.put_none, List.set_cons_zero, List.set_cons_succ]; rfl) ?_
           refine hR _ _ ?_; clear hR R)
        | (refine RY.one_move (by first | rfl | (rw [HO.out]; rfl)) rfl (by first | exact Or.inl rfl | exact Or.inr rfl) (by simp only [RX.eval_tmp, RX.eval_const, List.getD_cons_zero, List.getD_cons_succ]; rfl) (by simp only [RX.put_some, RX.put_none, List.set_cons_zero, List.set_cons_succ]; rfl) ?_
           refine hR _ _ ?_; clear hR R)
        | (refine RY.one_nil (by first | rfl | (rw [HO.out]; rfl)) rfl rfl (by simp only [RX.eval_tmp, RX.eval_const, List.getD_cons_zero, List.getD_cons_succ]; rfl) (by simp only [RX.put_some, RX.put_none, List.set_cons_zero, List.set_cons_succ]; rfl) ?_
           refine hR _ _ ?_; clear hR R)
        | (refine RY.one_float (by first | rfl | (rw [HO.out]; rfl)) rfl rfl rfl ?_
           apply Exists.intro; apply Exists.intro
           refine ⟨fun w' hS K hK => ?_, ?_, ?_⟩
           · obtain ⟨hS1, hS2⟩ := hS; go_wp2; exact hK _ _ (by simp only [RX.arr_getD, List.getD_cons_zero, List.getD_cons_succ]; first | exact RX.dec_t (by omega) | exact RX.dec_f (by omega) | exact RX.beq_t (by omega) | exact RX.beq_f (by omega) | exact RX.bne_t (by omega) | exact RX.bne_f (by omega) | exact RX.bneB _ | rfl) rfl
           · simp only [RX.put_some, RX.put_none, List.set_cons_zero, List.set_cons_succ]; rfl
           refine hR _ _ ?_; clear hR R)
      refine RY.step (fun R hR => ?_)
      refine RY.one_chain (by first | rfl | (rw [HO.out]; rfl)) rfl (fun K hK => ?_)
      go_wp2_with fail
      refine (product_wv d d _ (by omega) (by omega) (by omega) (by omega)).mono ?_
      rintro e w7 ⟨rfl, hb8⟩
      replace hb8 : Below V.heap.size V w7 := ⟨hb8.os, hb8.tape, hb8.output, hb8.size, hb8.block⟩
      have hNl : N + 1 < V.heap.size := World.block_lt_of_cell? _ _ y0
      have n0 := RX.keep hb8 y0
      have n1 := RX.keep hb8 y1
      have p0 := RX.keep hb8 x0
      have p1 := RX.keep hb8 x1
      have nf0 : w7.frozen? ⟨N + 1, 0, none⟩ = false := (hb8.frozen (p := ⟨N + 1, 0, none⟩) hNl).trans yf0
      have nf1 : w7.frozen? ⟨N + 1, 1, none⟩ = false := (hb8.frozen (p := ⟨N + 1, 1, none⟩) hNl).trans yf1
      have HB8 := Lib.hid (HBR.out.trans (hb8.mono HBR.out.size))
      have hNl7 : N + 1 < w7.heap.size := World.block_lt_of_cell? _ _ n0
      clear hb8 y0 y1 x0 x1 yf0 yf1 hNl HBR
      refine hK _ _ ⟨.inr (⟨n0, n1⟩), hR _ _ ?_⟩; clear hK K hR R
      repeat
        refine RY.step (fun R hR => ?_)
        first
        | (refine RY.one_skip (by first | rfl | (rw [HO.out]; rfl)) (by simp only [RX.put_some, RX.put_none, List.set_cons_zero, List.set_cons_succ]; rfl) ?_
           refine hR _ _ ?_; clear hR R)
        | (refine RY.one_move (by first | rfl | (rw [HO.out]; rfl)) rfl (by first | exact Or.inl rfl | exact Or.inr rfl) (by simp only [RX.eval_tmp, RX.eval_const, List.getD_cons_zero, List.getD_cons_succ]; rfl) (by simp only [RX.put_some, RX.put_none, List.set_cons_zero, List.set_cons_succ]; rfl) ?_
           refine hR _ _ ?_; clear hR R)
        | (refine RY.one_nil (by first | rfl | (rw [HO.out]; rfl)) rfl rfl (by simp only [RX.eval_tmp, RX.eval_const, List.getD_cons_zero, List.getD_cons_succ]; rfl) (by simp only [RX.put_some, RX.put_none, List.set_cons_zero, List.set_cons_succ]; rfl) ?_
           refine hR _ _ ?_; clear hR R)
        | (refine RY.one_float (by first | rfl | (rw [HO.out]; rfl)) rfl rfl rfl ?_
           apply Exists.intro; apply Exists.intro
           refine ⟨fun w' hS K hK => ?_, ?_, ?_⟩
           · obtain ⟨hS1, hS2⟩ := hS; go_wp2; exact hK _ _ (by simp only [RX.arr_getD, List.getD_cons_zero, List.getD_cons_succ]; first | exact RX.dec_t (by omega) | exact RX.dec_f (by omega) | exact RX.beq_t (by omega) | exact RX.beq_f (by omega) | exact RX.bne_t (by omega) | exact RX.bne_f (by omega) | exact RX.bneB _ | rfl) rfl
           · simp only [RX.put_some, RX.put_none, List.set_cons_zero, List.set_cons_succ]; rfl
           refine hR _ _ ?_; clear hR R)
      refine RY.step (fun R hR => ?_)
      refine RY.one_chain (by first | rfl | (rw [HO.out]; rfl)) rfl (fun K hK => ?_)
      go_wp2_with fail
      refine (add_at _ _ (wTo x y k) (d * d) HW.out.symm rfl _).mono ?_
      rintro e w8 ⟨rfl, hb9⟩
      rw [← HST.out]
      obtain ⟨C2, D2, q1, q2, hS2⟩ := wv_parts (wTo x y (k + 1))
      clear q1 q2
      rw [hS2]
      have HS2 := Lib.hid hS2
      clear hS2
      replace hb9 : Below w7.heap.size w7 w8 := ⟨hb9.os, hb9.tape, hb9.output, hb9.size, hb9.block⟩
      have y0 := RX.keep hb9 n0
      have y1 := RX.keep hb9 n1
      have x0 := RX.keep hb9 p0
      have x1 := RX.keep hb9 p1
      have yf0 : w8.frozen? ⟨N + 1, 0, none⟩ = false := (hb9.frozen (p := ⟨N + 1, 0, none⟩) hNl7).trans nf0
      have yf1 : w8.frozen? ⟨N + 1, 1, none⟩ = false := (hb9.frozen (p := ⟨N + 1, 1, none⟩) hNl7).trans nf1
      have HB9 := Lib.hid (HB8.out.trans (hb9.mono HB8.out.size))
      clear hb9 n0 n1 p0 p1 nf0 nf1 HB8 hNl7
      refine hK _ _ ⟨.inr (⟨y0, y1⟩), hR _ _ ?_⟩; clear hK K hR R
      repeat
        refine RY.step (fun R hR => ?_)
        first
        | (refine RY.one_skip (by first | rfl | (rw [HO.out]; rfl)) (by simp only [RX.put_some, RX.put_none, List.set_cons_zero, List.set_cons_succ]; rfl) ?_
           refine hR _ _ ?_; clear hR R)
        | (refine RY.one_move (by first | rfl | (rw [HO.out]; rfl)) rfl (by first | exact Or.inl rfl | exact Or.inr rfl) (by simp only [RX.eval_tmp, RX.eval_const, List.getD_cons_zero, List.getD_cons_succ]; rfl) (by simp only [RX.put_some, RX.put_none, List.set_cons_zero, List.set_cons_succ]; rfl) ?_
           refine hR _ _ ?_; clear hR R)
        | (refine RY.one_nil (by first | rfl | (rw [HO.out]; rfl)) rfl rfl (by simp only [RX.eval_tmp, RX.eval_const, List.getD_cons_zero, List.getD_cons_succ]; rfl) (by simp only [RX.put_some, RX.put_none, List.set_cons_zero, List.set_cons_succ]; rfl) ?_
           refine hR _ _ ?_; clear hR R)
        | (refine RY.one_float (by first | rfl | (rw [HO.out]; rfl)) rfl rfl rfl ?_
           apply Exists.intro; apply Exists.intro
           refine ⟨fun w' hS K hK => ?_, ?_, ?_⟩
           · obtain ⟨hS1, hS2⟩ := hS; go_wp2; exact hK _ _ (by simp only [RX.arr_getD, List.getD_cons_zero, List.getD_cons_succ]; first | exact RX.dec_t (by omega) | exact RX.dec_f (by omega) | exact RX.beq_t (by omega) | exact RX.beq_f (by omega) | exact RX.bne_t (by omega) | exact RX.bne_f (by omega) | exact RX.bneB _ | rfl) rfl
           · simp only [RX.put_some, RX.put_none, List.set_cons_zero, List.set_cons_succ]; rfl
           refine hR _ _ ?_; clear hR R)
      refine RY.step (fun R hR => ?_)
      refine RY.one_chain (by first | rfl | (rw [HO.out]; rfl)) rfl (fun K hK => ?_)
      go_wp2
      first | refine ⟨(by first | exact .inl rfl | exact .inl trivial | trivial), hR _ _ (RY.wpL_nil (hQR _ _ ?_))⟩ | refine hR _ _ (RY.wpL_nil (hQR _ _ ?_)) | refine hQR _ _ ?_
      (try clear hR); (try clear R); clear hQR QR HO OPS
      have n0 : ((w8.setCell ⟨N + 1, 0, none⟩ (.int .i64 C2)).setCell ⟨N + 1, 1, none⟩ (.int .u64 D2)).cell? ⟨N + 1, 0, none⟩ = some (.int .i64 C2) := by rw [World.cell?_setCell_other _ _ _ _ (by simp)]; exact World.cell?_setCell_same' _ _ _ (by rw [y0]; rfl)
      have n1 : ((w8.setCell ⟨N + 1, 0, none⟩ (.int .i64 C2)).setCell ⟨N + 1, 1, none⟩ (.int .u64 D2)).cell? ⟨N + 1, 1, none⟩ = some (.int .u64 D2) := World.cell?_setCell_same' _ _ _ (by rw [World.cell?_setCell_other _ _ _ _ (by simp), y1]; rfl)
      have p0 : ((w8.setCell ⟨N + 1, 0, none⟩ (.int .i64 C2)).setCell ⟨N + 1, 1, none⟩ (.int .u64 D2)).cell? ⟨N, 0, none⟩ = some (.int .i64 C0) := by rw [World.cell?_setCell_other _ _ _ _ (by simp), World.cell?_setCell_other _ _ _ _ (by simp)]; exact x0
      have p1 : ((w8.setCell ⟨N + 1, 0, none⟩ (.int .i64 C2)).setCell ⟨N + 1, 1, none⟩ (.int .u64 D2)).cell? ⟨N, 1, none⟩ = some (.int .u64 D0) := by rw [World.cell?_setCell_other _ _ _ _ (by simp), World.cell?_setCell_other _ _ _ _ (by simp)]; exact x1
      have nf0 : ((w8.setCell ⟨N + 1, 0, none⟩ (.int .i64 C2)).setCell ⟨N + 1, 1, none⟩ (.int .u64 D2)).frozen? ⟨N + 1, 0, none⟩ = false := by rw [World.frozen?_setCell, World.frozen?_setCell]; exact yf0
      have nf1 : ((w8.setCell ⟨N + 1, 0, none⟩ (.int .i64 C2)).setCell ⟨N + 1, 1, none⟩ (.int .u64 D2)).frozen? ⟨N + 1, 1, none⟩ = false := by rw [World.frozen?_setCell, World.frozen?_setCell]; exact yf1
      have HBT : Hid (Below w.heap.size w ((w8.setCell ⟨N + 1, 0, none⟩ (.int .i64 C2)).setCell ⟨N + 1, 1, none⟩ (.int .u64 D2))) := Lib.hid ((HB9.out.setCell (by simp <;> omega) _).setCell (by simp <;> omega) _)
      clear y0 y1 x0 x1 yf0 yf1 HB9
      generalize ((w8.setCell ⟨N + 1, 0, none⟩ (.int .i64 C2)).setCell ⟨N + 1, 1, none⟩ (.int .u64 D2)) = U at *
      go_wp2_with fail
      refine (compare_wv2 (wTo x y (k + 1)) R2 _ _ _ HS2.out.symm HS0.out.symm (by have := HLK.out.2; omega) (by have := HLK.out.2; have := HWR.out; have := HR2.out; have := mul_abs_le (x := d) (B := 2199023255552) (by omega) (by omega); have := HST.out; omega) (by have := HR2.out; omega) (by have := HR2.out; omega)).mono ?_
      rintro e w9 ⟨rfl, hb10⟩
      have HB10 := Lib.hid (HBT.out.trans (hb10.mono HBT.out.size))
      have hNl : N + 1 < U.heap.size := World.block_lt_of_cell? _ _ n0
      have y0 := RX.keep hb10 n0
      have y1 := RX.keep hb10 n1
      have x0 := RX.keep hb10 p0
      have x1 := RX.keep hb10 p1
      have yf0 : w9.frozen? ⟨N + 1, 0, none⟩ = false := (hb10.frozen (p := ⟨N + 1, 0, none⟩) hNl).trans nf0
      have yf1 : w9.frozen? ⟨N + 1, 1, none⟩ = false := (hb10.frozen (p := ⟨N + 1, 1, none⟩) hNl).trans nf1
      clear hb10 n0 n1 p0 p1 nf0 nf1 HBT hNl
      by_cases hgt : R2 < wTo x y (k + 1)
      · have hsg : sgn (wTo x y (k + 1)) R2 = 1 := by unfold sgn; rw [if_neg (by omega), if_pos hgt]
        rw [hsg]
        have HF : Hid (decide (dotL (subL x y) (subL x y) ≤ R2) = false) := Lib.hid (decide_eq_false (by have := HLK.out.2; omega))
        clear hgt hsg y0 y1 x0 x1 yf0 yf1
        go_wp2
        go_ret
        exact ⟨by rw [HF.out]; rfl, HB10.out⟩
      · have hsg : sgn (wTo x y (k + 1)) R2 ≤ 0 := by unfold sgn; split <;> (try split) <;> omega
        obtain ⟨sg, hsge⟩ : ∃ sg, sg = sgn (wTo x y (k + 1)) R2 := ⟨_, rfl⟩
        rw [← hsge] at hsg ⊢
        have HLE2 : Hid (wTo x y (k + 1) ≤ R2) := Lib.hid (by omega)
        clear hsge hgt
        go_wp2
        go_roundw
        case rel => exact ⟨k + 1, C2, D2, by omega, by go_num, HS2, HLE2, x0, x1, y0, y1, yf0, yf1, HB10.out⟩
        case measure => simp [intOf]; omega
    · have hdk : decide ((k : Int) < (n : Int)) = false := decide_eq_false (by omega)
      obtain rfl : k = n := by omega
      have HF : Hid (decide (dotL (subL x y) (subL x y) ≤ R2) = true) := Lib.hid (decide_eq_true (by have := HWR.out; rw [HEND.out] at this; exact this))
      go_wp2
      go_ret
      exact ⟨by rw [HF.out]; rfl, hbr⟩
end Go.Proofs.YtojkamfabapcoaaGreatDoor

set_option linter.unusedSimpArgs false
set_option linter.unusedVariables false
/-! append(dst, src...) where src may lie anywhere. -/
theorem Go.RX.wp_appS {P : Go.Program} {o : Go.Oper} {a : Go.Act} {w : Go.World} {K : Go.Act → Go.World → Prop} {Q : Go.Exit → Go.Act → Go.World → Prop} {t e : Go.TypeId} {z : Go.Value} {size bytes : Nat} (E : Go.RX.ElemOf P t e z size bytes) (s x : Go.Operand)
    (ho : o.op = .call { callee := .builtin .append, args := #[s, x], argTypes := #[t, t] }) (base : Nat)
    (v : Go.Value) (n : Nat) (xs : List Go.Value) (hown : w.ownsRow base e size v n xs) (hs : a.eval s = v)
    (ad : Go.Addr) (m mc : Nat) (news : List Go.Value) (hx : a.eval x = .slice (some ad) m mc) (hc : news.length = m * size) (hnews : ∀ j u, news[j]? = some u → w.cell? (ad.add j) = some u) (h1 : ∀ u ∈ news, u.oneCell' = true)
    (hbytes : (n + m) * bytes ≤ 140737488355328) (hn : n + m ≤ 140737488355328) (hbase : base ≤ w.heap.size)
    (h : ∀ v' w', w'.ownsRow base e size v' (n + m) (xs ++ news) → Go.RowKit.Below base w w' → w.grownBy w' v.ownBlock → (v'.ownBlock = v.ownBlock ∨ v'.ownBlock = some w.heap.size) → K (a.put o.dst v') w') : o.wp P a w K Q := by
  obtain ⟨i0, hi, hz, hsize, hby⟩ := Go.info_parts E.hi
  subst hs
  obtain ⟨v', w', hrun, h2, h3, _, h5⟩ := Go.run_append_own_at (P := P) w base t o.type e i0 z size bytes E.ht hi hz hsize hby E.hz E.pos _ n xs hown ad m mc news hc hnews h1 (by unfold Go.maxLen; omega) hbytes hbase
  unfold Go.Oper.wp Go.execOp
  simp only [ho, Go.resolve, Go.invoke, Go.builtin, Go.Sem.run_bind, Go.Sem.run_pure, Go.Result.andThen_ok, List.map_toArray, List.map_cons, List.map_nil, hx, hrun]
  exact h v' w' h2 ((Go.RowKit.Below.refl _ _).grown h3 hbase (fun k hk => (hown.lt k hk).1)) h3 h5
theorem Go.RX.wpl_appS {P : Go.Program} {ops : Array Go.Oper} {rest : List Go.Oper} {o : Go.Oper} {a : Go.Act} {w : Go.World} {Q : Go.Exit → Go.Act → Go.World → Prop} {t e : Go.TypeId} {z : Go.Value} {size bytes : Nat} (hgd : o.guard = none) (E : Go.RX.ElemOf P t e z size bytes) (s x : Go.Operand)
    (ho : o.op = .call { callee := .builtin .append, args := #[s, x], argTypes := #[t, t] }) (base : Nat)
    (v : Go.Value) (n : Nat) (xs : List Go.Value) (hown : w.ownsRow base e size v n xs) (hs : a.eval s = v)
    (ad : Go.Addr) (m mc : Nat) (news : List Go.Value) (hx : a.eval x = .slice (some ad) m mc) (hc : news.length = m * size) (hnews : ∀ j u, news[j]? = some u → w.cell? (ad.add j) = some u) (h1 : ∀ u ∈ news, u.oneCell' = true)
    (hbytes : (n + m) * bytes ≤ 140737488355328) (hn : n + m ≤ 140737488355328) (hbase : base ≤ w.heap.size)
    (h : ∀ v' w', w'.ownsRow base e size v' (n + m) (xs ++ news) → Go.RowKit.Below base w w' → w.grownBy w' v.ownBlock → (v'.ownBlock = v.ownBlock ∨ v'.ownBlock = some w.heap.size) → Go.wpList P ops Q rest (a.put o.dst v') w') : Go.wpList P ops Q (o :: rest) a w := by
  refine Go.wpList_plain hgd fun K hK => ?_
  exact Go.RX.wp_appS E s x ho base v n xs hown hs ad m mc news hx hc hnews h1 hbytes hn hbase (fun v' w' a b c d => hK _ _ (h v' w' a b c d))
namespace Go.Proofs.YtojkamfabapcoaaGreatDoor
open Go.RowKit Go.Grid

theorem vec_news {w : World} {b o : Nat} {zs : List Int} (h : ∀ k (h : k < zs.length), w.cell? ⟨b, o + k, none⟩ = some (.int .i64 zs[k])) : ∀ j u, (zs.map (Value.int .i64))[j]? = some u → w.cell? ((⟨b, o, none⟩ : Addr).add j) = some u := by
  intro j u hj
  rw [List.getElem?_map] at hj
  by_cases hk : j < zs.length
  · rw [List.getElem?_eq_getElem hk] at hj
    simp only [Option.map_some, Option.some.injEq] at hj
    subst hj
    rw [Addr.add_lit]; exact h j hk
  · rw [List.getElem?_eq_none (by omega)] at hj; cases hj
end Go.Proofs.YtojkamfabapcoaaGreatDoor

set_option linter.unusedSimpArgs false
set_option linter.unusedVariables false
namespace Go.Proofs.YtojkamfabapcoaaGreatDoor
open Go.RowKit Go.Grid Go.Shelf

/-! A second reader, over codes that were there at the call. -/
set_option maxHeartbeats 1000000 in
theorem new_any2 (B0 : Nat) (w : World) (p : Option Addr) (cap b o most : Nat) (L : List Int) (hm : most ≤ 240) (hp : 0 < L.length → p = some ⟨b, o, none⟩) (hcap : L.length ≤ cap) (hcap' : cap ≤ 9223372036854775807)
    (hcell : ∀ k (h : k < L.length), w.cell? ⟨b, o + k, none⟩ = some (.int .u8 L[k]) ∧ 0 ≤ L[k] ∧ L[k] < 256) (hB0 : 0 < L.length → b < B0) :
    Calls Tryz.prog 9 #[.slice p L.length cap, .int .i64 most] w fun e w' => e = .returned (.pointer (some ⟨w.heap.size, 0, none⟩)) ∧ Below w.heap.size w w' ∧ ∃ b', (0 < L.length → b' < B0) ∧ CodesAt w' w.heap.size b' (L.take most) 0 := by
  have fin : ∀ p' cap', (0 < (L.take most).length → p' = some ⟨b, o, none⟩) → ∃ b', (0 < L.length → b' < B0) ∧ CodesAt (w.alloc (.cells #[.slice p' (L.take most).length cap', .int .i64 0] 79)) w.heap.size b' (L.take most) 0 := by
    intro p' cap' hp'
    by_cases h0 : 0 < L.length
    · have hb : b < w.heap.size := World.block_lt_of_cell? w _ (hcell 0 h0).1
      refine ⟨b, hB0, ⟨p', cap', o, by rw [RX.cell_alloc]; simp, hp', fun k hk => ?_⟩, by rw [RX.cell_alloc]; simp, by rw [RX.frozen_alloc]; simp, Nat.zero_le _, by simp; omega, fun k hk => ?_, by omega⟩
      · have hk' : k < L.length := by simp at hk; omega
        rw [RX.cell_alloc, if_neg (by omega)]
        simpa using (hcell k hk').1
      · have hk' : k < L.length := by simp at hk; omega
        simpa using (hcell k hk').2
    · refine ⟨w.heap.size + 1, fun hh => absurd hh h0, ⟨p', cap', 0, by rw [RX.cell_alloc]; simp, fun hh => by simp at hh; omega, fun k hk => by simp at hk; omega⟩, by rw [RX.cell_alloc]; simp, by rw [RX.frozen_alloc]; simp, Nat.zero_le _, by simp; omega, fun k hk => ?_, by omega⟩
      simp at hk; omega
  by_cases hl : most < L.length
  · obtain rfl := hp (by omega)
    have e : (L.take most).length = most := by simp; omega
    rw [e] at fin
    go_enter Tryz.func9, Tryz.ntmps9
    go_wp2
    go_ret
    exact ⟨rfl, (Below.refl _ _).alloc (Nat.le_refl _) _, fin _ _ (fun _ => rfl)⟩
  · have e : (L.take most).length = L.length := by simp; omega
    rw [e] at fin
    go_enter Tryz.func9, Tryz.ntmps9
    go_wp2
    go_ret
    exact ⟨rfl, (Below.refl _ _).alloc (Nat.le_refl _) _, fin _ _ hp⟩


theorem start_any2 (W : World) (q : Option Addr) (cap cb co most : Nat) (L : List Int) (w : World) (hm : most ≤ 240) (hp : 0 < L.length → q = some ⟨cb, co, none⟩) (hl : L.length ≤ cap) (hc : cap ≤ 9223372036854775807)
    (hcell : ∀ k (h : k < L.length), W.cell? ⟨cb, co + k, none⟩ = some (.int .u8 L[k]) ∧ 0 ≤ L[k] ∧ L[k] < 256) (hB : Below W.heap.size W w) :
    Calls Tryz.prog 9 #[.slice q L.length cap, .int .i64 most] w fun e w' => ∃ (g b : Nat) (M : List Int), e = .returned (.pointer (some ⟨g, 0, none⟩)) ∧ g = w.heap.size ∧ Below w.heap.size w w' ∧ (0 < M.length → b < W.heap.size) ∧ CodesAt w' g b M 0 := by
  refine (new_any2 W.heap.size w q cap cb co most L hm hp hl hc (fun k hk => ⟨RX.keep hB (hcell k hk).1, (hcell k hk).2⟩) (fun h0 => World.block_lt_of_cell? W _ (hcell 0 h0).1)).mono ?_
  rintro e w' ⟨rfl, hb, b', hb', hC⟩
  exact ⟨w.heap.size, b', L.take most, rfl, rfl, hb, fun h0 => hb' (by simp at h0; omega), hC⟩
end Go.Proofs.YtojkamfabapcoaaGreatDoor
