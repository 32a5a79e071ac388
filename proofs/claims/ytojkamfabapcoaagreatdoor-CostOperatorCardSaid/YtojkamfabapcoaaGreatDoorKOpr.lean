import Derived.Test.YtojkamfabapcoaaGreatDoorConI
import Derived.Test.YtojkamfabapcoaaGreatDoorKGenS
import Derived.Test.YtojkamfabapcoaaGreatDoorKTerms
set_option linter.unusedSimpArgs false
set_option linter.unusedVariables false
namespace Go.Proofs.YtojkamfabapcoaaGreatDoor
open Go.RowKit Go.Grid

/-! Package operator: rows that a generator has made are valid. -/
theorem weighted_ok (n : Int) (w : World) (h1 : 1 ≤ n) (h2 : n ≤ 1000) : Calls Tryz.prog 124 #[.int .i64 n] w fun e w' => e = .returned (.bool true) ∧ w = w' := by
  go_enter Tryz.func124, Tryz.ntmps124
  have a1 : decide (n ≥ 1) = true := decide_eq_true h1
  have a2 : decide (n ≤ 1000) = true := decide_eq_true h2
  go_wp2
  go_ret
  exact ⟨rfl, rfl⟩
set_option maxRecDepth 100000
set_option maxHeartbeats 4000000 in
theorem ovalid_ok (r : Rw) (q : Option Addr) (cap : Nat) (nodes : Int) (w : World) (hS : ShIn w q r.sh) (hc : r.sh.length ≤ cap) (hG : RowG nodes r) (hn : nodes ≤ 1000) :
    Calls Tryz.prog 103 #[rwv r q cap, .int .i64 nodes] w fun e w' => e = .returned (.bool true) ∧ Below w.heap.size w w' := by
  have hrw : Hid (rwv r q cap = .agg #[.slice q r.sh.length cap, .int .i64 r.value, .int .i64 r.weight, .int .i64 r.report]) := Lib.hid rfl
  rw [hrw.out]
  have hlen := hG.len hn
  have HOK := Lib.hid hG.2.1
  have HASC := Lib.hid hG.1
  have HSUM : Hid (sumI r.sh = 840) := Lib.hid hG.2.2.1
  obtain ⟨-, -, -, hw, hv, hr⟩ := hG
  obtain ⟨S, hSe⟩ : ∃ S, S = r.sh := ⟨_, rfl⟩
  rw [← hSe] at hS hc hlen HOK HASC HSUM ⊢
  have HS := Lib.hid hS
  clear hSe hS hrw
  go_enter Tryz.func103, Tryz.ntmps103
  go_wp2
  refine absW (F := fun w' => w'.cell? ⟨w.heap.size, 0, none⟩ = some (.slice q S.length cap) ∧ w'.cell? ⟨w.heap.size, 1, none⟩ = some (.int .i64 r.value) ∧ w'.cell? ⟨w.heap.size, 2, none⟩ = some (.int .i64 r.weight) ∧ w'.cell? ⟨w.heap.size, 3, none⟩ = some (.int .i64 r.report) ∧ Below w.heap.size w w') ⟨(by simp [RX.cell_drew, RX.cell_alloc, Nat.add_assoc]), (by simp [RX.cell_drew, RX.cell_alloc, Nat.add_assoc]), (by simp [RX.cell_drew, RX.cell_alloc, Nat.add_assoc]), (by simp [RX.cell_drew, RX.cell_alloc, Nat.add_assoc]), (by repeat (first | (with_reducible assumption) | (with_reducible exact Below.refl _ _) | (with_reducible refine Below.setCell ?_ (by first | omega | (simp; done) | (simp; omega)) _) | (with_reducible refine Below.alloc ?_ (by first | omega | (simp; done) | (simp; omega)) _) | (with_reducible apply Below.drew) | assumption))⟩ ?_
  rintro W1 ⟨c0, c1, c2, c3, hb1⟩
  have HS1 := Lib.hid (HS.out.below hb1)
  have HB1 := Lib.hid hb1
  have hs1 : w.heap.size < W1.heap.size := World.block_lt_of_cell? _ _ c0
  clear hb1 HS
  go_loopw [5, 11] (fun s i wr => ∃ k : Nat, k ≤ S.length ∧ i = .int .i64 k ∧ s = .int .i64 (sumI (S.take k)) ∧ Below W1.heap.size W1 wr) (fun _ i _ => S.length - (intOf i).toNat)
  case atStart => exact ⟨0, Nat.zero_le _, rfl, rfl, Below.refl _ _⟩
  case round =>
    obtain ⟨k, hk, rfl, rfl, hb⟩ := hrel
    have c0r := RX.keep hb c0
    have c1r := RX.keep hb c1
    have c2r := RX.keep hb c2
    have c3r := RX.keep hb c3
    by_cases hlt : k < S.length
    · have hdk : decide ((k : Int) < (S.length : Int)) = true := decide_eq_true (by omega)
      obtain ⟨b, o, rfl, hbl, hcell⟩ := HS1.out.get (by omega)
      obtain ⟨d0, d1⟩ := hcell k hlt
      replace d0 := RX.keep hb d0
      replace d1 := RX.keep hb d1
      have hbd := sumI_bd (nodes := nodes) k hk (fun i hi _ => HOK.out _ (List.getElem_mem hi))
      have HSU := Lib.hid (sumI_take hlt)
      have hok := HOK.out _ (List.getElem_mem hlt)
      have hbl2 : b < wr.heap.size := by have := hb.size; omega
      have hbne : ¬ (b = wr.heap.size) := by omega
      have HPREV : Hid (∀ h0 : 0 < k, wr.cell? ⟨b, o + (k - 1) * 2, none⟩ = some (.int .i64 (S[k - 1]'(by omega)).1) ∧ (S[k - 1]'(by omega)).1 < S[k].1) := Lib.hid (fun h0 => ⟨RX.keep hb (hcell (k - 1) (by omega)).1, by
        have := HASC.out (k - 1) (by omega)
        rwa [show (S[k - 1 + 1]'(by omega)) = S[k] by congr 1; omega] at this⟩)
      obtain ⟨x, hx⟩ : ∃ x, x = S[k] := ⟨_, rfl⟩
      rw [← hx] at d0 d1 HSU hok HPREV
      obtain ⟨x0, x1⟩ := x
      obtain ⟨⟨hx0, hx1⟩, hx2, hx3⟩ := hok
      dsimp only at d0 d1 HSU hx0 hx1 hx2 hx3 HPREV
      obtain ⟨sm, hsm⟩ : ∃ sm, sm = sumI (S.take k) := ⟨_, rfl⟩
      rw [← hsm] at hbd HSU
      rw [← hsm]
      have hk0 : (0 : Int) ≤ (k : Int) := by omega
      have hkI : (k : Int) < (S.length : Int) := by omega
      have HB2 := Lib.hid (hb.alloc hb.size (.cells #[.int .i64 x0, .int .i64 x1] 90))
      have hwl : w.heap.size < wr.heap.size := by have := hb.size; omega
      have hwne : ¬ (w.heap.size = wr.heap.size) := by omega
      clear hx hsm hcell hb
      by_cases h0 : 0 < k
      · obtain ⟨e0, hlt2⟩ := HPREV.out h0
        obtain ⟨y, hy⟩ : ∃ y, y = (S[k - 1]'(by omega)).1 := ⟨_, rfl⟩
        rw [← hy] at e0 hlt2
        have hk1' : (k : Int) - 1 = ((k - 1 : Nat) : Int) := by omega
        obtain ⟨kk, hkk⟩ : ∃ kk, kk = k - 1 := ⟨_, rfl⟩
        rw [← hkk] at e0 hk1'
        have hkk0 : (0 : Int) ≤ (kk : Int) := by omega
        have hkkI : (kk : Int) < (S.length : Int) := by omega
        clear hkk hy HPREV
        go_wp2
        refine RX.region RX.fN (fun w' => w' = _) (by kernel_rfl) (by kernel_rfl) rfl (fun OPS HO QR hQR => ?_)
        repeat
          refine RX.step (fun R hR => ?_)
          first
          | (refine RX.one_skip (by first | rfl | (rw [HO.out]; rfl)) (by simp only [RX.put_some, RX.put_none, List.set_cons_zero, List.set_cons_succ]; rfl) ?_
             refine hR _ _ ?_; clear hR R)
          | (refine RX.one_move (by first | rfl | (rw [HO.out]; rfl)) rfl (by first | exact Or.inl rfl | exact Or.inr rfl) (by simp only [RX.eval_tmp, RX.eval_const, List.getD_cons_zero, List.getD_cons_succ]; rfl) (by simp only [RX.put_some, RX.put_none, List.set_cons_zero, List.set_cons_succ]; rfl) ?_
             refine hR _ _ ?_; clear hR R)
          | (refine RX.one_nil (by first | rfl | (rw [HO.out]; rfl)) rfl rfl (by simp only [RX.eval_tmp, RX.eval_const, List.getD_cons_zero, List.getD_cons_succ]; rfl) (by simp only [RX.put_some, RX.put_none, List.set_cons_zero, List.set_cons_succ]; rfl) ?_
             refine hR _ _ ?_; clear hR R)
          | (refine RX.one_float (by first | rfl | (rw [HO.out]; rfl)) rfl rfl rfl ?_
             apply Exists.intro; apply Exists.intro
             refine ⟨fun w' hS K hK => ?_, ?_, ?_⟩
             · subst hS; go_wp2; exact hK _ _ (by simp only [RX.arr_getD, List.getD_cons_zero, List.getD_cons_succ]; first | exact RX.dec_t (by omega) | exact RX.dec_f (by omega) | exact RX.beq_t (by omega) | exact RX.beq_f (by omega) | exact RX.bne_t (by omega) | exact RX.bne_f (by omega) | exact RX.bneB _ | rfl) rfl
             · simp only [RX.put_some, RX.put_none, List.set_cons_zero, List.set_cons_succ]; rfl
             refine hR _ _ ?_; clear hR R)
        refine RX.wpL_nil (hQR _ _ rfl ?_); clear hQR QR HO OPS
        go_wp2
        go_roundw
        case rel => exact ⟨k + 1, by omega, by go_num, by rw [HSU.out], HB2.out.drew⟩
        case measure => simp [intOf]; omega
      · clear HPREV
        go_wp2
        refine RX.region RX.fN (fun w' => w' = _) (by kernel_rfl) (by kernel_rfl) rfl (fun OPS HO QR hQR => ?_)
        repeat
          refine RX.step (fun R hR => ?_)
          first
          | (refine RX.one_skip (by first | rfl | (rw [HO.out]; rfl)) (by simp only [RX.put_some, RX.put_none, List.set_cons_zero, List.set_cons_succ]; rfl) ?_
             refine hR _ _ ?_; clear hR R)
          | (refine RX.one_move (by first | rfl | (rw [HO.out]; rfl)) rfl (by first | exact Or.inl rfl | exact Or.inr rfl) (by simp only [RX.eval_tmp, RX.eval_const, List.getD_cons_zero, List.getD_cons_succ]; rfl) (by simp only [RX.put_some, RX.put_none, List.set_cons_zero, List.set_cons_succ]; rfl) ?_
             refine hR _ _ ?_; clear hR R)
          | (refine RX.one_nil (by first | rfl | (rw [HO.out]; rfl)) rfl rfl (by simp only [RX.eval_tmp, RX.eval_const, List.getD_cons_zero, List.getD_cons_succ]; rfl) (by simp only [RX.put_some, RX.put_none, List.set_cons_zero, List.set_cons_succ]; rfl) ?_
             refine hR _ _ ?_; clear hR R)
          | (refine RX.one_float (by first | rfl | (rw [HO.out]; rfl)) rfl rfl rfl ?_
             apply Exists.intro; apply Exists.intro
             refine ⟨fun w' hS K hK => ?_, ?_, ?_⟩
             · subst hS; go_wp2; exact hK _ _ (by simp only [RX.arr_getD, List.getD_cons_zero, List.getD_cons_succ]; first | exact RX.dec_t (by omega) | exact RX.dec_f (by omega) | exact RX.beq_t (by omega) | exact RX.beq_f (by omega) | exact RX.bne_t (by omega) | exact RX.bne_f (by omega) | exact RX.bneB _ | rfl) rfl
             · simp only [RX.put_some, RX.put_none, List.set_cons_zero, List.set_cons_succ]; rfl
             refine hR _ _ ?_; clear hR R)
        refine RX.wpL_nil (hQR _ _ rfl ?_); clear hQR QR HO OPS
        go_wp2
        go_roundw
        case rel => exact ⟨k + 1, by omega, by go_num, by rw [HSU.out], HB2.out.drew⟩
        case measure => simp [intOf]; omega
    · have hdk : decide ((k : Int) < (S.length : Int)) = false := decide_eq_false (by omega)
      obtain rfl : k = S.length := by omega
      rw [List.take_length, HSUM.out]
      have v1 : decide (r.value ≥ -100000) = true := decide_eq_true (by omega)
      have v2 : decide (r.value ≤ 100000) = true := decide_eq_true (by omega)
      have v3 : decide (r.report ≥ 0) = true := decide_eq_true (by omega)
      have HBw : Hid (Below w.heap.size w wr) := Lib.hid (HB1.out.trans (hb.mono HB1.out.size))
      clear hb
      go_wp2_with fail
      refine (weighted_ok r.weight _ (by omega) (by omega)).mono ?_
      rintro e w2 ⟨rfl, rfl⟩
      go_wp2
      go_ret
      exact ⟨rfl, HBw.out⟩
set_option maxHeartbeats 1000000 in
theorem oinvalid1_ok (r : Rw) (q : Option Addr) (cap : Nat) (nodes : Int) (pb : Nat) (w : World) (hS : ShIn w q r.sh) (hc : r.sh.length ≤ cap) (hG : RowG nodes r) (hn : nodes ≤ 1000) (hp : w.cell? ⟨pb, 0, none⟩ = some (.int .i64 nodes)) :
    Calls Tryz.prog 102 #[rwv r q cap, .pointer (some ⟨pb, 0, none⟩)] w fun e w' => e = .returned (.bool false) ∧ Below w.heap.size w w' := by
  have HV : Hid (∀ w', ShIn w' q r.sh → Calls Tryz.prog 103 #[.agg #[.slice q r.sh.length cap, .int .i64 r.value, .int .i64 r.weight, .int .i64 r.report], .int .i64 nodes] w' fun e w'' => e = .returned (.bool true) ∧ Below w'.heap.size w' w'') := Lib.hid (fun w' h => ovalid_ok r q cap nodes w' h hc hG hn)
  have hrw : Hid (rwv r q cap = .agg #[.slice q r.sh.length cap, .int .i64 r.value, .int .i64 r.weight, .int .i64 r.report]) := Lib.hid rfl
  rw [hrw.out]
  have hpl : pb < w.heap.size := World.block_lt_of_cell? _ _ hp
  have hpne : ¬ (pb = w.heap.size) := by omega
  clear hG hrw
  go_enter Tryz.func102, Tryz.ntmps102
  go_wp2_with fail
  refine (HV.out _ (hS.below (by repeat (first | (with_reducible assumption) | (with_reducible exact Below.refl _ _) | (with_reducible refine Below.setCell ?_ (by first | omega | (simp; done) | (simp; omega)) _) | (with_reducible refine Below.alloc ?_ (by first | omega | (simp; done) | (simp; omega)) _) | (with_reducible apply Below.drew) | assumption)))).mono ?_
  rintro e w1 ⟨rfl, hb⟩
  have hB : Below w.heap.size w w1 := Below.trans (by repeat (first | (with_reducible assumption) | (with_reducible exact Below.refl _ _) | (with_reducible refine Below.setCell ?_ (by first | omega | (simp; done) | (simp; omega)) _) | (with_reducible refine Below.alloc ?_ (by first | omega | (simp; done) | (simp; omega)) _) | (with_reducible apply Below.drew) | assumption)) (hb.mono (by simp <;> omega))
  clear hb
  go_wp2
  go_ret
  exact ⟨rfl, hB⟩
set_option maxRecDepth 100000
set_option maxHeartbeats 2000000 in
theorem index_rows (p : Option Addr) (R : List Rw) (cap n : Nat) (nodes : Int) (pb : Nat) (w : World) (hl : R.length = n) (hV : RwIn w p R) (hn : n ≤ 1000000000) (hG : ∀ r ∈ R, RowG nodes r) (hno : nodes ≤ 1000) (hp : w.cell? ⟨pb, 0, none⟩ = some (.int .i64 nodes)) :
    Calls Tryz.prog 123 #[.slice p n cap, .func (.func 102) #[] #[.pointer (some ⟨pb, 0, none⟩)]] w fun e w' => e = .returned (.int .i64 (-1)) ∧ Below w.heap.size w w' := by
  have eg : ∀ args w, (callFunc 102 args).run Tryz.prog w = .ok (.enter 102 args) w := Go.Proofs.enters_of Tryz.func102 (by kernel_rfl) rfl
  have HV := Lib.hid hV
  have HL := Lib.hid hl
  have HG := Lib.hid hG
  clear hV hl hG
  go_enter Tryz.func123, Tryz.ntmps123
  go_wp2
  go_loopw [8] (fun a wr => ∃ k : Nat, k ≤ n ∧ a = .int .i64 (k : Int) ∧ Below w.heap.size w wr) (fun a _ => n - (intOf a).toNat)
  case atStart => exact ⟨0, Nat.zero_le _, rfl, Below.refl _ _⟩
  case round =>
    obtain ⟨k, hk, rfl, hb⟩ := hrel
    by_cases hlt : k < n
    · have hltL : k < R.length := by rw [HL.out]; exact hlt
      obtain ⟨b, o, rfl, hbl, hcell⟩ := (HV.out.below hb).get (by omega)
      obtain ⟨q, cp, g0, gcap, gsh, g1, g2, g3⟩ := hcell k hltL
      have hdk : decide ((k : Int) < (n : Int)) = true := decide_eq_true (by omega)
      have hk0 : (0 : Int) ≤ (k : Int) := by omega
      have hkI : (k : Int) < (n : Int) := by omega
      have hgr := HG.out _ (List.getElem_mem hltL)
      obtain ⟨r, hr⟩ : ∃ r, r = R[k] := ⟨_, rfl⟩
      rw [← hr] at g0 gcap gsh g1 g2 g3 hgr
      have HQ : Hid (Calls Tryz.prog 102 #[.agg #[.slice q r.sh.length cp, .int .i64 r.value, .int .i64 r.weight, .int .i64 r.report], .pointer (some ⟨pb, 0, none⟩)] wr fun e w'' => e = .returned (.bool false) ∧ Below wr.heap.size wr w'') := Lib.hid (oinvalid1_ok r q cp nodes pb wr gsh gcap hgr hno (RX.keep hb hp))
      clear hr hcell gsh hgr
      go_wp2_with fail
      refine HQ.out.mono ?_
      rintro e w1 ⟨rfl, hb1⟩
      have hb2 : Below w.heap.size w w1 := hb.trans (hb1.mono hb.size)
      clear hb hb1 HQ g0 g1 g2 g3
      go_wp2
      go_roundw
      case rel => exact ⟨k + 1, by omega, by go_num, hb2⟩
      case measure => simp [intOf]; omega
    · obtain rfl : k = n := by omega
      have hdk : decide ((k : Int) < (k : Int)) = false := decide_eq_false (by omega)
      go_wp2
      go_ret
      exact ⟨rfl, hb⟩
set_option maxHeartbeats 1000000 in
theorem oinvalid_ok (p : Option Addr) (R : List Rw) (cap n : Nat) (nodes : Int) (w : World) (hl : R.length = n) (hV : RwIn w p R) (hn : n ≤ 1000000000) (hG : ∀ r ∈ R, RowG nodes r) (hno : nodes ≤ 1000) :
    Calls Tryz.prog 63 #[.slice p n cap, .int .i64 nodes] w fun e w' => e = .returned (.bool false) ∧ Below w.heap.size w w' := by
  have HC : Hid (∀ w' pb, RwIn w' p R → w'.cell? ⟨pb, 0, none⟩ = some (.int .i64 nodes) → Calls Tryz.prog 101 #[.slice p n cap, .func (.func 102) #[] #[.pointer (some ⟨pb, 0, none⟩)]] w' fun e w'' => e = .returned (.bool false) ∧ Below w'.heap.size w' w'') := Lib.hid (fun w' pb h1 h2 => by
    have HI := Lib.hid (index_rows p R cap n nodes pb w' hl h1 hn hG hno h2)
    clear hl hV hG h1 h2
    go_enter Tryz.func101, Tryz.ntmps101
    go_wp2_with fail
    refine HI.out.mono ?_
    rintro e w1 ⟨rfl, hb⟩
    go_wp2
    go_ret
    exact ⟨rfl, hb⟩)
  clear hl hG
  go_enter Tryz.func63, Tryz.ntmps63
  go_wp2_with fail
  refine (HC.out _ _ (hV.below (by repeat (first | (with_reducible assumption) | (with_reducible exact Below.refl _ _) | (with_reducible refine Below.setCell ?_ (by first | omega | (simp; done) | (simp; omega)) _) | (with_reducible refine Below.alloc ?_ (by first | omega | (simp; done) | (simp; omega)) _) | (with_reducible apply Below.drew) | assumption))) (by simp [RX.cell_drew, RX.cell_alloc, Nat.add_assoc])).mono ?_
  rintro e w1 ⟨rfl, hb⟩
  have hB : Below w.heap.size w w1 := Below.trans (by repeat (first | (with_reducible assumption) | (with_reducible exact Below.refl _ _) | (with_reducible refine Below.setCell ?_ (by first | omega | (simp; done) | (simp; omega)) _) | (with_reducible refine Below.alloc ?_ (by first | omega | (simp; done) | (simp; omega)) _) | (with_reducible apply Below.drew) | assumption)) (hb.mono (by simp <;> omega))
  clear hb
  go_wp2
  go_ret
  exact ⟨rfl, hB⟩
/-! The test of small numbers. -/
theorem great_any (x : Int) (w : World) : Calls Tryz.prog 104 #[.int .i64 x] w fun e w' => e = .returned (.bool (decide (x < -1099511627776) || decide (x > 1099511627776))) ∧ Below w.heap.size w w' := by
  go_enter Tryz.func104, Tryz.ntmps104
  by_cases h : x < -1099511627776
  · have h1 : decide (x < -1099511627776) = true := decide_eq_true h
    go_wp2
    go_ret
    exact ⟨by simp [h], Below.refl _ _⟩
  · have h1 : decide (x < -1099511627776) = false := decide_eq_false h
    go_wp2
    go_ret
    exact ⟨by simp [h], Below.refl _ _⟩
/-- Whether all numbers are small. -/
def smallB (L : List Int) : Bool := !(L.any (fun x => decide (x < -1099511627776) || decide (x > 1099511627776)))
theorem smallB_bd {L : List Int} (h : Bd 1099511627776 L) : smallB L = true := by
  unfold smallB
  have : (L.any (fun x => decide (x < -1099511627776) || decide (x > 1099511627776))) = false := List.any_eq_false.2 (fun x hx => by
    have := h x hx; simp; omega)
  rw [this]; rfl
set_option maxHeartbeats 1000000 in
theorem osmall_any (p : Option Addr) (L : List Int) (cap n : Nat) (w : World) (hl : L.length = n) (hV : VecAt w p L) (hn : n ≤ 1000000000) :
    Calls Tryz.prog 64 #[.slice p n cap] w fun e w' => e = .returned (.bool (smallB L)) ∧ Below w.heap.size w w' := by
  obtain ⟨bb, hbb⟩ : ∃ bb, bb = L.any (fun x => decide (x < -1099511627776) || decide (x > 1099511627776)) := ⟨_, rfl⟩
  have HC : Hid (Calls Tryz.prog 90 #[.slice p n cap, .func (.func 104) #[] #[]] w fun e w' => e = .returned (.bool bb) ∧ Below w.heap.size w w') := Lib.hid (by
    rw [hbb]
    exact contains_int p L cap n w hl hV hn _ _ (Go.Proofs.enters_of Tryz.func104 (by kernel_rfl) rfl) (fun x _ w' _ => great_any x w'))
  have HE : Hid (smallB L = !bb) := Lib.hid (by rw [hbb]; rfl)
  rw [HE.out]
  clear hbb hl hV
  go_enter Tryz.func64, Tryz.ntmps64
  go_wp2_with fail
  refine HC.out.mono ?_
  rintro e w1 ⟨rfl, hb⟩
  go_wp2
  go_ret
  exact ⟨rfl, hb⟩
end Go.Proofs.YtojkamfabapcoaaGreatDoor

set_option linter.unusedSimpArgs false
set_option linter.unusedVariables false
namespace Go.Proofs.YtojkamfabapcoaaGreatDoor
open Go.RowKit Go.Grid

/-! operator.value, Apply. -/
theorem RowG.in {n : Int} {r : Rw} (h : RowG n r) : ∀ c ∈ r.sh, 0 ≤ c.1 ∧ c.1 < n := fun c hc => (h.2.1 c hc).1
set_option maxRecDepth 100000
set_option maxHeartbeats 4000000 in
theorem ovalue_ok (r : Rw) (q : Option Addr) (cap : Nat) (x : List Int) (p : Option Addr) (xc n : Nat) (w : World) (hS : ShIn w q r.sh) (hc : r.sh.length ≤ cap) (hG : RowG n r) (hxl : x.length = n) (hn : n ≤ 1000) (hx : VecAt w p x) (hb : Bd 1099511627776 x) :
    Calls Tryz.prog 65 #[rwv r q cap, .slice p n xc] w fun e w' => e = .returned (.int .i64 (valL r.sh x)) ∧ Below w.heap.size w w' := by
  have hrw : Hid (rwv r q cap = .agg #[.slice q r.sh.length cap, .int .i64 r.value, .int .i64 r.weight, .int .i64 r.report]) := Lib.hid rfl
  rw [hrw.out]
  have hlen := hG.len (by omega)
  have HIN := Lib.hid hG.in
  have HW := Lib.hid hG.shw
  obtain ⟨S, hSe⟩ : ∃ S, S = r.sh := ⟨_, rfl⟩
  rw [← hSe] at hS hc hlen HIN HW ⊢
  have HS := Lib.hid hS
  have HX := Lib.hid hx
  have HB := Lib.hid hb
  have HXL := Lib.hid hxl
  clear hSe hS hx hb hrw hG hxl
  go_enter Tryz.func65, Tryz.ntmps65
  go_wp2
  refine absW (F := fun w' => w'.cell? ⟨w.heap.size, 0, none⟩ = some (.slice q S.length cap) ∧ Below w.heap.size w w') ⟨(by simp [RX.cell_drew, RX.cell_alloc, Nat.add_assoc]), (by repeat (first | (with_reducible assumption) | (with_reducible exact Below.refl _ _) | (with_reducible refine Below.setCell ?_ (by first | omega | (simp; done) | (simp; omega)) _) | (with_reducible refine Below.alloc ?_ (by first | omega | (simp; done) | (simp; omega)) _) | (with_reducible apply Below.drew) | assumption))⟩ ?_
  rintro W1 ⟨c0, hb1⟩
  have HS1 := Lib.hid (HS.out.below hb1)
  have HX1 := Lib.hid (HX.out.below hb1)
  have HB1 := Lib.hid hb1
  clear hb1 HS HX
  go_loopw [5, 11] (fun s i wr => ∃ k : Nat, k ≤ S.length ∧ i = .int .i64 k ∧ s = .int .i64 (valL (S.take k) x) ∧ Below W1.heap.size W1 wr) (fun _ i _ => S.length - (intOf i).toNat)
  case atStart => exact ⟨0, Nat.zero_le _, rfl, rfl, Below.refl _ _⟩
  case round =>
    obtain ⟨k, hk, rfl, rfl, hb⟩ := hrel
    by_cases hlt : k < S.length
    · have hdk : decide ((k : Int) < (S.length : Int)) = true := decide_eq_true (by omega)
      obtain ⟨b, o, rfl, hbl, hcell⟩ := HS1.out.get (by omega)
      obtain ⟨d0, d1⟩ := hcell k hlt
      replace d0 := RX.keep hb d0
      replace d1 := RX.keep hb d1
      have hv := HW.out.val HB.out (by omega) k
      have hv2 := HW.out.val HB.out (by omega) (k + 1)
      have HSU : Hid (valL (S.take (k + 1)) x = valL (S.take k) x + valT x S[k]) := Lib.hid (valL_take hlt)
      rw [HSU.out] at hv2
      have hcw := HW.out.each (List.getElem_mem hlt)
      have htb := valT_bd HB.out (by omega) hcw.1
      have hin := HIN.out _ (List.getElem_mem hlt)
      have hk0 : (0 : Int) ≤ (k : Int) := by omega
      have hkI : (k : Int) < (S.length : Int) := by omega
      have hbn : b < wr.heap.size := by have := hb.size; omega
      have hbne : ¬ (b = wr.heap.size) := by omega
      obtain ⟨c, hce⟩ : ∃ c, c = S[k] := ⟨_, rfl⟩
      rw [← hce] at d0 d1 HSU hv2 hcw htb hin
      obtain ⟨sm, hsm⟩ : ∃ sm, sm = valL (S.take k) x := ⟨_, rfl⟩
      rw [← hsm] at hv hv2 HSU
      rw [← hsm]
      obtain ⟨x0, x1⟩ := c
      dsimp only at d0 d1 hcw htb hin
      have HB2 := Lib.hid (hb.alloc hb.size (.cells #[.int .i64 x0, .int .i64 x1] 90))
      clear hce hsm hcell
      obtain ⟨j, rfl⟩ : ∃ j : Nat, x0 = (j : Int) := ⟨x0.toNat, by omega⟩
      have hjn : j < n := by omega
      have hj : j < x.length := by rw [HXL.out]; exact hjn
      obtain ⟨bx, ox, rfl, hbx, hcx⟩ := HX1.out.cell (by omega)
      have xj := RX.keep hb (hcx j hj)
      have hbxr : bx < wr.heap.size := by have := hb.size; omega
      have hbxne : ¬ (bx = wr.heap.size) := by omega
      have HT : Hid (valT x ((j : Int), x1) = x1 * x[j]) := Lib.hid (by
        unfold valT; rw [if_pos (show 0 ≤ ((j : Int), x1).1 ∧ ((j : Int), x1).1 < x.length from ⟨by show 0 ≤ (j : Int); omega, by show (j : Int) < x.length; omega⟩)]
        show x1 * x.getD (j : Int).toNat 0 = x1 * x[j]
        rw [Int.toNat_natCast, i64_get hj])
      obtain ⟨y, hy⟩ : ∃ y, y = x[j] := ⟨_, rfl⟩
      rw [← hy] at xj HT
      rw [HT.out] at HSU hv2 htb
      obtain ⟨pr, hpr⟩ : ∃ pr, x1 * y = pr := ⟨_, rfl⟩
      rw [hpr] at HSU hv2 htb
      have hj0 : (0 : Int) ≤ (j : Int) := by omega
      have hjI : (j : Int) < (n : Int) := by omega
      have hprb : -4611686018427387904 ≤ x1 * y ∧ x1 * y ≤ 4611686018427387904 := by
        rw [hpr]
        have h2 := Int.mul_le_mul_of_nonneg_right hcw.2 (show (0 : Int) ≤ 1099511627776 by omega)
        omega
      clear hb hy hcx HT hj
      go_wp2
      refine RX.region RX.fN (fun w' => w' = _) (by kernel_rfl) (by kernel_rfl) rfl (fun OPS HO QR hQR => ?_)
      repeat
        refine RX.step (fun R hR => ?_)
        first
        | (refine RX.one_skip (by first | rfl | (rw [HO.out]; rfl)) (by simp only [RX.put_some, RX.put_none, List.set_cons_zero, List.set_cons_succ]; rfl) ?_
           refine hR _ _ ?_; clear hR R)
        | (refine RX.one_move (by first | rfl | (rw [HO.out]; rfl)) rfl (by first | exact Or.inl rfl | exact Or.inr rfl) (by simp only [RX.eval_tmp, RX.eval_const, List.getD_cons_zero, List.getD_cons_succ]; rfl) (by simp only [RX.put_some, RX.put_none, List.set_cons_zero, List.set_cons_succ]; rfl) ?_
           refine hR _ _ ?_; clear hR R)
        | (refine RX.one_nil (by first | rfl | (rw [HO.out]; rfl)) rfl rfl (by simp only [RX.eval_tmp, RX.eval_const, List.getD_cons_zero, List.getD_cons_succ]; rfl) (by simp only [RX.put_some, RX.put_none, List.set_cons_zero, List.set_cons_succ]; rfl) ?_
           refine hR _ _ ?_; clear hR R)
        | (refine RX.one_float (by first | rfl | (rw [HO.out]; rfl)) rfl rfl rfl ?_
           apply Exists.intro; apply Exists.intro
           refine ⟨fun w' hS K hK => ?_, ?_, ?_⟩
           · subst hS; go_wp2; exact hK _ _ (by simp only [RX.arr_getD, List.getD_cons_zero, List.getD_cons_succ]; first | exact RX.dec_t (by omega) | exact RX.dec_f (by omega) | exact RX.beq_t (by omega) | exact RX.beq_f (by omega) | exact RX.bne_t (by omega) | exact RX.bne_f (by omega) | exact RX.bneB _ | rfl) rfl
           · simp only [RX.put_some, RX.put_none, List.set_cons_zero, List.set_cons_succ]; rfl
           refine hR _ _ ?_; clear hR R)
      refine RX.wpL_nil (hQR _ _ rfl ?_); clear hQR QR HO OPS
      go_wp2
      go_roundw
      case rel => exact ⟨k + 1, by omega, by go_num, by rw [HSU.out] <;> simp [hpr], HB2.out.drew⟩
      case measure => simp [intOf]; omega
    · obtain rfl : k = S.length := by omega
      have hdk : decide ((S.length : Int) < (S.length : Int)) = false := decide_eq_false (by omega)
      rw [List.take_length]
      go_wp2
      go_ret
      exact ⟨rfl, HB1.out.trans (hb.mono HB1.out.size)⟩
/-- The values of rows. -/
def valsL (R : List Rw) (x : List Int) : List Int := R.map (fun r => valL r.sh x)
set_option maxRecDepth 100000
set_option maxHeartbeats 4000000 in
theorem oapply_ok (p px : Option Addr) (R : List Rw) (x : List Int) (cap xc m n : Nat) (w : World) (hl : R.length = m) (hV : RwIn w p R) (hm : m ≤ 200) (hG : ∀ r ∈ R, RowG n r) (hxl : x.length = n) (hn : n ≤ 642) (hx : VecAt w px x) (hb : Bd 1099511627776 x) :
    Calls Tryz.prog 16 #[.slice p m cap, .slice px n xc] w fun e w' => ∃ v, e = .returned (.tuple #[v, .int .i64 0]) ∧ RowV w' w.heap.size v (valsL R x) ∧ Below w.heap.size w w' := by
  have HI : Hid (∀ w', RwIn w' p R → Calls Tryz.prog 63 #[.slice p m cap, .int .i64 n] w' fun e w'' => e = .returned (.bool false) ∧ Below w'.heap.size w' w'') := Lib.hid (fun w' h => oinvalid_ok p R cap m n w' hl h (by omega) hG (by omega))
  have HSM : Hid (∀ w', VecAt w' px x → Calls Tryz.prog 64 #[.slice px n xc] w' fun e w'' => e = .returned (.bool true) ∧ Below w'.heap.size w' w'') := Lib.hid (fun w' h => by
    have h2 := osmall_any px x xc n w' hxl h (by omega)
    rw [smallB_bd hb] at h2; exact h2)
  have HVAL : Hid (∀ r ∈ R, ∀ (q : Option Addr) (cp : Nat) w', ShIn w' q r.sh → r.sh.length ≤ cp → VecAt w' px x → Calls Tryz.prog 65 #[.agg #[.slice q r.sh.length cp, .int .i64 r.value, .int .i64 r.weight, .int .i64 r.report], .slice px n xc] w' fun e w'' => e = .returned (.int .i64 (valL r.sh x)) ∧ Below w'.heap.size w' w'') := Lib.hid (fun r hr q cp w' h1 h2 h3 => ovalue_ok r q cp x px xc n w' h1 h2 (hG r hr) hxl (by omega) h3 hb)
  have HV := Lib.hid hV
  have HX := Lib.hid hx
  have HL := Lib.hid hl
  clear hl hV hG hxl hx hb
  have g1 : decide ((m : Int) > 200) = false := decide_eq_false (by omega)
  have g2 : decide ((n : Int) > 642) = false := decide_eq_false (by omega)
  go_enter Tryz.func16, Tryz.ntmps16
  go_wp2_with fail
  refine (HI.out _ HV.out).mono ?_
  rintro e w1 ⟨rfl, hb1⟩
  go_wp2_with fail
  refine (HSM.out _ (HX.out.below hb1)).mono ?_
  rintro e w2 ⟨rfl, hb2⟩
  have hB := Lib.hid (hb1.trans (hb2.mono hb1.size))
  clear hb1 hb2 HI HSM
  go_wp2
  go_loopw [6, 30] (fun v i wr => ∃ k : Nat, k ≤ m ∧ i = .int .i64 k ∧ RowV wr w.heap.size v (valsL (R.take k) x) ∧ Below w.heap.size w wr) (fun _ i _ => m - (intOf i).toNat)
  case atStart => exact ⟨0, Nat.zero_le _, rfl, RowV.nil _ _, hB.out⟩
  case round =>
    obtain ⟨k, hk, rfl, hrow, hb⟩ := hrel
    by_cases hlt : k < m
    · have hltL : k < R.length := by rw [HL.out]; exact hlt
      have hdk : decide ((k : Int) < (m : Int)) = true := decide_eq_true (by omega)
      obtain ⟨b, o, rfl, hbl, hcell⟩ := (HV.out.below hb).get (by omega)
      obtain ⟨q, cp, g0, gcap, gsh, gv, gw, gr⟩ := hcell k hltL
      have HTK : Hid (valsL (R.take (k + 1)) x = valsL (R.take k) x ++ [valL R[k].sh x]) := Lib.hid (by
        unfold valsL; rw [List.take_succ_eq_append_getElem hltL, List.map_append]; rfl)
      have HVK := Lib.hid (HVAL.out _ (List.getElem_mem hltL) q cp)
      obtain ⟨r, hr⟩ : ∃ r, r = R[k] := ⟨_, rfl⟩
      rw [← hr] at g0 gcap gsh gv gw gr HTK HVK
      obtain ⟨T, hT⟩ : ∃ T, T = valsL (R.take k) x := ⟨_, rfl⟩
      rw [← hT] at hrow HTK
      have hTl : T.length = k := by rw [hT]; unfold valsL; simp; omega
      have HTL := Lib.hid hTl
      obtain ⟨pt, cc, rfl, hcc⟩ := own_slice hrow
      rw [hTl] at hrow ⊢
      have hk0 : (0 : Int) ≤ (k : Int) := by omega
      have hkI : (k : Int) < (m : Int) := by omega
      have hbn : b < wr.heap.size := hbl
      have hbne : ¬ (b = wr.heap.size) := by omega
      have HROW := Lib.hid hrow
      have HBR := Lib.hid hb
      have HGS := Lib.hid gsh
      clear hr hcell gsh hT hTl hrow hb
      go_wp2_with fail
      refine (HVK.out _ (HGS.out.below (by repeat (first | (with_reducible assumption) | (with_reducible exact Below.refl _ _) | (with_reducible refine Below.setCell ?_ (by first | omega | (simp; done) | (simp; omega)) _) | (with_reducible refine Below.alloc ?_ (by first | omega | (simp; done) | (simp; omega)) _) | (with_reducible apply Below.drew) | assumption))) gcap ((HX.out.below HBR.out).below (by repeat (first | (with_reducible assumption) | (with_reducible exact Below.refl _ _) | (with_reducible refine Below.setCell ?_ (by first | omega | (simp; done) | (simp; omega)) _) | (with_reducible refine Below.alloc ?_ (by first | omega | (simp; done) | (simp; omega)) _) | (with_reducible apply Below.drew) | assumption)))).mono ?_
      rintro e w3 ⟨rfl, hb3⟩
      obtain ⟨y, hy⟩ : ∃ y, y = valL r.sh x := ⟨_, rfl⟩
      rw [← hy] at HTK ⊢
      have hB3 : Below wr.heap.size wr w3 := Below.trans (by repeat (first | (with_reducible assumption) | (with_reducible exact Below.refl _ _) | (with_reducible refine Below.setCell ?_ (by first | omega | (simp; done) | (simp; omega)) _) | (with_reducible refine Below.alloc ?_ (by first | omega | (simp; done) | (simp; omega)) _) | (with_reducible apply Below.drew) | assumption)) (hb3.mono (by simp <;> omega))
      have hown := own_below HROW.out hB3
      have HB3 := Lib.hid (HBR.out.trans (hB3.mono HBR.out.size))
      have hws : w.heap.size ≤ w3.heap.size := by have := HB3.out.size; omega
      have hown2 := World.ownsRow.alloc hown (.cells #[.int .i64 y] 3)
      have hk1 : (T.length + 1) * 8 ≤ 140737488355328 := by rw [HTL.out]; omega
      have hk2 : T.length + 1 ≤ 140737488355328 := by rw [HTL.out]; omega
      clear hb3 hB3 hy g0 gv gw gr
      go_wp2_with (refine RX.wpl_app2 (by rfl) elInt _ _ (by rfl) w.heap.size _ _ _ hown2 (by rfl) w3.heap.size _ 1 (by rfl) (heap_alloc_new _ _) (by rfl) (by simp [Value.oneCell']) hk1 hk2 (by simp; omega) ?_; intro v' w4 hown3 hb4 hg4 hat4)
      have hlow : ∀ q, (Value.slice pt k cc).ownBlock = some q → w.heap.size ≤ q := fun q hq => (World.ownsRow.lt hown q hq).1
      have HB4 := Lib.hid ((HB3.out.alloc hws (.cells #[.int .i64 y] 3)).grown hg4 (by simp <;> omega) hlow)
      have HR4 : Hid (RowV w4 w.heap.size v' (T ++ [y])) := Lib.hid (RowV.snoc hown3)
      clear hown hown2 hown3 hb4 hg4 hat4
      go_roundw
      case rel => exact ⟨k + 1, by omega, by go_num, by rw [HTK.out]; exact HR4.out, HB4.out⟩
      case measure => simp [intOf]; omega
    · obtain rfl : k = m := by omega
      have hdk : decide ((k : Int) < (k : Int)) = false := decide_eq_false (by omega)
      have HR2 : Hid (RowV wr w.heap.size _ (valsL R x)) := Lib.hid (by have h := hrow; rw [List.take_of_length_le (by rw [HL.out]; omega)] at h; exact h)
      obtain ⟨pt, cc, rfl, hcc⟩ := own_slice hrow
      go_wp2
      go_ret2
      exact ⟨_, rfl, HR2.out, hb⟩
end Go.Proofs.YtojkamfabapcoaaGreatDoor

set_option linter.unusedSimpArgs false
set_option linter.unusedVariables false
namespace Go.Proofs.YtojkamfabapcoaaGreatDoor
open Go.RowKit Go.Grid

/-! operator.Transpose. -/
def rowW (p : Rw × Int) : List (Int × Int) := p.1.sh.map (fun c => (c.1, c.2 * p.2))
/-- The sums of weights times numbers, for each node. -/
def transL (n : Nat) (R : List Rw) (d : List Int) : List Int := spread (List.replicate n 0) ((R.zip d).flatMap rowW)
theorem absS_rowW {M : Int} {p : Rw × Int} (h : RowG M p.1) (hd : -1099511627776 ≤ p.2 ∧ p.2 ≤ 1099511627776) : absS (rowW p) ≤ 923589767331840 := by
  have key : ∀ S : List (Int × Int), (∀ c ∈ S, 0 ≤ c.2) → ((absS (S.map (fun c => (c.1, c.2 * p.2))) : Nat) : Int) ≤ sumI S * 1099511627776 := by
    intro S
    induction S with
    | nil => intro _; simp [absS, sumI]
    | cons c S ih =>
      intro h0
      have i := ih (fun c hc => h0 c (by simp [hc]))
      have hc := h0 c (by simp)
      have e : sumI (c :: S) = c.2 + sumI S := by simp [sumI]
      have e2 : absS ((c :: S).map (fun c => (c.1, c.2 * p.2))) = (c.2 * p.2).natAbs + absS (S.map (fun c => (c.1, c.2 * p.2))) := by simp [absS]
      have e3 := mulw_bd hc hd.1 hd.2
      rw [e, e2, Int.add_mul]
      omega
  have h1 := key p.1.sh (fun c hc => by have := (h.2.1 c hc).2; omega)
  rw [h.2.2.1] at h1
  have e : absS (rowW p) = absS (p.1.sh.map (fun c => (c.1, c.2 * p.2))) := rfl
  rw [e]; omega
theorem transL_bd {M : Int} {n : Nat} {R : List Rw} {d : List Int} (hG : ∀ r ∈ R, RowG M r) (hd : Bd 1099511627776 d) (hR : R.length ≤ 200) : Bd 200000000000000000 (transL n R d) := by
  have h1 : Bd 0 (List.replicate n 0) := fun y hy => by rw [List.eq_of_mem_replicate hy]; omega
  have h2 := spread_bd ((R.zip d).flatMap rowW) h1 (by omega)
  have h3 := absS_flat rowW 923589767331840 (R.zip d) (fun p hp => by
    have h9 := List.of_mem_zip (show (p.1, p.2) ∈ R.zip d from hp)
    exact absS_rowW (hG _ h9.1) (hd _ h9.2))
  have h4 : (R.zip d).length ≤ 200 := by rw [List.length_zip]; omega
  exact h2.mono (by omega)
set_option maxRecDepth 100000
set_option maxHeartbeats 4000000 in
theorem otrans_ok (p pd : Option Addr) (R : List Rw) (d : List Int) (cap dc m n : Nat) (w : World) (hl : R.length = m) (hV : RwIn w p R) (hm : m ≤ 200) (hG : ∀ r ∈ R, RowG n r) (hdl : d.length = m) (hn : n ≤ 642) (hn1 : 1 ≤ n) (hx : VecAt w pd d) (hb : Bd 1099511627776 d) :
    Calls Tryz.prog 19 #[.slice p m cap, .int .i64 n, .slice pd m dc] w fun e w' => ∃ N, e = .returned (.tuple #[.slice (some ⟨N, 0, none⟩) n n, .int .i64 0]) ∧ IntsAt w' N 0 (transL n R d) ∧ Below w.heap.size w w' := by
  have HI : Hid (∀ w', RwIn w' p R → Calls Tryz.prog 63 #[.slice p m cap, .int .i64 n] w' fun e w'' => e = .returned (.bool false) ∧ Below w'.heap.size w' w'') := Lib.hid (fun w' h => oinvalid_ok p R cap m n w' hl h (by omega) hG (by omega))
  have HSM : Hid (∀ w', VecAt w' pd d → Calls Tryz.prog 64 #[.slice pd m dc] w' fun e w'' => e = .returned (.bool true) ∧ Below w'.heap.size w' w'') := Lib.hid (fun w' h => by
    have h2 := osmall_any pd d dc m w' hdl h (by omega)
    rw [smallB_bd hb] at h2; exact h2)
  have HV := Lib.hid hV
  have HX := Lib.hid hx
  have HL := Lib.hid (And.intro hl hdl)
  have HG := Lib.hid hG
  have HB := Lib.hid hb
  have HBI : Hid (Bd 200000000000000000 (transL n R d)) := Lib.hid (transL_bd hG hb (by omega))
  have HTR : Hid (transL n R d = spread (List.replicate n 0) ((R.zip d).flatMap rowW)) := Lib.hid rfl
  clear hl hV hG hdl hx hb
  have g1 : decide ((m : Int) > 200) = false := decide_eq_false (by omega)
  have g2 : decide ((n : Int) > 642) = false := decide_eq_false (by omega)
  have g3 : decide ((n : Int) < 0) = false := decide_eq_false (by omega)
  have g4 : ((m : Int) != (m : Int)) = false := by simp
  go_enter Tryz.func19, Tryz.ntmps19
  go_wp2_with fail
  refine (HI.out _ HV.out).mono ?_
  rintro e w1 ⟨rfl, hb1⟩
  go_wp2_with fail
  refine (HSM.out _ (HX.out.below hb1)).mono ?_
  rintro e w2 ⟨rfl, hb2⟩
  have hB := hb1.trans (hb2.mono hb1.size)
  have hmk := run_make_row' (P := Tryz.prog) 25 3 (.int .i64 0) 8 Tryz.underlying25 (by kernel_rfl) rfl .i64 .i64 n (by omega) (by omega)
  have hmade := IntsAt.made w2 n
  have hbm : Below w.heap.size w (w2.alloc (.cells (madeCells #[.int .i64 0] n) 3)) := hB.alloc hB.size _
  have hwN : w.heap.size ≤ w2.heap.size := hB.size
  clear hb1 hb2 HI HSM hB
  go_wp2
  clear hmk
  obtain ⟨N, hN⟩ : ∃ N, N = w2.heap.size := ⟨_, rfl⟩
  rw [← hN] at hmade hwN ⊢
  clear hN
  generalize (w2.alloc (.cells (madeCells #[.int .i64 0] n) 3)) = W2 at *
  have HB2 := Lib.hid hbm
  have HMI : Hid (IntsAt W2 N 0 ((spread (List.replicate n 0) (((R.zip d).take 0).flatMap rowW)).map wrap64)) := Lib.hid (by
    have e : ((spread (List.replicate n 0) (((R.zip d).take 0).flatMap rowW)).map wrap64) = List.replicate n 0 := by
      simp only [List.take_zero, List.flatMap_nil, spread, List.foldl_nil, List.map_replicate]
      rw [show wrap64 0 = 0 by unfold wrap64; omega]
    rw [e]; exact hmade)
  clear hmade hbm
  go_loopw [45] (fun i wr => ∃ t : Nat, t ≤ m ∧ i = .int .i64 t ∧ Hid (IntsAt wr N 0 ((spread (List.replicate n 0) (((R.zip d).take t).flatMap rowW)).map wrap64)) ∧ W2.grownBy wr (some N)) (fun i _ => m - (intOf i).toNat)
  case atStart => exact ⟨0, by omega, rfl, HMI, ⟨rfl, rfl, rfl, Nat.le_refl _, fun _ _ _ => rfl⟩⟩
  case round =>
    obtain ⟨t, ht, rfl, HI, hg⟩ := hrel
    by_cases hlt : t < m
    · have hdk : decide ((t : Int) < (m : Int)) = true := decide_eq_true (by omega)
      have htR : t < R.length := by rw [HL.out.1]; exact hlt
      have htd : t < d.length := by rw [HL.out.2]; exact hlt
      have hbw : Below w.heap.size w wr := HB2.out.grown hg HB2.out.size (fun k hk => by injection hk with hk; omega)
      obtain ⟨bR, oR, rfl, hbR, hcR⟩ := HV.out.get (by omega)
      obtain ⟨bD, oD, rfl, hbD, hcD⟩ := HX.out.cell (by omega)
      obtain ⟨q, cp, g0, gcap, gsh, gv, gw, gr⟩ := hcR t htR
      have dk := RX.keep hbw (hcD t htd)
      replace g0 := RX.keep hbw g0
      replace gv := RX.keep hbw gv
      replace gw := RX.keep hbw gw
      replace gr := RX.keep hbw gr
      have hrow := HG.out _ (List.getElem_mem htR)
      have hdb := HB.out _ (List.getElem_mem htd)
      have HSuc : Hid (((R.zip d).take (t + 1)).flatMap rowW = ((R.zip d).take t).flatMap rowW ++ rowW (R[t], d[t])) := Lib.hid (by
        have h9 := flat_succ (L := R.zip d) (k := t) rowW (by rw [List.length_zip]; omega)
        rw [List.getElem_zip] at h9
        exact h9)
      obtain ⟨r, hr⟩ : ∃ r, r = R[t] := ⟨_, rfl⟩
      obtain ⟨dv, hdv⟩ : ∃ dv, dv = d[t] := ⟨_, rfl⟩
      rw [← hr] at g0 gcap gsh gv gw gr hrow HSuc
      rw [← hdv] at dk hdb HSuc
      have hlen := hrow.len (by omega)
      have HSH := Lib.hid hrow.2.1
      have HG0 := Lib.hid gsh
      have ht0 : (0 : Int) ≤ (t : Int) := by omega
      have htI : (t : Int) < (m : Int) := by omega
      have hbRw : bR < wr.heap.size := World.block_lt_of_cell? _ _ g0
      have hbDw : bD < wr.heap.size := World.block_lt_of_cell? _ _ dk
      have hNw : N < wr.heap.size := World.block_lt_of_cell? _ _ (HI.out 0 (by rw [List.length_map, spread_len, List.length_replicate]; omega)).1
      have l1 : ¬ (N = wr.heap.size) := by omega
      have l2 : ¬ (bR = wr.heap.size) := by omega
      have l3 : ¬ (bD = N) := by have := hbD; omega
      have HBW := Lib.hid hbw
      have HROWL : Hid ((rowW (r, dv)).length = r.sh.length) := Lib.hid (by simp [rowW])
      clear hr hdv hcR hcD gsh hrow hbw
      go_wp2
      refine absW (F := fun w' => IntsAt w' N 0 ((spread (List.replicate n 0) (((R.zip d).take t).flatMap rowW)).map wrap64) ∧ Below wr.heap.size wr w' ∧ W2.grownBy w' (some N)) ⟨HI.out.alloc1 _, (by repeat (first | (with_reducible assumption) | (with_reducible exact Below.refl _ _) | (with_reducible refine Below.setCell ?_ (by first | omega | (simp; done) | (simp; omega)) _) | (with_reducible refine Below.alloc ?_ (by first | omega | (simp; done) | (simp; omega)) _) | (with_reducible apply Below.drew) | assumption)), hg.trans (World.grownBy_alloc _ _ _)⟩ ?_
      rintro W7 ⟨hI7, hb7, hg7⟩
      have HI7 := Lib.hid hI7
      have HG7 := Lib.hid hg7
      have HB7 : Hid (Below w.heap.size w W7) := Lib.hid (HBW.out.trans (hb7.mono HBW.out.size))
      have dk7 := RX.keep hb7 dk
      clear hI7 hb7 HI hg g0 gv gw gr dk hg7
      go_loopw [53] (fun i wx => ∃ j : Nat, j ≤ r.sh.length ∧ i = .int .i64 j ∧ Hid (IntsAt wx N 0 ((spread (List.replicate n 0) (((R.zip d).take t).flatMap rowW ++ (rowW (r, dv)).take j)).map wrap64)) ∧ W7.grownBy wx (some N)) (fun i _ => r.sh.length - (intOf i).toNat)
      case atStart => exact ⟨0, Nat.zero_le _, rfl, Lib.hid (by simpa using HI7.out), ⟨rfl, rfl, rfl, Nat.le_refl _, fun _ _ _ => rfl⟩⟩
      case round =>
        obtain ⟨j, hj, rfl, HI, hg⟩ := hrel
        by_cases hltj : j < r.sh.length
        · have hdj : decide ((j : Int) < (r.sh.length : Int)) = true := decide_eq_true (by omega)
          have hbw : Below w.heap.size w wr := HB7.out.grown hg HB7.out.size (fun k hk => by injection hk with hk; omega)
          obtain ⟨b, o, rfl, hbl, hcell⟩ := HG0.out.get (by omega)
          obtain ⟨e0, e1⟩ := hcell j hltj
          replace e0 := RX.keep hbw e0
          replace e1 := RX.keep hbw e1
          have dkr := hg.cell dk7 (by simp; exact l3)
          obtain ⟨⟨hc1, hc2⟩, hc3, hc4⟩ := HSH.out r.sh[j] (List.getElem_mem _)
          have HTK : Hid ((rowW (r, dv)).take (j + 1) = (rowW (r, dv)).take j ++ [(r.sh[j].1, r.sh[j].2 * dv)]) := Lib.hid (by
            rw [List.take_succ_eq_append_getElem (by rw [HROWL.out]; exact hltj)]
            simp only [rowW, List.getElem_map])
          obtain ⟨c, hce⟩ : ∃ c, c = r.sh[j] := ⟨_, rfl⟩
          rw [← hce] at e0 e1 hc1 hc2 hc3 hc4 HTK
          obtain ⟨x0, x1⟩ := c
          dsimp only at e0 e1 hc1 hc2 hc3 hc4 HTK
          obtain ⟨ia, rfl⟩ : ∃ ia : Nat, x0 = (ia : Int) := ⟨x0.toNat, by omega⟩
          have hia : ia < n := by omega
          have p1 := mulw_bd (w := x1) (by omega) hdb.1 hdb.2
          have p2 := Int.mul_le_mul_of_nonneg_right hc4 (show (0 : Int) ≤ 1099511627776 by omega)
          obtain ⟨v2, hv2⟩ : ∃ v2, x1 * dv = v2 := ⟨_, rfl⟩
          rw [hv2] at p1 HTK
          have p3 : -1000000000000000 ≤ x1 * dv ∧ x1 * dv ≤ 1000000000000000 := by rw [hv2]; omega
          obtain ⟨oo, ho⟩ : ∃ oo, oo = spread (List.replicate n 0) (((R.zip d).take t).flatMap rowW ++ (rowW (r, dv)).take j) := ⟨_, rfl⟩
          have hol : (oo.map wrap64).length = n := by rw [ho, List.length_map, spread_len, List.length_replicate]
          have HNEW : Hid (spread (List.replicate n 0) (((R.zip d).take t).flatMap rowW ++ (rowW (r, dv)).take (j + 1)) = addT oo ((ia : Int), v2)) := Lib.hid (by
            rw [HTK.out, ← List.append_assoc, spread_snoc, ← ho])
          rw [← ho] at HI
          obtain ⟨z, hz⟩ : ∃ z, z = oo.map wrap64 := ⟨_, rfl⟩
          rw [← hz] at hol HI
          have HZ1 : Hid (∀ u, u = z[ia]'(by omega) → (addT oo ((ia : Int), v2)).map wrap64 = z.set ia (wrap64 (u + v2))) := Lib.hid (fun u hu => by
            rw [addT_wrap, ← hz]
            dsimp only
            rw [Int.toNat_natCast, i64_get (by omega), hu])
          have hNw : N < wr.heap.size := World.block_lt_of_cell? _ _ (HI.out 0 (by omega)).1
          have hbn : b < wr.heap.size := World.block_lt_of_cell? _ _ e0
          have hj0 : (0 : Int) ≤ (j : Int) := by omega
          have hjI : (j : Int) < (r.sh.length : Int) := by omega
          have l6 : ¬ (b = wr.heap.size) := by omega
          have hia0 : (0 : Int) ≤ (ia : Int) := by omega
          have hiaI : (ia : Int) < (n : Int) := by omega
          clear hce hcell HTK hbw hz ho p1 p2
          go_wp2
          refine absW (F := fun w' => w'.cell? ⟨wr.heap.size, 0, none⟩ = some (.int .i64 (ia : Int)) ∧ w'.cell? ⟨wr.heap.size, 1, none⟩ = some (.int .i64 x1) ∧ w'.cell? ⟨bD, oD + t, none⟩ = some (.int .i64 dv) ∧ IntsAt w' N 0 z ∧ W7.grownBy w' (some N)) ⟨(by simp [RX.cell_drew, RX.cell_alloc, Nat.add_assoc]), (by simp [RX.cell_drew, RX.cell_alloc, Nat.add_assoc]), RX.keep ((Below.refl _ _).alloc (Nat.le_refl _) _) dkr, HI.out.alloc1 _, hg.trans (World.grownBy_alloc _ _ _)⟩ ?_
          rintro W5 ⟨f0, f1, f2, hI5, hg5⟩
          obtain ⟨k1, k2⟩ := hI5 ia (by omega)
          rw [Nat.zero_add] at k1 k2
          obtain ⟨u, hu⟩ : ∃ u, u = z[ia]'(by omega) := ⟨_, rfl⟩
          rw [← hu] at k1
          have hI6 : Hid (IntsAt (W5.setCell ⟨N, ia, none⟩ (.int .i64 (wrap64 (u + v2)))) N 0 ((spread (List.replicate n 0) (((R.zip d).take t).flatMap rowW ++ (rowW (r, dv)).take (j + 1))).map wrap64)) := Lib.hid (by
            have h9 := hI5.set ia (wrap64 (u + v2)); rw [Nat.zero_add] at h9
            rw [HNEW.out, HZ1.out u hu]; exact h9)
          clear hu hI5 HZ1 e0 e1 dkr HI hg HNEW
          refine RY.region RX.fN (fun w' => w'.cell? ⟨wr.heap.size, 0, none⟩ = some (.int .i64 (ia : Int)) ∧ w'.cell? ⟨wr.heap.size, 1, none⟩ = some (.int .i64 x1) ∧ w'.cell? ⟨bD, oD + t, none⟩ = some (.int .i64 dv) ∧ w'.cell? ⟨N, ia, none⟩ = some (.int .i64 u)) (by kernel_rfl) (by kernel_rfl) (⟨f0, f1, f2, k1⟩) (fun OPS HO QR hQR => ?_)
          repeat
            refine RY.step (fun R hR => ?_)
            first
            | (refine RY.one_skip (by first | rfl | (rw [HO.out]; rfl)) (by simp only [RX.put_some, RX.put_none, List.set_cons_zero, List.set_cons_succ]; rfl) ?_
               refine hR _ _ ?_; clear hR R)
            | (refine RY.one_move (by first | rfl | (rw [HO.out]; rfl)) rfl (by first | exact Or.inl rfl | exact Or.inr rfl) (by simp only [RX.eval_tmp, RX.eval_const, List.getD_cons_zero, List.getD_cons_succ]; rfl) (by simp only [RX.put_some, RX.put_none, List.set_cons_zero, List.set_cons_succ]; rfl) ?_
               refine hR _ _ ?_; clear hR R)
            | (refine RY.one_nil (by first | rfl | (rw [HO.out]; rfl)) rfl rfl (by simp only [RX.eval_tmp, RX.eval_const, List.getD_cons_zero, List.getD_cons_succ]; rfl) (by simp only [RX.put_some, RX.put_none, List.set_cons_zero, List.set_cons_succ]; rfl) ?_
               refine hR _ _ ?_; clear hR R)
            | (refine RY.one_float (by first | rfl | (rw [HO.out]; rfl)) rfl rfl rfl ?_
               apply Exists.intro; apply Exists.intro
               refine ⟨fun w' hS K hK => ?_, ?_, ?_⟩
               · obtain ⟨hS1, hS2, hS3, hS4⟩ := hS; go_wp2; exact hK _ _ (by simp only [RX.arr_getD, List.getD_cons_zero, List.getD_cons_succ]; first | exact RX.dec_t (by omega) | exact RX.dec_f (by omega) | exact RX.beq_t (by omega) | exact RX.beq_f (by omega) | exact RX.bne_t (by omega) | exact RX.bne_f (by omega) | exact RX.bneB _ | rfl) rfl
               · simp only [RX.put_some, RX.put_none, List.set_cons_zero, List.set_cons_succ]; rfl
               refine hR _ _ ?_; clear hR R)
          refine RY.step (fun R hR => ?_)
          refine RY.one_chain (by first | rfl | (rw [HO.out]; rfl)) rfl (fun K hK => ?_)
          go_wp2
          first | refine ⟨(by first | exact .inl rfl | exact .inl trivial | trivial), hR _ _ (RY.wpL_nil (hQR _ _ ?_))⟩ | refine hR _ _ (RY.wpL_nil (hQR _ _ ?_)) | refine hQR _ _ ?_
          (try clear hR); (try clear R); clear hQR QR HO OPS
          go_wp2
          go_roundw
          case rel => exact ⟨j + 1, by omega, by go_num, hI6, grown_drew (hg5.trans (grownBy_setCell _ _ _ _))⟩
          case measure => simp [intOf]; omega
        · have hdj : decide ((j : Int) < (r.sh.length : Int)) = false := decide_eq_false (by omega)
          obtain rfl : j = r.sh.length := by omega
          have HI2 : Hid (IntsAt wr N 0 ((spread (List.replicate n 0) (((R.zip d).take (t + 1)).flatMap rowW)).map wrap64)) := Lib.hid (by
            rw [HSuc.out]
            have e : (rowW (r, dv)).take r.sh.length = rowW (r, dv) := List.take_of_length_le (by rw [HROWL.out]; omega)
            rw [← e]; exact HI.out)
          have hgo := HG7.out.trans hg
          clear hg
          go_wp2
          go_roundw
          case rel => exact ⟨t + 1, by omega, by go_num, HI2, hgo⟩
          case measure => simp [intOf]; omega
    · have hdk : decide ((t : Int) < (m : Int)) = false := decide_eq_false (by omega)
      obtain rfl : t = m := by omega
      have HZ : Hid (IntsAt wr N 0 (transL n R d)) := Lib.hid (by
        have h := HI.out
        rw [List.take_of_length_le (by rw [List.length_zip]; have := HL.out.1; omega), ← HTR.out, wrap_map (HBI.out.mono (by omega))] at h
        exact h)
      go_wp2
      go_ret2
      exact ⟨N, rfl, HZ.out, HB2.out.grown hg HB2.out.size (fun k hk => by injection hk with hk; omega)⟩
set_option maxRecDepth 100000
end Go.Proofs.YtojkamfabapcoaaGreatDoor
