import Derived.Test.YtpbfgnffkhabnaaDoorKRefB
import Derived.Test.YtpbfgnffkhabnaaDoorShares
set_option linter.unusedSimpArgs false
set_option linter.unusedVariables false
namespace Go.Proofs.YtpbfgnffkhabnaaDoor
open Go.RowKit Go.Sort Go.Shelf Go.Grid

/-! The answers of both sides for any frequency and any place. -/
/-- A frequency and a place that exist. -/
def Good (k f a b c : Int) : Prop := (1 ≤ k ∧ k ≤ 8) ∧ ValidI f a b c
noncomputable instance (k f a b c : Int) : Decidable (Good k f a b c) := Classical.propDecidable _
theorem good_nat {k f a b c : Int} (h : Good k f a b c) : ∃ (n : Nat) (p : Pl), 1 ≤ n ∧ n ≤ 8 ∧ k = n ∧ p.Ok ∧ f = p.f ∧ a = p.a ∧ b = p.b ∧ c = p.c := by
  obtain ⟨⟨h1, h2⟩, h3⟩ := h
  unfold ValidI at h3
  exact ⟨k.toNat, ⟨f.toNat, a.toNat, b.toNat, c.toNat⟩, by omega, by omega, by omega, ⟨by show f.toNat < 20; omega, by show a.toNat + b.toNat + c.toNat = 840; omega⟩, by show f = (f.toNat : Int); omega, by show a = (a.toNat : Int); omega, by show b = (b.toNat : Int); omega, by show c = (c.toNat : Int); omega⟩
theorem good_of {n : Nat} (h1 : 1 ≤ n) (h8 : n ≤ 8) {p : Pl} (hp : p.Ok) : Good n p.f p.a p.b p.c := ⟨by omega, Ok.valid hp⟩
noncomputable def errI (k f a b c : Int) : Int := if Good k f a b c then 0 else 1
noncomputable def idxV (k f a b c : Int) : Int := if Good k f a b c then (((ix (nodesL k.toNat) (normal ⟨f.toNat, a.toNat, b.toNat, c.toNat⟩)).getD 0 : Nat) : Int) else 0
noncomputable def idxE (k f a b c : Int) : Int := if Good k f a b c then idxErr k.toNat ⟨f.toNat, a.toNat, b.toNat, c.toNat⟩ else 1
def LocOk (k f a b c : Int) (T : List (Nat × Nat)) : Prop := if Good k f a b c then IsLoc k.toNat ⟨f.toNat, a.toNat, b.toNat, c.toNat⟩ T else T = []
theorem LocOk.unique {k f a b c : Int} {S T : List (Nat × Nat)} (h1 : LocOk k f a b c S) (h2 : LocOk k f a b c T) : S = T := by
  unfold LocOk at h1 h2
  split at h1
  · rename_i h; rw [if_pos h] at h2; exact h1.unique h2
  · rename_i h; rw [if_neg h] at h2; rw [h1, h2]
theorem LocOk.nat {n : Nat} (h1 : 1 ≤ n) (h8 : n ≤ 8) {p : Pl} (hp : p.Ok) {T : List (Nat × Nat)} : LocOk n p.f p.a p.b p.c T ↔ IsLoc n p T := by
  unfold LocOk
  rw [if_pos (good_of h1 h8 hp)]
  rfl
theorem LocOk.le {k f a b c : Int} {T : List (Nat × Nat)} (h : LocOk k f a b c T) : T.length ≤ 3 := by
  unfold LocOk at h
  split at h
  · rw [h.1.length_eq]; unfold locRaw
    rw [List.length_map]
    refine Nat.le_trans (List.length_filter_le _ _) ?_
    unfold locAll; dsimp only
    split
    · simp
    · split <;> simp
  · rw [h]; simp
noncomputable def nearV (k f a b c : Int) (T : List (Nat × Nat)) : Int := if Good k f a b c then ((best T).1 : Int) else 0
/-- A readable list of shares. -/
def ShVal (w : World) (v : Value) (T : List (Nat × Nat)) : Prop := ∃ p cap, v = .slice p T.length cap ∧ T.length ≤ cap ∧ SharesIn w p T
theorem ShVal.nil (w : World) : ShVal w (.slice none 0 0) [] := ⟨none, 0, rfl, Nat.le_refl _, 0, fun h => by simp at h, fun k h => by simp at h⟩
theorem ShVal.kept {w w' : World} {v : Value} {T : List (Nat × Nat)} (h : ShVal w v T) (hb : Below w.heap.size w w') : ShVal w' v T := by
  obtain ⟨p, cap, h1, h2, b, h3, h4⟩ := h
  exact ⟨p, cap, h1, h2, b, h3, fun k hk => ⟨RX.keep hb (h4 k hk).1, RX.keep hb (h4 k hk).2⟩⟩

set_option maxRecDepth 100000
set_option maxHeartbeats 1000000
theorem freq_bad {k f a b c : Int} (h : ¬ Good k f a b c) : ¬ (1 ≤ k ∧ k ≤ 8) ∨ ((1 ≤ k ∧ k ≤ 8) ∧ ¬ ValidI f a b c) := by
  unfold Good at h
  by_cases h1 : 1 ≤ k ∧ k ≤ 8
  · exact .inr ⟨h1, fun h2 => h ⟨h1, h2⟩⟩
  · exact .inl h1
theorem gindexT_bad (k f a b c : Int) (w : World) (h : ¬ Good k f a b c) : Calls Tryd.prog 16 #[.int .i64 k, .agg #[.int .i64 f, .int .i64 a, .int .i64 b, .int .i64 c]] w fun e w' => e = .returned (.tuple #[.int .i64 0, .int .i64 1]) ∧ Below w.heap.size w w' := by
  rcases freq_bad h with hf | ⟨hf, hv⟩
  · go_enter Tryd.func16, Tryd.ntmps16
    go_wp2_with fail
    refine (freq_any k _).mono ?_
    rintro e w1 ⟨rfl, rfl⟩
    rw [freqB_f hf]
    go_wp2
    go_ret2
    exact ⟨rfl, (by repeat (first | (with_reducible assumption) | (with_reducible exact Below.refl _ _) | (with_reducible refine Below.setCell ?_ (by first | omega | (simp; done) | (simp; omega)) _) | (with_reducible refine Below.alloc ?_ (by first | omega | (simp; done) | (simp; omega)) _) | (with_reducible apply Below.drew) | assumption))⟩
  · have hV : validB f a b c = false := decide_eq_false hv
    go_enter Tryd.func16, Tryd.ntmps16
    go_wp2_with fail
    refine (freq_any k _).mono ?_
    rintro e w1 ⟨rfl, rfl⟩
    rw [freqB_t hf]
    go_wp2_with fail
    refine (valid_any f a b c _).mono ?_
    rintro e w1 ⟨rfl, hb1⟩
    rw [hV]
    have HB := Lib.hid (Below.trans (show Below w.heap.size w (w.alloc (.cells #[.int .i64 f, .int .i64 a, .int .i64 b, .int .i64 c] 23)) from (by repeat (first | (with_reducible assumption) | (with_reducible exact Below.refl _ _) | (with_reducible refine Below.setCell ?_ (by first | omega | (simp; done) | (simp; omega)) _) | (with_reducible refine Below.alloc ?_ (by first | omega | (simp; done) | (simp; omega)) _) | (with_reducible apply Below.drew) | assumption))) (hb1.mono (by simp)))
    clear hb1
    go_wp2
    go_ret2
    exact ⟨rfl, HB.out⟩
theorem glocateT_bad (k f a b c : Int) (w : World) (h : ¬ Good k f a b c) : Calls Tryd.prog 18 #[.int .i64 k, .agg #[.int .i64 f, .int .i64 a, .int .i64 b, .int .i64 c]] w fun e w' => e = .returned (.tuple #[.slice none 0 0, .int .i64 1]) ∧ Below w.heap.size w w' := by
  rcases freq_bad h with hf | ⟨hf, hv⟩
  · go_enter Tryd.func18, Tryd.ntmps18
    go_wp2_with fail
    refine (freq_any k _).mono ?_
    rintro e w1 ⟨rfl, rfl⟩
    rw [freqB_f hf]
    go_wp2
    go_ret2
    exact ⟨rfl, (by repeat (first | (with_reducible assumption) | (with_reducible exact Below.refl _ _) | (with_reducible refine Below.setCell ?_ (by first | omega | (simp; done) | (simp; omega)) _) | (with_reducible refine Below.alloc ?_ (by first | omega | (simp; done) | (simp; omega)) _) | (with_reducible apply Below.drew) | assumption))⟩
  · have hV : validB f a b c = false := decide_eq_false hv
    go_enter Tryd.func18, Tryd.ntmps18
    go_wp2_with fail
    refine (freq_any k _).mono ?_
    rintro e w1 ⟨rfl, rfl⟩
    rw [freqB_t hf]
    go_wp2_with fail
    refine (valid_any f a b c _).mono ?_
    rintro e w1 ⟨rfl, hb1⟩
    rw [hV]
    have HB := Lib.hid (Below.trans (show Below w.heap.size w (w.alloc (.cells #[.int .i64 f, .int .i64 a, .int .i64 b, .int .i64 c] 23)) from (by repeat (first | (with_reducible assumption) | (with_reducible exact Below.refl _ _) | (with_reducible refine Below.setCell ?_ (by first | omega | (simp; done) | (simp; omega)) _) | (with_reducible refine Below.alloc ?_ (by first | omega | (simp; done) | (simp; omega)) _) | (with_reducible apply Below.drew) | assumption))) (hb1.mono (by simp)))
    clear hb1
    go_wp2
    go_ret2
    exact ⟨rfl, HB.out⟩
theorem gnearestT_bad (k f a b c : Int) (w : World) (h : ¬ Good k f a b c) : Calls Tryd.prog 20 #[.int .i64 k, .agg #[.int .i64 f, .int .i64 a, .int .i64 b, .int .i64 c]] w fun e w' => e = .returned (.tuple #[.int .i64 0, .int .i64 1]) ∧ Below w.heap.size w w' := by
  rcases freq_bad h with hf | ⟨hf, hv⟩
  · go_enter Tryd.func20, Tryd.ntmps20
    go_wp2_with fail
    refine (freq_any k _).mono ?_
    rintro e w1 ⟨rfl, rfl⟩
    rw [freqB_f hf]
    go_wp2
    go_ret2
    exact ⟨rfl, (by repeat (first | (with_reducible assumption) | (with_reducible exact Below.refl _ _) | (with_reducible refine Below.setCell ?_ (by first | omega | (simp; done) | (simp; omega)) _) | (with_reducible refine Below.alloc ?_ (by first | omega | (simp; done) | (simp; omega)) _) | (with_reducible apply Below.drew) | assumption))⟩
  · have hV : validB f a b c = false := decide_eq_false hv
    go_enter Tryd.func20, Tryd.ntmps20
    go_wp2_with fail
    refine (freq_any k _).mono ?_
    rintro e w1 ⟨rfl, rfl⟩
    rw [freqB_t hf]
    go_wp2_with fail
    refine (valid_any f a b c _).mono ?_
    rintro e w1 ⟨rfl, hb1⟩
    rw [hV]
    have HB := Lib.hid (Below.trans (show Below w.heap.size w (w.alloc (.cells #[.int .i64 f, .int .i64 a, .int .i64 b, .int .i64 c] 23)) from (by repeat (first | (with_reducible assumption) | (with_reducible exact Below.refl _ _) | (with_reducible refine Below.setCell ?_ (by first | omega | (simp; done) | (simp; omega)) _) | (with_reducible refine Below.alloc ?_ (by first | omega | (simp; done) | (simp; omega)) _) | (with_reducible apply Below.drew) | assumption))) (hb1.mono (by simp)))
    clear hb1
    go_wp2
    go_ret2
    exact ⟨rfl, HB.out⟩
theorem rlocateT_bad (k f a b c : Int) (w : World) (h : ¬ Good k f a b c) : Calls Tryd.prog 19 #[.int .i64 k, .agg #[.int .i64 f, .int .i64 a, .int .i64 b, .int .i64 c]] w fun e w' => e = .returned (.tuple #[.slice none 0 0, .int .i64 1]) ∧ Below w.heap.size w w' := by
  by_cases hf : 1 ≤ k ∧ k ≤ 8
  · have hV : validB f a b c = false := decide_eq_false (fun hv => h ⟨hf, hv⟩)
    obtain ⟨d, hdE, hd0⟩ : ∃ d : Int, countI k = d ∧ (d == 0) = false := ⟨_, rfl, by
      obtain ⟨n, rfl⟩ : ∃ n : Nat, k = n := ⟨k.toNat, by omega⟩
      exact (countI_nat (n := n) (by omega) (by omega)).2.1⟩
    have HD := Lib.hid hdE
    clear hdE h
    go_enter Tryd.func19, Tryd.ntmps19
    go_wp2_with fail
    refine (rcount_any k _).mono ?_
    rintro e w1 ⟨rfl, rfl⟩
    rw [HD.out]
    go_wp2_with fail
    refine (rvalid_any f a b c _).mono ?_
    rintro e w1 ⟨rfl, hb1⟩
    rw [hV]
    have HB := Lib.hid (Below.trans (show Below w.heap.size w (w.alloc (.cells #[.int .i64 f, .int .i64 a, .int .i64 b, .int .i64 c] 23)) from (by repeat (first | (with_reducible assumption) | (with_reducible exact Below.refl _ _) | (with_reducible refine Below.setCell ?_ (by first | omega | (simp; done) | (simp; omega)) _) | (with_reducible refine Below.alloc ?_ (by first | omega | (simp; done) | (simp; omega)) _) | (with_reducible apply Below.drew) | assumption))) (hb1.mono (by simp)))
    clear hb1
    go_wp2
    go_ret2
    exact ⟨rfl, HB.out⟩
  · have hd : countI k = 0 := by unfold countI; rw [if_neg hf]
    have HD := Lib.hid hd
    clear hd h
    go_enter Tryd.func19, Tryd.ntmps19
    go_wp2_with fail
    refine (rcount_any k _).mono ?_
    rintro e w1 ⟨rfl, rfl⟩
    rw [HD.out]
    go_wp2
    go_ret2
    exact ⟨rfl, (by repeat (first | (with_reducible assumption) | (with_reducible exact Below.refl _ _) | (with_reducible refine Below.setCell ?_ (by first | omega | (simp; done) | (simp; omega)) _) | (with_reducible refine Below.alloc ?_ (by first | omega | (simp; done) | (simp; omega)) _) | (with_reducible apply Below.drew) | assumption))⟩
theorem rnearestT_bad (k f a b c : Int) (w : World) (h : ¬ Good k f a b c) : Calls Tryd.prog 21 #[.int .i64 k, .agg #[.int .i64 f, .int .i64 a, .int .i64 b, .int .i64 c]] w fun e w' => e = .returned (.tuple #[.int .i64 0, .int .i64 1]) ∧ Below w.heap.size w w' := by
  go_enter Tryd.func21, Tryd.ntmps21
  go_wp2_with fail
  refine (rlocateT_bad k f a b c _ h).mono ?_
  rintro e w1 ⟨rfl, hb1⟩
  have HB := Lib.hid (Below.trans (show Below w.heap.size w (w.alloc (.cells #[.int .i64 f, .int .i64 a, .int .i64 b, .int .i64 c] 23)) from (by repeat (first | (with_reducible assumption) | (with_reducible exact Below.refl _ _) | (with_reducible refine Below.setCell ?_ (by first | omega | (simp; done) | (simp; omega)) _) | (with_reducible refine Below.alloc ?_ (by first | omega | (simp; done) | (simp; omega)) _) | (with_reducible apply Below.drew) | assumption))) (hb1.mono (by simp)))
  clear hb1 h
  go_wp2
  go_ret2
  exact ⟨rfl, HB.out⟩
theorem rindexT_bad (k f a b c : Int) (w : World) (h : ¬ Good k f a b c) : Calls Tryd.prog 17 #[.int .i64 k, .agg #[.int .i64 f, .int .i64 a, .int .i64 b, .int .i64 c]] w fun e w' => e = .returned (.tuple #[.int .i64 0, .int .i64 1]) ∧ Below w.heap.size w w' := by
  by_cases hv : ValidI f a b c
  · have hf : ¬ (1 ≤ k ∧ k ≤ 8) := fun hf => h ⟨hf, hv⟩
    have hd : countI k = 0 := by unfold countI; rw [if_neg hf]
    have HD := Lib.hid hd
    obtain ⟨p, hp, rfl, rfl, rfl, rfl⟩ : ∃ p : Pl, p.Ok ∧ f = p.f ∧ a = p.a ∧ b = p.b ∧ c = p.c := by
      obtain ⟨_, p, _, _, _, h1, h2⟩ := good_nat (k := 1) ⟨⟨by omega, by omega⟩, hv⟩
      exact ⟨p, h1, h2⟩
    have HP := Lib.hid hp
    have hpv : Hid (pv p = .agg #[.int .i64 p.f, .int .i64 p.a, .int .i64 p.b, .int .i64 p.c]) := Lib.hid rfl
    clear hd h hf hv hp
    go_enter Tryd.func17, Tryd.ntmps17
    go_wp2_with fail
    rw [← hpv.out]
    refine (rnormal_any p HP.out _).mono ?_
    rintro e w1 ⟨rfl, hb1⟩
    have hB := Below.trans (show Below w.heap.size w (w.alloc (.cells #[.int .i64 p.f, .int .i64 p.a, .int .i64 p.b, .int .i64 p.c] 23)) from (by repeat (first | (with_reducible assumption) | (with_reducible exact Below.refl _ _) | (with_reducible refine Below.setCell ?_ (by first | omega | (simp; done) | (simp; omega)) _) | (with_reducible refine Below.alloc ?_ (by first | omega | (simp; done) | (simp; omega)) _) | (with_reducible apply Below.drew) | assumption))) (hb1.mono (by simp))
    clear hb1
    obtain ⟨q, hq⟩ : ∃ q, q = normal p := ⟨_, rfl⟩
    rw [← hq]
    clear hq
    unfold pv
    have hBs := hB.size
    go_wp2_with fail
    refine (rcount_any k _).mono ?_
    rintro e w2 ⟨rfl, rfl⟩
    rw [HD.out]
    go_wp2
    go_ret2
    exact ⟨rfl, (by repeat (first | (with_reducible assumption) | (with_reducible exact Below.refl _ _) | (with_reducible refine Below.setCell ?_ (by first | omega | (simp; done) | (simp; omega)) _) | (with_reducible refine Below.alloc ?_ (by first | omega | (simp; done) | (simp; omega)) _) | (with_reducible apply Below.drew) | assumption))⟩
  · go_enter Tryd.func17, Tryd.ntmps17
    go_wp2_with fail
    refine (rnormal_no f a b c _ hv).mono ?_
    rintro e w1 ⟨rfl, hb1⟩
    have hB := Below.trans (show Below w.heap.size w (w.alloc (.cells #[.int .i64 f, .int .i64 a, .int .i64 b, .int .i64 c] 23)) from (by repeat (first | (with_reducible assumption) | (with_reducible exact Below.refl _ _) | (with_reducible refine Below.setCell ?_ (by first | omega | (simp; done) | (simp; omega)) _) | (with_reducible refine Below.alloc ?_ (by first | omega | (simp; done) | (simp; omega)) _) | (with_reducible apply Below.drew) | assumption))) (hb1.mono (by simp))
    clear hb1
    have hBs := hB.size
    go_wp2_with fail
    refine (rcount_any k _).mono ?_
    rintro e w2 ⟨rfl, rfl⟩
    generalize countI k = d
    by_cases hd : d = 0
    · subst hd
      go_wp2
      go_ret2
      exact ⟨rfl, (by repeat (first | (with_reducible assumption) | (with_reducible exact Below.refl _ _) | (with_reducible refine Below.setCell ?_ (by first | omega | (simp; done) | (simp; omega)) _) | (with_reducible refine Below.alloc ?_ (by first | omega | (simp; done) | (simp; omega)) _) | (with_reducible apply Below.drew) | assumption))⟩
    · have hdb : (d == 0) = false := by rw [beq_eq_false_iff_ne]; exact hd
      clear hd
      go_wp2
      go_ret2
      exact ⟨rfl, (by repeat (first | (with_reducible assumption) | (with_reducible exact Below.refl _ _) | (with_reducible refine Below.setCell ?_ (by first | omega | (simp; done) | (simp; omega)) _) | (with_reducible refine Below.alloc ?_ (by first | omega | (simp; done) | (simp; omega)) _) | (with_reducible apply Below.drew) | assumption))⟩

/-! The six answers, said once for all arguments. -/
theorem gindexT (k f a b c : Int) (w : World) (hT : HasTab w) : Calls Tryd.prog 16 #[.int .i64 k, .agg #[.int .i64 f, .int .i64 a, .int .i64 b, .int .i64 c]] w fun e w' => e = .returned (.tuple #[.int .i64 (idxV k f a b c), .int .i64 (idxE k f a b c)]) ∧ Below w.heap.size w w' := by
  by_cases h : Good k f a b c
  · obtain ⟨n, p, h1, h8, rfl, hp, rfl, rfl, rfl, rfl⟩ := good_nat h
    have e1 : idxV n p.f p.a p.b p.c = (((ix (nodesL n) (normal p)).getD 0 : Nat) : Int) := by unfold idxV; rw [if_pos h]; rfl
    have e2 : idxE n p.f p.a p.b p.c = idxErr n p := by unfold idxE; rw [if_pos h]; rfl
    rw [e1, e2]
    exact gindex_any n h1 h8 p hp w hT
  · have e1 : idxV k f a b c = 0 := by unfold idxV; rw [if_neg h]
    have e2 : idxE k f a b c = 1 := by unfold idxE; rw [if_neg h]
    rw [e1, e2]
    exact gindexT_bad k f a b c w h
theorem rindexT (k f a b c : Int) (w : World) : Calls Tryd.prog 17 #[.int .i64 k, .agg #[.int .i64 f, .int .i64 a, .int .i64 b, .int .i64 c]] w fun e w' => e = .returned (.tuple #[.int .i64 (idxV k f a b c), .int .i64 (idxE k f a b c)]) ∧ Below w.heap.size w w' := by
  by_cases h : Good k f a b c
  · obtain ⟨n, p, h1, h8, rfl, hp, rfl, rfl, rfl, rfl⟩ := good_nat h
    have e1 : idxV n p.f p.a p.b p.c = (((ix (nodesL n) (normal p)).getD 0 : Nat) : Int) := by unfold idxV; rw [if_pos h]; rfl
    have e2 : idxE n p.f p.a p.b p.c = idxErr n p := by unfold idxE; rw [if_pos h]; rfl
    rw [e1, e2]
    exact rindex_any n h1 h8 p hp w
  · have e1 : idxV k f a b c = 0 := by unfold idxV; rw [if_neg h]
    have e2 : idxE k f a b c = 1 := by unfold idxE; rw [if_neg h]
    rw [e1, e2]
    exact rindexT_bad k f a b c w h
theorem glocateT (k f a b c : Int) (w : World) (hT : HasTab w) : Calls Tryd.prog 18 #[.int .i64 k, .agg #[.int .i64 f, .int .i64 a, .int .i64 b, .int .i64 c]] w fun e w' => ∃ v T, e = .returned (.tuple #[v, .int .i64 (errI k f a b c)]) ∧ ShVal w' v T ∧ LocOk k f a b c T ∧ Below w.heap.size w w' := by
  by_cases h : Good k f a b c
  · obtain ⟨n, p, h1, h8, rfl, hp, rfl, rfl, rfl, rfl⟩ := good_nat h
    refine (glocate_any n h1 h8 p hp w hT).mono ?_
    rintro e w' ⟨bb, cap, S, hS, rfl, hc, hat, hb⟩
    exact ⟨_, S, by unfold errI; rw [if_pos h], ⟨_, cap, rfl, hc, bb, fun _ => rfl, hat⟩, (LocOk.nat h1 h8 hp).2 hS, hb⟩
  · refine (glocateT_bad k f a b c w h).mono ?_
    rintro e w' ⟨rfl, hb⟩
    exact ⟨_, [], by unfold errI; rw [if_neg h], ShVal.nil _, by unfold LocOk; rw [if_neg h], hb⟩
theorem rlocateT (k f a b c : Int) (w : World) : Calls Tryd.prog 19 #[.int .i64 k, .agg #[.int .i64 f, .int .i64 a, .int .i64 b, .int .i64 c]] w fun e w' => ∃ v T, e = .returned (.tuple #[v, .int .i64 (errI k f a b c)]) ∧ ShVal w' v T ∧ LocOk k f a b c T ∧ Below w.heap.size w w' := by
  by_cases h : Good k f a b c
  · obtain ⟨n, p, h1, h8, rfl, hp, rfl, rfl, rfl, rfl⟩ := good_nat h
    refine (rlocate_any n h1 h8 p hp w).mono ?_
    rintro e w' ⟨v, S, rfl, hrow, hS, hb⟩
    obtain ⟨q, cap, bb, rfl, hc, hpos, hat, _⟩ := hrow.form
    exact ⟨_, S, by unfold errI; rw [if_pos h], ⟨_, cap, rfl, hc, bb, fun h0 => (hpos h0).1, hat⟩, (LocOk.nat h1 h8 hp).2 hS, hb⟩
  · refine (rlocateT_bad k f a b c w h).mono ?_
    rintro e w' ⟨rfl, hb⟩
    exact ⟨_, [], by unfold errI; rw [if_neg h], ShVal.nil _, by unfold LocOk; rw [if_neg h], hb⟩
theorem gnearestT (k f a b c : Int) (w : World) (hT : HasTab w) : Calls Tryd.prog 20 #[.int .i64 k, .agg #[.int .i64 f, .int .i64 a, .int .i64 b, .int .i64 c]] w fun e w' => ∃ T, e = .returned (.tuple #[.int .i64 (nearV k f a b c T), .int .i64 (errI k f a b c)]) ∧ LocOk k f a b c T ∧ Below w.heap.size w w' := by
  by_cases h : Good k f a b c
  · obtain ⟨n, p, h1, h8, rfl, hp, rfl, rfl, rfl, rfl⟩ := good_nat h
    refine (gnearest_any n h1 h8 p hp w hT).mono ?_
    rintro e w' ⟨S, hS, rfl, hb⟩
    exact ⟨S, by unfold errI nearV; rw [if_pos h, if_pos h], (LocOk.nat h1 h8 hp).2 hS, hb⟩
  · refine (gnearestT_bad k f a b c w h).mono ?_
    rintro e w' ⟨rfl, hb⟩
    exact ⟨[], by unfold errI nearV; rw [if_neg h, if_neg h], by unfold LocOk; rw [if_neg h], hb⟩
theorem rnearestT (k f a b c : Int) (w : World) : Calls Tryd.prog 21 #[.int .i64 k, .agg #[.int .i64 f, .int .i64 a, .int .i64 b, .int .i64 c]] w fun e w' => ∃ T, e = .returned (.tuple #[.int .i64 (nearV k f a b c T), .int .i64 (errI k f a b c)]) ∧ LocOk k f a b c T ∧ Below w.heap.size w w' := by
  by_cases h : Good k f a b c
  · obtain ⟨n, p, h1, h8, rfl, hp, rfl, rfl, rfl, rfl⟩ := good_nat h
    refine (rnearest_any n h1 h8 p hp w).mono ?_
    rintro e w' ⟨S, rfl, hS, hb⟩
    exact ⟨S, by unfold errI nearV; rw [if_pos h, if_pos h], (LocOk.nat h1 h8 hp).2 hS, hb⟩
  · refine (rnearestT_bad k f a b c w h).mono ?_
    rintro e w' ⟨rfl, hb⟩
    exact ⟨[], by unfold errI nearV; rw [if_neg h, if_neg h], by unfold LocOk; rw [if_neg h], hb⟩
end Go.Proofs.YtpbfgnffkhabnaaDoor
