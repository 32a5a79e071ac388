import Derived.Test.YtojkamfabapcoaaGreatDoorVecs
import Derived.Test.YtojkamfabapcoaaGreatDoorKCost
import Derived.Test.YtojkamfabapcoaaGreatDoorKRadius
import Derived.Test.YtojkamfabapcoaaGreatDoorKDot
import Derived.Test.YtojkamfabapcoaaGreatDoorRg
import Derived.Deep.DeepCutAuto
set_option linter.unusedSimpArgs false
set_option linter.unusedVariables false
namespace Go.Proofs.YtojkamfabapcoaaGreatDoor
open Go.RowKit Go.Grid

/-! slices.IndexFunc and ContainsFunc at []int, at whatever test. -/
set_option maxRecDepth 100000 in
set_option maxHeartbeats 1000000 in
theorem index_int (p : Option Addr) (L : List Int) (cap n : Nat) (w : World) (hl : L.length = n) (hV : VecAt w p L) (hn : n ≤ 1000000000) (g : FuncId) (t : Int → Bool)
    (hen : ∀ args w, (callFunc g args).run Tryz.prog w = .ok (.enter g args) w)
    (hq : ∀ x ∈ L, ∀ w', Below w.heap.size w w' → Calls Tryz.prog g #[.int .i64 x] w' fun e w'' => e = .returned (.bool (t x)) ∧ Below w'.heap.size w' w'') :
    Calls Tryz.prog 118 #[.slice p n cap, .func (.func g) #[] #[]] w fun e w' => ∃ r : Int, e = .returned (.int .i64 r) ∧ -1 ≤ r ∧ decide (0 ≤ r) = L.any t ∧ Below w.heap.size w w' := by
  have HQ := Lib.hid hq
  have HV := Lib.hid hV
  have HL := Lib.hid hl
  clear hq hV hl
  go_enter Tryz.func118, Tryz.ntmps118
  go_wp2
  go_loopw [8] (fun a wr => ∃ k : Nat, k ≤ n ∧ a = .int .i64 (k : Int) ∧ Hid (∀ j (hj : j < k) (h : j < L.length), t L[j] = false) ∧ Below w.heap.size w wr) (fun a _ => n - (intOf a).toNat)
  case atStart => exact ⟨0, Nat.zero_le _, rfl, Lib.hid fun j hj => by omega, Below.refl _ _⟩
  case round =>
    obtain ⟨k, hk, rfl, HI, hb⟩ := hrel
    by_cases hlt : k < n
    · have hltL : k < L.length := by rw [HL.out]; exact hlt
      obtain ⟨b, o, rfl, hbl, hcell⟩ := HV.out.cell (by omega)
      have ck := RX.keep hb (hcell k hltL)
      have hdk : decide ((k : Int) < (n : Int)) = true := decide_eq_true (by omega)
      have hk0 : (0 : Int) ≤ (k : Int) := by omega
      have hkI : (k : Int) < (n : Int) := by omega
      have HK := Lib.hid (HQ.out L[k] (List.getElem_mem _) wr hb)
      obtain ⟨x, hx⟩ : ∃ x, x = L[k] := ⟨_, rfl⟩
      rw [← hx] at ck HK
      have HX := Lib.hid hx
      clear hx hcell
      go_wp2_with fail
      refine HK.out.mono ?_
      rintro e w1 ⟨rfl, hb1⟩
      have hb2 : Below w.heap.size w w1 := hb.trans (hb1.mono hb.size)
      clear hb hb1 HK ck
      cases he : t x
      · have HE := Lib.hid he
        clear he
        go_wp2
        go_roundw
        case rel => exact ⟨k + 1, by omega, by go_num, Lib.hid fun j hj hd => by
          by_cases hjk : j = k
          · subst hjk; rw [← HX.out]; exact HE.out
          · exact HI.out j (by omega) hd, hb2⟩
        case measure => simp [intOf]; omega
      · have HE := Lib.hid he
        clear he
        go_wp2
        go_ret
        refine ⟨(k : Int), rfl, by omega, ?_, hb2⟩
        have h1 : L.any t = true := List.any_eq_true.2 ⟨L[k], List.getElem_mem _, by rw [← HX.out]; exact HE.out⟩
        rw [h1]; exact decide_eq_true (by omega)
    · obtain rfl : k = n := by omega
      have hdk : decide ((k : Int) < (k : Int)) = false := decide_eq_false (by omega)
      go_wp2
      go_ret
      refine ⟨-1, rfl, by omega, ?_, hb⟩
      have h1 : L.any t = false := List.any_eq_false.2 (fun x hx => by
        obtain ⟨j, hj, rfl⟩ := List.getElem_of_mem hx
        rw [HI.out j (by rw [HL.out] at hj; exact hj) hj]; simp)
      rw [h1]; rfl
set_option maxRecDepth 100000 in
set_option maxHeartbeats 1000000 in
theorem contains_int (p : Option Addr) (L : List Int) (cap n : Nat) (w : World) (hl : L.length = n) (hV : VecAt w p L) (hn : n ≤ 1000000000) (g : FuncId) (t : Int → Bool)
    (hen : ∀ args w, (callFunc g args).run Tryz.prog w = .ok (.enter g args) w)
    (hq : ∀ x ∈ L, ∀ w', Below w.heap.size w w' → Calls Tryz.prog g #[.int .i64 x] w' fun e w'' => e = .returned (.bool (t x)) ∧ Below w'.heap.size w' w'') :
    Calls Tryz.prog 90 #[.slice p n cap, .func (.func g) #[] #[]] w fun e w' => e = .returned (.bool (L.any t)) ∧ Below w.heap.size w w' := by
  have HI := Lib.hid (index_int p L cap n w hl hV hn g t hen hq)
  clear hl hV hq hen
  go_enter Tryz.func90, Tryz.ntmps90
  go_wp2_with fail
  refine HI.out.mono ?_
  rintro e w1 ⟨r, rfl, hr, hd, hb⟩
  clear HI
  by_cases h0 : 0 ≤ r
  · have h1 : L.any t = true := by rw [← hd]; exact decide_eq_true h0
    have H1 := Lib.hid h1
    clear hd h1
    go_wp2
    go_ret
    exact ⟨by rw [H1.out]; simp [h0], hb⟩
  · have h1 : L.any t = false := by rw [← hd]; exact decide_eq_false h0
    have H1 := Lib.hid h1
    clear hd h1
    go_wp2
    go_ret
    exact ⟨by rw [H1.out]; simp [h0], hb⟩
end Go.Proofs.YtojkamfabapcoaaGreatDoor

set_option linter.unusedSimpArgs false
set_option linter.unusedVariables false
namespace Go.Proofs.YtojkamfabapcoaaGreatDoor
open Go.RowKit Go.Grid

/-! Certificates, in plain words. -/
theorem cs_lin (a : Int) : ∀ u v : List Int, u.length = v.length → 2 * (a * dotL u v) ≤ dotL v v + a * (a * dotL u u)
  | [], [], _ => by simp [dotL]
  | x :: u, y :: v, h => by
    have ih := cs_lin a u v (by simpa using h)
    have h1 := sq_nn (y - a * x)
    have p1 : y * (a * x) = a * (x * y) := by rw [Int.mul_left_comm, Int.mul_comm y x]
    have p2 : a * x * y = a * (x * y) := Int.mul_assoc _ _ _
    have p3 : a * x * (a * x) = a * (a * (x * x)) := by rw [Int.mul_assoc, Int.mul_left_comm x a x]
    rw [Int.sub_mul, Int.mul_sub, Int.mul_sub, p1, p2, p3] at h1
    have e1 : dotL (x :: u) (y :: v) = x * y + dotL u v := rfl
    have e2 : dotL (y :: v) (y :: v) = y * y + dotL v v := rfl
    have e3 : dotL (x :: u) (x :: u) = x * x + dotL u u := rfl
    rw [e1, e2, e3]
    simp only [Int.mul_add]
    omega
theorem cert_plain {S : Sy} (h : SyOk S) {u : List Int} (hu : u.length = S.n) : S.a * (S.a * dotL u u) ≤ dotL (multL S u) (multL S u) := by
  have h1 := form_ge h hu
  have h2 := cs_lin S.a u (multL S u) (by rw [multL_len])
  rw [dotL_comm u] at h2
  have ha : 0 ≤ S.a := by have := h.1; unfold PrOk at this; omega
  have h3 := Int.mul_le_mul_of_nonneg_left h1 ha
  omega
/-- A certificate holds. -/
theorem cert_radius {S : Sy} (h : SyOk S) {u : List Int} (hu : u.length = S.n) {r : Nat} (he : enough (dotL (multL S u) (multL S u)) S.a r = true) : dotL u u ≤ (r : Int) * r := by
  have ha : 0 < S.a := by have := h.1; unfold PrOk at this; omega
  unfold enough at he
  rw [decide_eq_true_eq] at he
  have h1 := cert_plain h hu
  have e : (r : Int) * S.a * (r * S.a) = S.a * (S.a * ((r : Int) * r)) := by
    rw [Int.mul_comm (r : Int) S.a, Int.mul_assoc, Int.mul_left_comm (r : Int) S.a]
  rw [e] at he
  exact Int.le_of_mul_le_mul_left (Int.le_of_mul_le_mul_left (Int.le_trans h1 he) ha) ha
theorem lessL_addL : ∀ A B : List Int, A.length = B.length → lessL (addL A B) A = B
  | [], [], _ => rfl
  | a :: A, b :: B, h => by
    have ih := lessL_addL A B (by simpa using h)
    simp only [lessL, addL, List.zipWith_cons_cons] at ih ⊢
    rw [ih]; congr 1; omega
theorem subL_len {x y : List Int} (h : x.length = y.length) : (subL x y).length = x.length := by simp [subL]; omega
theorem mult_less {S : Sy} (h : SyOk S) {t x : List Int} (ht : t.length = S.n) (hx : x.length = S.n) : lessL (multL S t) (multL S x) = multL S (subL t x) := by
  have hu : (subL t x).length = S.n := by rw [subL_len (by omega), ht]
  have e : multL S t = addL (multL S x) (multL S (subL t x)) := by
    conv => lhs; rw [← add_sub t x (by omega)]
    exact mult_add h hx hu
  rw [e, lessL_addL _ _ (by rw [multL_len, multL_len, hx, hu])]
theorem bd_half {B : Int} {A : List Int} (h : Bd (2 * B) (addL A A)) : Bd B A := by
  intro z hz
  obtain ⟨i, hi, rfl⟩ := List.getElem_of_mem hz
  have := h _ (List.getElem_mem (show i < (addL A A).length by rw [addL_len rfl]; exact hi))
  simp only [addL, List.getElem_zipWith] at this
  omega
theorem mult_half {S : Sy} (h : SyOk S) {t : List Int} (ht : t.length = S.n) {B : Int} (hb : Bd (2 * B) (multL S (addL t t))) : Bd B (multL S t) := by
  rw [mult_add h ht ht] at hb; exact bd_half hb
theorem vecOk_of {S : Sy} (h : SyOk S) {t : List Int} (ht : t.length = S.n) (hw : Within 1048576 t) : VecOk S.f S.s S.a t :=
  ⟨h.1, by rw [ht]; have := h.nodes; omega, small_within hw⟩
theorem mult_b4 {S : Sy} (h : SyOk S) {t : List Int} (ht : t.length = S.n) (hw : Within 262144 t) : Bd 75000000000000000 (multL S t) := by
  have l1 : (addL t t).length = S.n := by rw [addL_len rfl, ht]
  have l2 : (addL (addL t t) (addL t t)).length = S.n := by rw [addL_len rfl, l1]
  have w1 := addL_within hw hw
  have w2 := addL_within w1 w1
  exact mult_half h ht (mult_half h l1 (multL_bd h (vecOk_of h l2 (w2.mono (by omega)))))
theorem mult_b8 {S : Sy} (h : SyOk S) {t : List Int} (ht : t.length = S.n) (hw : Within 131072 t) : Bd 37500000000000000 (multL S t) := by
  have l1 : (addL t t).length = S.n := by rw [addL_len rfl, ht]
  exact mult_half h ht (mult_b4 h l1 ((addL_within hw hw).mono (by omega)))
theorem subL_within {a b : Nat} {x y : List Int} (hx : Within a x) (hy : Within b y) : Within (a + b) (subL x y) := by
  intro z hz
  unfold subL at hz
  obtain ⟨i, hi, rfl⟩ := List.getElem_of_mem hz
  rw [List.length_zipWith] at hi
  rw [List.getElem_zipWith]
  have := hx _ (List.getElem_mem (show i < x.length by omega))
  have := hy _ (List.getElem_mem (show i < y.length by omega))
  omega
theorem dot_sq {B : Int} (hB : 0 ≤ B) : ∀ x : List Int, Bd B x → 0 ≤ dotL x x ∧ dotL x x ≤ (x.length : Int) * (B * B)
  | [], _ => by simp [dotL]
  | a :: x, hx => by
    have ih := dot_sq hB x (fun z hz => hx z (by simp [hz]))
    have h1 := hx a (by simp)
    have h2 := sq_nn a
    have h3 : a * a ≤ B * B := by
      have e1 : (a * a).natAbs ≤ B.natAbs * B.natAbs := by rw [Int.natAbs_mul]; exact Nat.mul_le_mul (by omega) (by omega)
      have e2 : (B * B).natAbs = B.natAbs * B.natAbs := Int.natAbs_mul B B
      have e3 := Int.mul_nonneg hB hB
      omega
    have e4 : dotL (a :: x) (a :: x) = a * a + dotL x x := rfl
    rw [e4]
    simp only [List.length_cons, Int.natCast_add, Int.add_mul]
    omega
theorem sub_self_zero : ∀ x y : List Int, x.length = y.length → dotL (subL x y) (subL x y) ≤ 0 → x = y := fun x y h h0 =>
  sub_zero x y h (dot_zero _ (by have := dot_nn (subL x y); omega))
theorem sub_sq : ∀ x y : List Int, dotL (subL x y) (subL x y) = dotL (subL y x) (subL y x)
  | [], y => by simp [subL, dotL]
  | a :: x, [] => by simp [subL, dotL]
  | a :: x, b :: y => by
    have ih := sub_sq x y
    have e1 : dotL (subL (a :: x) (b :: y)) (subL (a :: x) (b :: y)) = (a - b) * (a - b) + dotL (subL x y) (subL x y) := rfl
    have e2 : dotL (subL (b :: y) (a :: x)) (subL (b :: y) (a :: x)) = (b - a) * (b - a) + dotL (subL y x) (subL y x) := rfl
    have e3 : (a - b) * (a - b) = (b - a) * (b - a) := by
      rw [show b - a = -(a - b) by omega, Int.neg_mul_neg]
    rw [e1, e2, e3, ih]
end Go.Proofs.YtojkamfabapcoaaGreatDoor

set_option linter.unusedSimpArgs false
set_option linter.unusedVariables false
namespace Go.Proofs.YtojkamfabapcoaaGreatDoor
open Go.RowKit Go.Grid

/-! certificate.Square; the test of a right side. -/
set_option maxRecDepth 100000 in
set_option maxHeartbeats 1000000 in
theorem csquare_any (p : Option Addr) (zs : List Int) (c n : Nat) (w : World) (h1 : zs.length = n) (hV : VecAt w p zs) (hl : n ≤ 1000) (bz : I64L zs) :
    Calls Tryz.prog 46 #[.slice p n c] w fun e w' => e = .returned (wv (dotL zs zs)) ∧ Below w.heap.size w w' := by
  have HD : Hid (∀ w', VecAt w' p zs → Calls Tryz.prog 93 #[.slice p n c, .slice p n c] w' fun e w'' => e = .returned (.tuple #[wv (dotL zs zs), .int .i64 0]) ∧ Below w'.heap.size w' w'') := Lib.hid (fun w' h => dot_at p p zs zs c c n w' h1 h1 h h hl bz bz)
  clear h1 hl bz
  go_enter Tryz.func46, Tryz.ntmps46
  go_wp2_with fail
  refine (HD.out _ (hV.below (by repeat (first | (with_reducible assumption) | (with_reducible exact Below.refl _ _) | (with_reducible refine Below.setCell ?_ (by first | omega | (simp; done) | (simp; omega)) _) | (with_reducible refine Below.alloc ?_ (by first | omega | (simp; done) | (simp; omega)) _) | (with_reducible apply Below.drew) | assumption)))).mono ?_
  rintro e w1 ⟨rfl, hb⟩
  obtain ⟨C, D, q1, q2, hS⟩ := wv_parts (dotL zs zs)
  clear q1 q2
  rw [hS]
  have r0 : w1.cell? ⟨w.heap.size, 0, none⟩ = some (.int .i64 0) := RX.keep hb (by simp [RX.cell_drew, RX.cell_alloc, Nat.add_assoc])
  have r1 : w1.cell? ⟨w.heap.size, 1, none⟩ = some (.int .u64 0) := RX.keep hb (by simp [RX.cell_drew, RX.cell_alloc, Nat.add_assoc])
  have rf : ∀ k, w1.frozen? ⟨w.heap.size, k, none⟩ = false := fun k => by
    rw [World.frozen?_of_block (hb.block _ (by simp))]; simp
  have f0 := rf 0
  have f1 := rf 1
  have hlt : w.heap.size < w1.heap.size := World.block_lt_of_cell? _ _ r0
  have hB : Below w.heap.size w w1 := Below.trans (by repeat (first | (with_reducible assumption) | (with_reducible exact Below.refl _ _) | (with_reducible refine Below.setCell ?_ (by first | omega | (simp; done) | (simp; omega)) _) | (with_reducible refine Below.alloc ?_ (by first | omega | (simp; done) | (simp; omega)) _) | (with_reducible apply Below.drew) | assumption)) (hb.mono (by simp <;> omega))
  have HS := Lib.hid hS
  clear hb rf HD hS hV
  go_wp2
  refine absW (F := fun w' => w'.cell? ⟨w.heap.size, 0, none⟩ = some (.int .i64 C) ∧ w'.cell? ⟨w.heap.size, 1, none⟩ = some (.int .u64 D) ∧ Below w.heap.size w w') ⟨?_, ?_, (by repeat (first | (with_reducible assumption) | (with_reducible exact Below.refl _ _) | (with_reducible refine Below.setCell ?_ (by first | omega | (simp; done) | (simp; omega)) _) | (with_reducible refine Below.alloc ?_ (by first | omega | (simp; done) | (simp; omega)) _) | (with_reducible apply Below.drew) | assumption))⟩ ?_
  · rw [RX.cell_alloc, if_neg (by simp <;> omega), World.cell?_setCell_other _ _ _ _ (by simp)]; exact World.cell?_setCell_same' _ _ _ (by rw [r0]; rfl)
  · rw [RX.cell_alloc, if_neg (by simp <;> omega)]; exact World.cell?_setCell_same' _ _ _ (by rw [World.cell?_setCell_other _ _ _ _ (by simp), r1]; rfl)
  rintro W4 ⟨t0, t1, hBB⟩
  refine bodyPost_ret (v := .agg #[.int .i64 C, .int .u64 D]) ?_ rfl ⟨by rw [HS.out], hBB⟩
  simp [results, Tryz.results46, go_sem, t0, t1]
theorem beyond_any (x : Int) (w : World) : Calls Tryz.prog 91 #[.int .i64 x] w fun e w' => e = .returned (.bool (decide (x < -144115188075855872) || decide (x > 144115188075855872))) ∧ Below w.heap.size w w' := by
  go_enter Tryz.func91, Tryz.ntmps91
  by_cases h : x < -144115188075855872
  · have h1 : decide (x < -144115188075855872) = true := decide_eq_true h
    go_wp2
    go_ret
    exact ⟨by simp [h], Below.refl _ _⟩
  · have h1 : decide (x < -144115188075855872) = false := decide_eq_false h
    go_wp2
    go_ret
    exact ⟨by simp [h], Below.refl _ _⟩
/-- Whether elements are too great for a right side. -/
def beyondB (R : List Int) : Bool := R.any (fun x => decide (x < -144115188075855872) || decide (x > 144115188075855872))
theorem beyondB_false {R : List Int} (h : Bd 144115188075855872 R) : beyondB R = false := by
  unfold beyondB
  rw [List.any_eq_false]
  intro x hx
  have := h x hx
  simp; omega
theorem containsB_any (p : Option Addr) (R : List Int) (cap n : Nat) (w : World) (hl : R.length = n) (hV : VecAt w p R) (hn : n ≤ 1000000000) :
    Calls Tryz.prog 90 #[.slice p n cap, .func (.func 91) #[] #[]] w fun e w' => e = .returned (.bool (beyondB R)) ∧ Below w.heap.size w w' :=
  contains_int p R cap n w hl hV hn _ _ (Go.Proofs.enters_of Tryz.func91 (by kernel_rfl) rfl) (fun x _ w' _ => beyond_any x w')
end Go.Proofs.YtojkamfabapcoaaGreatDoor

set_option linter.unusedSimpArgs false
set_option linter.unusedVariables false
namespace Go.Proofs.YtojkamfabapcoaaGreatDoor
open Go.RowKit Go.Grid

/-! certificate.Of, where a certificate comes out. -/
def revTo (r m : List Int) (k : Nat) : List Int := (lessL r m).take k ++ m.drop k
theorem revTo_len {r m : List Int} (h : m.length = r.length) {k : Nat} (hk : k ≤ r.length) : (revTo r m k).length = r.length := by
  have := lessL_len h
  simp [revTo]; omega
theorem revTo_get {r m : List Int} (h : m.length = r.length) {k : Nat} (hk : k < r.length) : (revTo r m k)[k]'(by rw [revTo_len h (by omega)]; exact hk) = m[k]'(by omega) := by
  have := lessL_len h
  unfold revTo
  rw [List.getElem_append_right (by rw [List.length_take]; omega)]
  have e : ((lessL r m).take k).length = k := by simp; omega
  simp only [e, Nat.sub_self, List.getElem_drop, Nat.add_zero]
theorem revTo_succ {r m : List Int} (h : m.length = r.length) {k : Nat} (hk : k < r.length) : revTo r m (k + 1) = (revTo r m k).set k (r[k] - m[k]'(by omega)) := by
  have h1 := lessL_len h
  unfold revTo
  have e : ((lessL r m).take k).length = k := by simp; omega
  rw [List.set_append_right _ _ (by omega), e, Nat.sub_self, List.take_succ_eq_append_getElem (by omega), List.append_assoc]
  congr 1
  rw [show m.drop k = m[k]'(by omega) :: m.drop (k + 1) from (List.drop_eq_getElem_cons (by omega)), List.set_cons_zero]
  simp [lessL]
theorem revTo_end {r m : List Int} (h : m.length = r.length) : revTo r m r.length = lessL r m := by
  unfold revTo
  rw [← h, List.drop_length, List.append_nil, List.take_of_length_le (by rw [lessL_len h]; omega)]
theorem lessL_bd {A B : Int} {r m : List Int} (hr : Bd A r) (hm : Bd B m) : Bd (A + B) (lessL r m) := by
  intro z hz
  unfold lessL at hz
  obtain ⟨i, hi, rfl⟩ := List.getElem_of_mem hz
  rw [List.length_zipWith] at hi
  rw [List.getElem_zipWith]
  have := hr _ (List.getElem_mem (show i < r.length by omega))
  have := hm _ (List.getElem_mem (show i < m.length by omega))
  omega
/-- A certificate in block o. -/
def CertAt (w : World) (o : Nat) (c d a r : Int) : Prop := w.cell? ⟨o, 0, none⟩ = some (.int .i64 c) ∧ w.cell? ⟨o, 1, none⟩ = some (.int .u64 d) ∧ w.cell? ⟨o, 2, none⟩ = some (.int .i64 a) ∧ w.cell? ⟨o, 3, none⟩ = some (.int .i64 r) ∧
  w.frozen? ⟨o, 0, none⟩ = false ∧ w.frozen? ⟨o, 1, none⟩ = false ∧ w.frozen? ⟨o, 2, none⟩ = false ∧ w.frozen? ⟨o, 3, none⟩ = false
theorem CertAt.new (w : World) (c d a r : Int) : CertAt (w.alloc (.cells #[.int .i64 c, .int .u64 d, .int .i64 a, .int .i64 r] 70)) w.heap.size c d a r := ⟨(by simp [RX.cell_drew, RX.cell_alloc, Nat.add_assoc]), (by simp [RX.cell_drew, RX.cell_alloc, Nat.add_assoc]), (by simp [RX.cell_drew, RX.cell_alloc, Nat.add_assoc]), (by simp [RX.cell_drew, RX.cell_alloc, Nat.add_assoc]), by simp, by simp, by simp, by simp⟩
theorem CertAt.below {w w' : World} {o : Nat} {c d a r : Int} (h : CertAt w o c d a r) (hb : Below w.heap.size w w') : CertAt w' o c d a r := by
  obtain ⟨h0, h1, h2, h3, f0, f1, f2, f3⟩ := h
  have hl := World.block_lt_of_cell? _ _ h0
  exact ⟨RX.keep hb h0, RX.keep hb h1, RX.keep hb h2, RX.keep hb h3, (hb.frozen (p := ⟨o, 0, none⟩) hl).trans f0, (hb.frozen (p := ⟨o, 1, none⟩) hl).trans f1, (hb.frozen (p := ⟨o, 2, none⟩) hl).trans f2, (hb.frozen (p := ⟨o, 3, none⟩) hl).trans f3⟩
theorem CertAt.put {w : World} {o : Nat} {c d a r : Int} (h : CertAt w o c d a r) (c' d' a' r' : Int) : CertAt ((((w.setCell ⟨o, 0, none⟩ (.int .i64 c')).setCell ⟨o, 1, none⟩ (.int .u64 d')).setCell ⟨o, 2, none⟩ (.int .i64 a')).setCell ⟨o, 3, none⟩ (.int .i64 r')) o c' d' a' r' := by
  obtain ⟨h0, h1, h2, h3, f0, f1, f2, f3⟩ := h
  refine ⟨?_, ?_, ?_, ?_, by simp only [World.frozen?_setCell]; exact f0, by simp only [World.frozen?_setCell]; exact f1, by simp only [World.frozen?_setCell]; exact f2, by simp only [World.frozen?_setCell]; exact f3⟩
  · rw [World.cell?_setCell_other _ _ _ _ (by simp), World.cell?_setCell_other _ _ _ _ (by simp), World.cell?_setCell_other _ _ _ _ (by simp)]; exact World.cell?_setCell_same' _ _ _ (by rw [h0]; rfl)
  · rw [World.cell?_setCell_other _ _ _ _ (by simp), World.cell?_setCell_other _ _ _ _ (by simp)]; exact World.cell?_setCell_same' _ _ _ (by rw [World.cell?_setCell_other _ _ _ _ (by simp), h1]; rfl)
  · rw [World.cell?_setCell_other _ _ _ _ (by simp)]; exact World.cell?_setCell_same' _ _ _ (by rw [World.cell?_setCell_other _ _ _ _ (by simp), World.cell?_setCell_other _ _ _ _ (by simp), h2]; rfl)
  · exact World.cell?_setCell_same' _ _ _ (by rw [World.cell?_setCell_other _ _ _ _ (by simp), World.cell?_setCell_other _ _ _ _ (by simp), World.cell?_setCell_other _ _ _ _ (by simp), h3]; rfl)
/-- What a certificate of a square says. -/
def CertOf (sq a : Int) (r : Nat) : Prop := (r : Int) ≤ 4611686018427387904 / a + 1 ∧ enough sq a r = true ∧ ∀ j, j < r → enough sq a j = false
set_option maxRecDepth 100000
set_option maxHeartbeats 4000000 in
theorem cof_ok (S : Sy) (v : Value) (q p : Option Addr) (R x : List Int) (rc xc n : Nat) (w : World) (hT : HasTab w) (hS : SysIn w v S) (hok : SyOk S) (hV : VecAt w p x) (hvo : VecOk S.f S.s S.a x) (hU : VecAt w q R) (hxl : x.length = n) (hRl : R.length = n) (hRB : Bd 144115188075855872 R)
    (hZ : dotL (lessL R (multL S x)) (lessL R (multL S x)) ≤ 21267647932558653966460912964485513216) :
    Calls Tryz.prog 42 #[v, .slice q n rc, .slice p n xc] w fun e w' => ∃ (C D : Int) (r : Nat), wv (dotL (lessL R (multL S x)) (lessL R (multL S x))) = .agg #[.int .i64 C, .int .u64 D] ∧ e = .returned (.tuple #[.agg #[.int .i64 C, .int .u64 D, .int .i64 S.a, .int .i64 (r : Int)], .int .i64 0]) ∧ CertOf (dotL (lessL R (multL S x)) (lessL R (multL S x))) S.a r ∧ Below w.heap.size w w' := by
  have hvn := vecOk_n hok hvo
  have HH : Hid (∀ w2 v2, HasTab w2 → SysIn w2 v2 S → VecAt w2 p x → Calls Tryz.prog 21 #[v2, .slice p n xc] w2 fun e w' => ∃ N, e = .returned (.tuple #[.slice (some ⟨N, 0, none⟩) n n, .int .i64 0]) ∧ IntsAt w' N 0 (multL S x) ∧ w2.heap.size ≤ N ∧ Below w2.heap.size w2 w') := Lib.hid (fun w2 v2 h1 h2 h3 => by
    have h := cmult_ok S v2 p x xc w2 h1 h2 hok h3 hvo
    rw [← hvn, hxl] at h; exact h)
  have HS := Lib.hid hS
  have HU := Lib.hid hU
  have HMB := Lib.hid (multL_bd hok hvo)
  have HRB := Lib.hid hRB
  have HRL := Lib.hid hRl
  have HML : Hid ((multL S x).length = n) := Lib.hid (by rw [multL_len, hxl])
  have hn1 : n ≤ 1000 := by have := hok.nodes; omega
  have hn0 : 1 ≤ n := by have := hok.nodes; omega
  have HA : Hid (1 ≤ S.a ∧ S.a ≤ 1000000) := Lib.hid (by have := hok.1; unfold PrOk at this; omega)
  obtain ⟨M, hM⟩ : ∃ M, M = multL S x := ⟨_, rfl⟩
  rw [← hM] at HH HMB HML hZ ⊢
  obtain ⟨Z, hZe⟩ : ∃ Z, Z = lessL R M := ⟨_, rfl⟩
  have HZE := Lib.hid hZe
  rw [← hZe] at hZ ⊢
  have HZL : Hid (Z.length = n) := Lib.hid (by rw [hZe, lessL_len (by rw [HML.out, HRL.out]), HRL.out])
  have HZB : Hid (I64L Z) := Lib.hid (fun z hz => by
    have := lessL_bd HRB.out HMB.out z (by rw [← hZe]; exact hz); omega)
  obtain ⟨sq, hsq⟩ : ∃ sq, sq = dotL Z Z := ⟨_, rfl⟩
  have HSQ : Hid (0 ≤ sq ∧ sq ≤ 21267647932558653966460912964485513216) := Lib.hid (by rw [hsq]; exact ⟨dot_nn Z, hZ⟩)
  have HSE := Lib.hid hsq
  rw [← hsq]
  obtain ⟨a, ha⟩ : ∃ a, a = S.a := ⟨_, rfl⟩
  have HAE := Lib.hid ha
  rw [← ha] at HA ⊢
  obtain ⟨p1, d1, p2, d2, rfl, _⟩ := hS
  rw [← ha]
  obtain ⟨bq, oq, rfl, hbq, hcq⟩ := hU.cell (by rw [HRL.out]; omega)
  have HCQ := Lib.hid hcq
  clear hM hZe hsq ha hZ hok hvo hvn hxl hRl hRB hU hcq
  go_enter Tryz.func42, Tryz.ntmps42
  go_wp2_with fail
  refine (HH.out _ _ (hT.below (by repeat (first | (with_reducible assumption) | (with_reducible exact Below.refl _ _) | (with_reducible refine Below.setCell ?_ (by first | omega | (simp; done) | (simp; omega)) _) | (with_reducible refine Below.alloc ?_ (by first | omega | (simp; done) | (simp; omega)) _) | (with_reducible apply Below.drew) | assumption))) (by rw [HAE.out]; exact HS.out.below (by repeat (first | (with_reducible assumption) | (with_reducible exact Below.refl _ _) | (with_reducible refine Below.setCell ?_ (by first | omega | (simp; done) | (simp; omega)) _) | (with_reducible refine Below.alloc ?_ (by first | omega | (simp; done) | (simp; omega)) _) | (with_reducible apply Below.drew) | assumption))) (hV.below (by repeat (first | (with_reducible assumption) | (with_reducible exact Below.refl _ _) | (with_reducible refine Below.setCell ?_ (by first | omega | (simp; done) | (simp; omega)) _) | (with_reducible refine Below.alloc ?_ (by first | omega | (simp; done) | (simp; omega)) _) | (with_reducible apply Below.drew) | assumption)))).mono ?_
  rintro e w1 ⟨Nm, rfl, hIm, hNm, hb1⟩
  have hB : Below w.heap.size w w1 := Below.trans (by repeat (first | (with_reducible assumption) | (with_reducible exact Below.refl _ _) | (with_reducible refine Below.setCell ?_ (by first | omega | (simp; done) | (simp; omega)) _) | (with_reducible refine Below.alloc ?_ (by first | omega | (simp; done) | (simp; omega)) _) | (with_reducible apply Below.drew) | assumption)) (hb1.mono (by simp <;> omega))
  have c2 : w1.cell? ⟨w.heap.size, 2, none⟩ = some (.int .i64 a) := RX.keep hb1 (by simp [RX.cell_drew, RX.cell_alloc, Nat.add_assoc])
  have r0 : w1.cell? ⟨w.heap.size + 1, 0, none⟩ = some (.int .i64 0) := RX.keep hb1 (by simp [RX.cell_drew, RX.cell_alloc, Nat.add_assoc])
  have r1 : w1.cell? ⟨w.heap.size + 1, 1, none⟩ = some (.int .u64 0) := RX.keep hb1 (by simp [RX.cell_drew, RX.cell_alloc, Nat.add_assoc])
  have r2 : w1.cell? ⟨w.heap.size + 1, 2, none⟩ = some (.int .i64 0) := RX.keep hb1 (by simp [RX.cell_drew, RX.cell_alloc, Nat.add_assoc])
  have r3 : w1.cell? ⟨w.heap.size + 1, 3, none⟩ = some (.int .i64 0) := RX.keep hb1 (by simp [RX.cell_drew, RX.cell_alloc, Nat.add_assoc])
  have rf : ∀ k, w1.frozen? ⟨w.heap.size + 1, k, none⟩ = false := fun k => by
    rw [World.frozen?_of_block (hb1.block _ (by simp))]; simp
  have hNm0 : w.heap.size + 2 ≤ Nm := by simpa using hNm
  have hNm1 : Nm < w1.heap.size := World.block_lt_of_cell? _ _ (hIm 0 (by rw [HML.out]; omega)).1
  have hnn : ((n : Int) != (n : Int)) = false := by simp
  have hRb : Hid (beyondB R = false) := Lib.hid (beyondB_false HRB.out)
  have HIM := Lib.hid hIm
  have HU1 := Lib.hid (HU.out.below hB)
  clear hb1 HH HS HU hT hV hIm hNm
  go_wp2_with fail
  refine (containsB_any _ R rc n _ HRL.out (HU1.out.below (by repeat (first | (with_reducible assumption) | (with_reducible exact Below.refl _ _) | (with_reducible refine Below.setCell ?_ (by first | omega | (simp; done) | (simp; omega)) _) | (with_reducible refine Below.alloc ?_ (by first | omega | (simp; done) | (simp; omega)) _) | (with_reducible apply Below.drew) | assumption))) (by omega)).mono ?_
  rintro e w2 ⟨rfl, hb2⟩
  rw [hRb.out]
  have hB2 : Below w.heap.size w w2 := hB.trans (hb2.mono hB.size)
  have e2 := RX.keep hb2 c2
  have s0 := RX.keep hb2 r0
  have s1 := RX.keep hb2 r1
  have s2 := RX.keep hb2 r2
  have s3 := RX.keep hb2 r3
  have hlt1 : w.heap.size + 1 < w1.heap.size := by omega
  have sf : ∀ k, w2.frozen? ⟨w.heap.size + 1, k, none⟩ = false := fun k => (hb2.frozen (p := ⟨w.heap.size + 1, k, none⟩) hlt1).trans (rf k)
  have HIM2 := Lib.hid (HIM.out.block (hb2.block Nm hNm1))
  have HCQ2 : Hid (∀ k (h : k < R.length), w2.cell? ⟨bq, oq + k, none⟩ = some (.int .i64 R[k])) := Lib.hid (fun k h => RX.keep hB2 (HCQ.out k h))
  have HB2 := Lib.hid hB2
  have hsz2 : Nm < w2.heap.size := by have := hb2.size; omega
  clear hb2 hB c2 r0 r1 r2 r3 rf HIM HU1 HCQ hB2 hlt1 hNm1
  go_wp2
  go_loopw [34] (fun i wr => ∃ k : Nat, k ≤ n ∧ i = .int .i64 k ∧ Hid (IntsAt wr Nm 0 (revTo R M k)) ∧ w2.grownBy wr (some Nm)) (fun i _ => n - (intOf i).toNat)
  case atStart => exact ⟨0, Nat.zero_le _, rfl, Lib.hid (by simpa [revTo] using HIM2.out), ⟨rfl, rfl, rfl, Nat.le_refl _, fun _ _ _ => rfl⟩⟩
  case round =>
    obtain ⟨k, hk, rfl, HI, hg⟩ := hrel
    by_cases hlt : k < n
    · have hdk : decide ((k : Int) < (n : Int)) = true := decide_eq_true (by omega)
      have hkR : k < R.length := by rw [HRL.out]; exact hlt
      have hkM : k < M.length := by rw [HML.out]; exact hlt
      have hML2 : M.length = R.length := by rw [HML.out, HRL.out]
      have hne : ¬ (bq = Nm) := by omega
      have mk := hg.cell (HCQ2.out k hkR) (by simp; exact hne)
      obtain ⟨k1, k2⟩ := HI.out k (by rw [revTo_len hML2 (by omega)]; exact hkR)
      rw [Nat.zero_add] at k1 k2
      rw [revTo_get hML2 hkR] at k1
      have HSU := Lib.hid (revTo_succ hML2 hkR)
      have hb1 := HRB.out R[k] (List.getElem_mem _)
      have hb2 := HMB.out M[k] (List.getElem_mem _)
      obtain ⟨u, hu⟩ : ∃ u, u = R[k] := ⟨_, rfl⟩
      obtain ⟨m, hm⟩ : ∃ m, m = M[k] := ⟨_, rfl⟩
      rw [← hu] at mk HSU hb1
      rw [← hm] at k1 HSU hb2
      have hk0 : (0 : Int) ≤ (k : Int) := by omega
      have hkI : (k : Int) < (n : Int) := by omega
      clear hu hm hkR hkM hML2
      go_wp2
      refine RY.region RX.fN (fun w' => w'.cell? ⟨Nm, k, none⟩ = some (.int .i64 m) ∧ w'.cell? ⟨bq, oq + k, none⟩ = some (.int .i64 u)) (by kernel_rfl) (by kernel_rfl) (⟨k1, mk⟩) (fun OPS HO QR hQR => ?_)
      repeat
        refine RY.step (fun R hR => ?_)
        first
        | (refine RY.one_skip (by first | rfl | (rw [HO.out]; rfl)) (by simp only [RX.put_some, RX.put_none, List.set_cons_zero, List.set_cons_succ]; rfl) ?_
           refine hR _ _ ?_; clear hR R)
        | (refine RY.one_move (by first | rfl | (rw [HO.out]; rfl)) rfl (by first | exact Or.inl rfl | exact Or.inr rfl) (by simp only [RX.eval_tmp, RX.eval_const, List.getD_cons_zero, List.getD_cons_succ]; rfl) (by simp only [RX.put_some, RX.put_none, List.set_cons_zero, List.set_cons_succ]; rfl) ?_
           refine hR _ _ ?_; clear hR R)
        | (refine RY.one_nil (by first | rfl | (rw [HO.out]; rfl)) rfl rfl (by simp only [RX.eval_tmp, RX.eval_const, List.getD_cons_zero, List.getD_cons_succ]; rfl) (by simp only [RX.put_some, RX.put_none, List.set_cons_zero, List.set_cons_succ]; rfl) ?_
           refine hR _ _ ?_; clear hR R)
        | (refine RY.one_float (by first | rfl | (rw [HO.out]; rfl)) rfl rfl rfl ?_
           apply Exists.intro; apply Exists.intro
           refine ⟨fun w' hS K hK => ?_, ?_, ?_⟩
           · obtain ⟨hS1, hS2⟩ := hS; go_wp2; exact hK _ _ (by simp only [RX.arr_getD, List.getD_cons_zero, List.getD_cons_succ]; first | exact RX.dec_t (by omega) | exact RX.dec_f (by omega) | exact RX.beq_t (by omega) | exact RX.beq_f (by omega) | exact RX.bne_t (by omega) | exact RX.bne_f (by omega) | exact RX.bneB _ | rfl) rfl
           · simp only [RX.put_some, RX.put_none, List.set_cons_zero, List.set_cons_succ]; rfl
           refine hR _ _ ?_; clear hR R)
      refine RY.step (fun R hR => ?_)
      refine RY.one_chain (by first | rfl | (rw [HO.out]; rfl)) rfl (fun K hK => ?_)
      go_wp2
      first | refine ⟨(by first | exact .inl rfl | exact .inl trivial | trivial), hR _ _ (RY.wpL_nil (hQR _ _ ?_))⟩ | refine hR _ _ (RY.wpL_nil (hQR _ _ ?_)) | refine hQR _ _ ?_
      (try clear hR); (try clear R); clear hQR QR HO OPS
      go_wp2
      go_roundw
      case rel => exact ⟨k + 1, by omega, by go_num, Lib.hid (by rw [HSU.out]; have := HI.out.set k (u - m); rwa [Nat.zero_add] at this), grown_drew (hg.trans (grownBy_setCell _ _ _ _))⟩
      case measure => simp [intOf]; omega
    · have hdk : decide ((k : Int) < (n : Int)) = false := decide_eq_false (by omega)
      obtain rfl : k = n := by omega
      have HZI : Hid (VecAt wr (some ⟨Nm, 0, none⟩) Z) := Lib.hid (vec_of_ints (by rw [HZE.out, ← revTo_end (by rw [HML.out, HRL.out]), HRL.out]; exact HI.out))
      have hne1 : ¬ (w.heap.size = Nm) := by omega
      have hne2 : ¬ (w.heap.size + 1 = Nm) := by omega
      have g2 := hg.cell e2 (by simp; exact hne1)
      have z0 := hg.cell s0 (by simp; exact hne2)
      have z1 := hg.cell s1 (by simp; exact hne2)
      have z2 := hg.cell s2 (by simp; exact hne2)
      have z3 := hg.cell s3 (by simp; exact hne2)
      have zf : ∀ k, wr.frozen? ⟨w.heap.size + 1, k, none⟩ = false := fun k => (World.frozen?_of_block (hg.block (w.heap.size + 1) (by omega) (by simp; exact hne2))).trans (sf k)
      have HBr := Lib.hid (HB2.out.grown hg HB2.out.size (fun k hk => by injection hk with hk; omega))
      have hsr : w.heap.size + 1 < wr.heap.size := World.block_lt_of_cell? _ _ z0
      clear hg HI e2 s0 s1 s2 s3 sf HCQ2 HB2 HIM2 hne1 hne2
      obtain ⟨C, D, hC, hD, hS⟩ := wv_parts sq
      have HWV := Lib.hid hS
      have hC2 : C = sq / 18446744073709551616 := by rw [hC]; unfold wrap64; have := HSQ.out; omega
      have HCD : Hid (C * 18446744073709551616 + D = sq) := Lib.hid (by rw [hC2, hD]; omega)
      have hCb : 0 ≤ C ∧ C ≤ 1152921504606846976 := by have := HSQ.out; omega
      have hDb : 0 ≤ D ∧ D ≤ 18446744073709551615 := by omega
      have HCB := Lib.hid (And.intro hCb hDb)
      clear hC hD hC2 hS hCb hDb
      have HQ : Hid (∀ w', VecAt w' (some ⟨Nm, 0, none⟩) Z → Calls Tryz.prog 46 #[.slice (some ⟨Nm, 0, none⟩) k k] w' fun e w'' => e = .returned (.agg #[.int .i64 C, .int .u64 D]) ∧ Below w'.heap.size w' w'') := Lib.hid (fun w' h => by
        have h2 := csquare_any _ Z k k w' HZL.out h (by omega) HZB.out
        rw [← HSE.out, HWV.out] at h2; exact h2)
      go_wp2
      go_cut [11] from 50 to 55 (fun s wc => ∃ o, s = .pointer (some ⟨o, 0, none⟩) ∧ wr.heap.size ≤ o ∧ CertAt wc o C D a 0 ∧ Below wr.heap.size wr wc)
      case first =>
        refine RX.regionF2 RX.fN (fun w' => w'.cell? ⟨w.heap.size, 2, none⟩ = some (.int .i64 a)) [[0, 1, 2, 3, 4, 5, 6, 7], [0, 6, 1, 2, 3, 4, 5, 7]] (by kernel_rfl) (by kernel_rfl) (g2) (fun OPS HO QR hQR => ?_)
        refine List.forall_mem_cons.2 ⟨?_, List.forall_mem_cons.2 ⟨?_, fun _ h => (by cases h)⟩⟩
        ·
          simp only [RX.pick, RX.nth, List.map_cons, List.map_nil, List.getD_cons_zero, List.getD_cons_succ]
          repeat
            refine RX.step (fun R hR => ?_)
            first
            | (refine RX.one_skip (by first | rfl | (rw [HO.out]; rfl)) (by simp only [RX.put_some, RX.put_none, List.set_cons_zero, List.set_cons_succ]; rfl) ?_
               refine hR _ _ ?_; clear hR R)
            | (refine RX.one_move (by first | rfl | (rw [HO.out]; rfl)) rfl (by first | exact Or.inl rfl | exact Or.inr rfl) (by simp only [RX.eval_tmp, RX.eval_const, List.getD_cons_zero, List.getD_cons_succ]; rfl) (by simp only [RX.put_some, RX.put_none, List.set_cons_zero, List.set_cons_succ]; rfl) ?_
               refine hR _ _ ?_; clear hR R)
            | (refine RX.one_nil (by first | rfl | (rw [HO.out]; rfl)) rfl rfl (by simp only [RX.eval_tmp, RX.eval_const, List.getD_cons_zero, List.getD_cons_succ]; rfl) (by simp only [RX.put_some, RX.put_none, List.set_cons_zero, List.set_cons_succ]; rfl) ?_
               refine hR _ _ ?_; clear hR R)
            | (refine RX.one_float (by first | rfl | (rw [HO.out]; rfl)) rfl rfl rfl ?_
               apply Exists.intro; apply Exists.intro
               refine ⟨fun w' hS K hK => ?_, ?_, ?_⟩
               · have hS1 := hS; go_wp2; exact hK _ _ (by simp only [RX.arr_getD, List.getD_cons_zero, List.getD_cons_succ]; first | exact RX.dec_t (by omega) | exact RX.dec_f (by omega) | exact RX.beq_t (by omega) | exact RX.beq_f (by omega) | exact RX.bne_t (by omega) | exact RX.bne_f (by omega) | exact RX.bneB _ | rfl) rfl
               · simp only [RX.put_some, RX.put_none, List.set_cons_zero, List.set_cons_succ]; rfl
               refine hR _ _ ?_; clear hR R)
          refine RX.step (fun R hR => ?_)
          refine RX.one_chain (by first | rfl | (rw [HO.out]; rfl)) rfl (fun K hK => ?_)
          go_wp2_with fail
          refine (HQ.out _ (HZI.out.below (by repeat (first | (with_reducible assumption) | (with_reducible exact Below.refl _ _) | (with_reducible refine Below.setCell ?_ (by first | omega | (simp; done) | (simp; omega)) _) | (with_reducible refine Below.alloc ?_ (by first | omega | (simp; done) | (simp; omega)) _) | (with_reducible apply Below.drew) | assumption)))).mono ?_
          rintro e w3 ⟨rfl, hb3⟩
          replace hb3 : Below wr.heap.size wr w3 := ⟨hb3.os, hb3.tape, hb3.output, hb3.size, hb3.block⟩
          have m2 := RX.keep hb3 g2
          clear g2
          refine hK _ _ ⟨m2, hR _ _ ?_⟩; clear hK K hR R
          repeat
            refine RX.step (fun R hR => ?_)
            first
            | (refine RX.one_skip (by first | rfl | (rw [HO.out]; rfl)) (by simp only [RX.put_some, RX.put_none, List.set_cons_zero, List.set_cons_succ]; rfl) ?_
               refine hR _ _ ?_; clear hR R)
            | (refine RX.one_move (by first | rfl | (rw [HO.out]; rfl)) rfl (by first | exact Or.inl rfl | exact Or.inr rfl) (by simp only [RX.eval_tmp, RX.eval_const, List.getD_cons_zero, List.getD_cons_succ]; rfl) (by simp only [RX.put_some, RX.put_none, List.set_cons_zero, List.set_cons_succ]; rfl) ?_
               refine hR _ _ ?_; clear hR R)
            | (refine RX.one_nil (by first | rfl | (rw [HO.out]; rfl)) rfl rfl (by simp only [RX.eval_tmp, RX.eval_const, List.getD_cons_zero, List.getD_cons_succ]; rfl) (by simp only [RX.put_some, RX.put_none, List.set_cons_zero, List.set_cons_succ]; rfl) ?_
               refine hR _ _ ?_; clear hR R)
            | (refine RX.one_float (by first | rfl | (rw [HO.out]; rfl)) rfl rfl rfl ?_
               apply Exists.intro; apply Exists.intro
               refine ⟨fun w' hS K hK => ?_, ?_, ?_⟩
               · have hS1 := hS; go_wp2; exact hK _ _ (by simp only [RX.arr_getD, List.getD_cons_zero, List.getD_cons_succ]; first | exact RX.dec_t (by omega) | exact RX.dec_f (by omega) | exact RX.beq_t (by omega) | exact RX.beq_f (by omega) | exact RX.bne_t (by omega) | exact RX.bne_f (by omega) | exact RX.bneB _ | rfl) rfl
               · simp only [RX.put_some, RX.put_none, List.set_cons_zero, List.set_cons_succ]; rfl
               refine hR _ _ ?_; clear hR R)
          refine RX.step (fun R hR => ?_)
          refine RX.one_chain (by first | rfl | (rw [HO.out]; rfl)) rfl (fun K hK => ?_)
          go_wp2
          refine ⟨(by (try have hLt := World.block_lt_of_cell? _ _ m2); (try simp only at hLt); (repeat first | rw [RX.cell_drew] | rw [World.cell?_setCell_other _ _ _ _ (by first | (simp; done) | (simp; omega) | omega)] | rw [RX.cell_alloc, if_neg (by first | (simp; done) | (simp; omega) | omega)]); first | exact m2 | (rw [RX.cell_alloc, if_pos (by first | (simp; done) | omega)]; exact m2)), hR _ _ ?_⟩; clear hR R
          repeat
            refine RX.step (fun R hR => ?_)
            first
            | (refine RX.one_skip (by first | rfl | (rw [HO.out]; rfl)) (by simp only [RX.put_some, RX.put_none, List.set_cons_zero, List.set_cons_succ]; rfl) ?_
               refine hR _ _ ?_; clear hR R)
            | (refine RX.one_move (by first | rfl | (rw [HO.out]; rfl)) rfl (by first | exact Or.inl rfl | exact Or.inr rfl) (by simp only [RX.eval_tmp, RX.eval_const, List.getD_cons_zero, List.getD_cons_succ]; rfl) (by simp only [RX.put_some, RX.put_none, List.set_cons_zero, List.set_cons_succ]; rfl) ?_
               refine hR _ _ ?_; clear hR R)
            | (refine RX.one_nil (by first | rfl | (rw [HO.out]; rfl)) rfl rfl (by simp only [RX.eval_tmp, RX.eval_const, List.getD_cons_zero, List.getD_cons_succ]; rfl) (by simp only [RX.put_some, RX.put_none, List.set_cons_zero, List.set_cons_succ]; rfl) ?_
               refine hR _ _ ?_; clear hR R)
            | (refine RX.one_float (by first | rfl | (rw [HO.out]; rfl)) rfl rfl rfl ?_
               apply Exists.intro; apply Exists.intro
               refine ⟨fun w' hS K hK => ?_, ?_, ?_⟩
               · have hS1 := hS; go_wp2; exact hK _ _ (by simp only [RX.arr_getD, List.getD_cons_zero, List.getD_cons_succ]; first | exact RX.dec_t (by omega) | exact RX.dec_f (by omega) | exact RX.beq_t (by omega) | exact RX.beq_f (by omega) | exact RX.bne_t (by omega) | exact RX.bne_f (by omega) | exact RX.bneB _ | rfl) rfl
               · simp only [RX.put_some, RX.put_none, List.set_cons_zero, List.set_cons_succ]; rfl
               refine hR _ _ ?_; clear hR R)
          refine RX.step (fun R hR => ?_)
          refine RX.one_chain (by first | rfl | (rw [HO.out]; rfl)) rfl (fun K hK => ?_)
          go_wp2
          refine ⟨(by (try have hLt := World.block_lt_of_cell? _ _ m2); (try simp only at hLt); (repeat first | rw [RX.cell_drew] | rw [World.cell?_setCell_other _ _ _ _ (by first | (simp; done) | (simp; omega) | omega)] | rw [RX.cell_alloc, if_neg (by first | (simp; done) | (simp; omega) | omega)]); first | exact m2 | (rw [RX.cell_alloc, if_pos (by first | (simp; done) | omega)]; exact m2)), hR _ _ ?_⟩; clear hR R
          repeat
            refine RX.step (fun R hR => ?_)
            first
            | (refine RX.one_skip (by first | rfl | (rw [HO.out]; rfl)) (by simp only [RX.put_some, RX.put_none, List.set_cons_zero, List.set_cons_succ]; rfl) ?_
               refine hR _ _ ?_; clear hR R)
            | (refine RX.one_move (by first | rfl | (rw [HO.out]; rfl)) rfl (by first | exact Or.inl rfl | exact Or.inr rfl) (by simp only [RX.eval_tmp, RX.eval_const, List.getD_cons_zero, List.getD_cons_succ]; rfl) (by simp only [RX.put_some, RX.put_none, List.set_cons_zero, List.set_cons_succ]; rfl) ?_
               refine hR _ _ ?_; clear hR R)
            | (refine RX.one_nil (by first | rfl | (rw [HO.out]; rfl)) rfl rfl (by simp only [RX.eval_tmp, RX.eval_const, List.getD_cons_zero, List.getD_cons_succ]; rfl) (by simp only [RX.put_some, RX.put_none, List.set_cons_zero, List.set_cons_succ]; rfl) ?_
               refine hR _ _ ?_; clear hR R)
            | (refine RX.one_float (by first | rfl | (rw [HO.out]; rfl)) rfl rfl rfl ?_
               apply Exists.intro; apply Exists.intro
               refine ⟨fun w' hS K hK => ?_, ?_, ?_⟩
               · have hS1 := hS; go_wp2; exact hK _ _ (by simp only [RX.arr_getD, List.getD_cons_zero, List.getD_cons_succ]; first | exact RX.dec_t (by omega) | exact RX.dec_f (by omega) | exact RX.beq_t (by omega) | exact RX.beq_f (by omega) | exact RX.bne_t (by omega) | exact RX.bne_f (by omega) | exact RX.bneB _ | rfl) rfl
               · simp only [RX.put_some, RX.put_none, List.set_cons_zero, List.set_cons_succ]; rfl
               refine hR _ _ ?_; clear hR R)
          refine RX.wpL_nil (hQR _ _ ?_); clear hQR QR HO OPS
          have HPA := Lib.hid (CertAt.new w3 C D a 0)
          have HBB : Hid (Below wr.heap.size wr (w3.alloc (.cells #[.int .i64 C, .int .u64 D, .int .i64 a, .int .i64 0] 70))) := Lib.hid (hb3.alloc hb3.size _)
          have hs3 := hb3.size
          clear hb3
          go_wp2_with fail
          go_meet
          case rel => exact ⟨_, rfl, hs3, HPA.out, HBB.out⟩
        ·
          simp only [RX.pick, RX.nth, List.map_cons, List.map_nil, List.getD_cons_zero, List.getD_cons_succ]
          repeat
            refine RX.step (fun R hR => ?_)
            first
            | (refine RX.one_skip (by first | rfl | (rw [HO.out]; rfl)) (by simp only [RX.put_some, RX.put_none, List.set_cons_zero, List.set_cons_succ]; rfl) ?_
               refine hR _ _ ?_; clear hR R)
            | (refine RX.one_move (by first | rfl | (rw [HO.out]; rfl)) rfl (by first | exact Or.inl rfl | exact Or.inr rfl) (by simp only [RX.eval_tmp, RX.eval_const, List.getD_cons_zero, List.getD_cons_succ]; rfl) (by simp only [RX.put_some, RX.put_none, List.set_cons_zero, List.set_cons_succ]; rfl) ?_
               refine hR _ _ ?_; clear hR R)
            | (refine RX.one_nil (by first | rfl | (rw [HO.out]; rfl)) rfl rfl (by simp only [RX.eval_tmp, RX.eval_const, List.getD_cons_zero, List.getD_cons_succ]; rfl) (by simp only [RX.put_some, RX.put_none, List.set_cons_zero, List.set_cons_succ]; rfl) ?_
               refine hR _ _ ?_; clear hR R)
            | (refine RX.one_float (by first | rfl | (rw [HO.out]; rfl)) rfl rfl rfl ?_
               apply Exists.intro; apply Exists.intro
               refine ⟨fun w' hS K hK => ?_, ?_, ?_⟩
               · have hS1 := hS; go_wp2; exact hK _ _ (by simp only [RX.arr_getD, List.getD_cons_zero, List.getD_cons_succ]; first | exact RX.dec_t (by omega) | exact RX.dec_f (by omega) | exact RX.beq_t (by omega) | exact RX.beq_f (by omega) | exact RX.bne_t (by omega) | exact RX.bne_f (by omega) | exact RX.bneB _ | rfl) rfl
               · simp only [RX.put_some, RX.put_none, List.set_cons_zero, List.set_cons_succ]; rfl
               refine hR _ _ ?_; clear hR R)
          refine RX.step (fun R hR => ?_)
          refine RX.one_chain (by first | rfl | (rw [HO.out]; rfl)) rfl (fun K hK => ?_)
          go_wp2
          refine ⟨(by (try have hLt := World.block_lt_of_cell? _ _ g2); (try simp only at hLt); (repeat first | rw [RX.cell_drew] | rw [World.cell?_setCell_other _ _ _ _ (by first | (simp; done) | (simp; omega) | omega)] | rw [RX.cell_alloc, if_neg (by first | (simp; done) | (simp; omega) | omega)]); first | exact g2 | (rw [RX.cell_alloc, if_pos (by first | (simp; done) | omega)]; exact g2)), hR _ _ ?_⟩; clear hR R
          repeat
            refine RX.step (fun R hR => ?_)
            first
            | (refine RX.one_skip (by first | rfl | (rw [HO.out]; rfl)) (by simp only [RX.put_some, RX.put_none, List.set_cons_zero, List.set_cons_succ]; rfl) ?_
               refine hR _ _ ?_; clear hR R)
            | (refine RX.one_move (by first | rfl | (rw [HO.out]; rfl)) rfl (by first | exact Or.inl rfl | exact Or.inr rfl) (by simp only [RX.eval_tmp, RX.eval_const, List.getD_cons_zero, List.getD_cons_succ]; rfl) (by simp only [RX.put_some, RX.put_none, List.set_cons_zero, List.set_cons_succ]; rfl) ?_
               refine hR _ _ ?_; clear hR R)
            | (refine RX.one_nil (by first | rfl | (rw [HO.out]; rfl)) rfl rfl (by simp only [RX.eval_tmp, RX.eval_const, List.getD_cons_zero, List.getD_cons_succ]; rfl) (by simp only [RX.put_some, RX.put_none, List.set_cons_zero, List.set_cons_succ]; rfl) ?_
               refine hR _ _ ?_; clear hR R)
            | (refine RX.one_float (by first | rfl | (rw [HO.out]; rfl)) rfl rfl rfl ?_
               apply Exists.intro; apply Exists.intro
               refine ⟨fun w' hS K hK => ?_, ?_, ?_⟩
               · have hS1 := hS; go_wp2; exact hK _ _ (by simp only [RX.arr_getD, List.getD_cons_zero, List.getD_cons_succ]; first | exact RX.dec_t (by omega) | exact RX.dec_f (by omega) | exact RX.beq_t (by omega) | exact RX.beq_f (by omega) | exact RX.bne_t (by omega) | exact RX.bne_f (by omega) | exact RX.bneB _ | rfl) rfl
               · simp only [RX.put_some, RX.put_none, List.set_cons_zero, List.set_cons_succ]; rfl
               refine hR _ _ ?_; clear hR R)
          refine RX.step (fun R hR => ?_)
          refine RX.one_chain (by first | rfl | (rw [HO.out]; rfl)) rfl (fun K hK => ?_)
          go_wp2_with fail
          refine (HQ.out _ (HZI.out.below (by repeat (first | (with_reducible assumption) | (with_reducible exact Below.refl _ _) | (with_reducible refine Below.setCell ?_ (by first | omega | (simp; done) | (simp; omega)) _) | (with_reducible refine Below.alloc ?_ (by first | omega | (simp; done) | (simp; omega)) _) | (with_reducible apply Below.drew) | assumption)))).mono ?_
          rintro e w3 ⟨rfl, hb3⟩
          replace hb3 : Below (wr.alloc (.cells #[.int .i64 0, .int .u64 0, .int .i64 0, .int .i64 0] 70)).heap.size (wr.alloc (.cells #[.int .i64 0, .int .u64 0, .int .i64 0, .int .i64 0] 70)) w3 := ⟨hb3.os, hb3.tape, hb3.output, hb3.size, hb3.block⟩
          have hba : Below wr.heap.size wr (wr.alloc (.cells #[.int .i64 0, .int .u64 0, .int .i64 0, .int .i64 0] 70)) := (Below.refl wr.heap.size wr).alloc (Nat.le_refl _) _
          have hPN : CertAt w3 wr.heap.size 0 0 0 0 := (CertAt.new wr 0 0 0 0).below hb3
          have hbb : Below wr.heap.size wr w3 := hba.trans (hb3.mono hba.size)
          have m2 := RX.keep hbb g2
          have HPN := Lib.hid hPN
          have HBB := Lib.hid hbb
          obtain ⟨r0, r1, r2, r3, s0, s1, s2, s3⟩ := hPN
          clear hba hb3 hbb g2
          refine hK _ _ ⟨m2, hR _ _ ?_⟩; clear hK K hR R
          repeat
            refine RX.step (fun R hR => ?_)
            first
            | (refine RX.one_skip (by first | rfl | (rw [HO.out]; rfl)) (by simp only [RX.put_some, RX.put_none, List.set_cons_zero, List.set_cons_succ]; rfl) ?_
               refine hR _ _ ?_; clear hR R)
            | (refine RX.one_move (by first | rfl | (rw [HO.out]; rfl)) rfl (by first | exact Or.inl rfl | exact Or.inr rfl) (by simp only [RX.eval_tmp, RX.eval_const, List.getD_cons_zero, List.getD_cons_succ]; rfl) (by simp only [RX.put_some, RX.put_none, List.set_cons_zero, List.set_cons_succ]; rfl) ?_
               refine hR _ _ ?_; clear hR R)
            | (refine RX.one_nil (by first | rfl | (rw [HO.out]; rfl)) rfl rfl (by simp only [RX.eval_tmp, RX.eval_const, List.getD_cons_zero, List.getD_cons_succ]; rfl) (by simp only [RX.put_some, RX.put_none, List.set_cons_zero, List.set_cons_succ]; rfl) ?_
               refine hR _ _ ?_; clear hR R)
            | (refine RX.one_float (by first | rfl | (rw [HO.out]; rfl)) rfl rfl rfl ?_
               apply Exists.intro; apply Exists.intro
               refine ⟨fun w' hS K hK => ?_, ?_, ?_⟩
               · have hS1 := hS; go_wp2; exact hK _ _ (by simp only [RX.arr_getD, List.getD_cons_zero, List.getD_cons_succ]; first | exact RX.dec_t (by omega) | exact RX.dec_f (by omega) | exact RX.beq_t (by omega) | exact RX.beq_f (by omega) | exact RX.bne_t (by omega) | exact RX.bne_f (by omega) | exact RX.bneB _ | rfl) rfl
               · simp only [RX.put_some, RX.put_none, List.set_cons_zero, List.set_cons_succ]; rfl
               refine hR _ _ ?_; clear hR R)
          refine RX.step (fun R hR => ?_)
          refine RX.one_chain (by first | rfl | (rw [HO.out]; rfl)) rfl (fun K hK => ?_)
          go_wp2
          refine ⟨(by (try have hLt := World.block_lt_of_cell? _ _ m2); (try simp only at hLt); (repeat first | rw [RX.cell_drew] | rw [World.cell?_setCell_other _ _ _ _ (by first | (simp; done) | (simp; omega) | omega)] | rw [RX.cell_alloc, if_neg (by first | (simp; done) | (simp; omega) | omega)]); first | exact m2 | (rw [RX.cell_alloc, if_pos (by first | (simp; done) | omega)]; exact m2)), hR _ _ ?_⟩; clear hR R
          repeat
            refine RX.step (fun R hR => ?_)
            first
            | (refine RX.one_skip (by first | rfl | (rw [HO.out]; rfl)) (by simp only [RX.put_some, RX.put_none, List.set_cons_zero, List.set_cons_succ]; rfl) ?_
               refine hR _ _ ?_; clear hR R)
            | (refine RX.one_move (by first | rfl | (rw [HO.out]; rfl)) rfl (by first | exact Or.inl rfl | exact Or.inr rfl) (by simp only [RX.eval_tmp, RX.eval_const, List.getD_cons_zero, List.getD_cons_succ]; rfl) (by simp only [RX.put_some, RX.put_none, List.set_cons_zero, List.set_cons_succ]; rfl) ?_
               refine hR _ _ ?_; clear hR R)
            | (refine RX.one_nil (by first | rfl | (rw [HO.out]; rfl)) rfl rfl (by simp only [RX.eval_tmp, RX.eval_const, List.getD_cons_zero, List.getD_cons_succ]; rfl) (by simp only [RX.put_some, RX.put_none, List.set_cons_zero, List.set_cons_succ]; rfl) ?_
               refine hR _ _ ?_; clear hR R)
            | (refine RX.one_float (by first | rfl | (rw [HO.out]; rfl)) rfl rfl rfl ?_
               apply Exists.intro; apply Exists.intro
               refine ⟨fun w' hS K hK => ?_, ?_, ?_⟩
               · have hS1 := hS; go_wp2; exact hK _ _ (by simp only [RX.arr_getD, List.getD_cons_zero, List.getD_cons_succ]; first | exact RX.dec_t (by omega) | exact RX.dec_f (by omega) | exact RX.beq_t (by omega) | exact RX.beq_f (by omega) | exact RX.bne_t (by omega) | exact RX.bne_f (by omega) | exact RX.bneB _ | rfl) rfl
               · simp only [RX.put_some, RX.put_none, List.set_cons_zero, List.set_cons_succ]; rfl
               refine hR _ _ ?_; clear hR R)
          refine RX.wpL_nil (hQR _ _ ?_); clear hQR QR HO OPS
          have HPA := Lib.hid (HPN.out.put C D a 0)
          have HBF : Hid (Below wr.heap.size wr ((((w3.setCell ⟨wr.heap.size, 0, none⟩ (.int .i64 C)).setCell ⟨wr.heap.size, 1, none⟩ (.int .u64 D)).setCell ⟨wr.heap.size, 2, none⟩ (.int .i64 a)).setCell ⟨wr.heap.size, 3, none⟩ (.int .i64 0))) :=
            Lib.hid ((((HBB.out.setCell (Nat.le_refl _) _).setCell (Nat.le_refl _) _).setCell (Nat.le_refl _) _).setCell (Nat.le_refl _) _)
          go_wp2_with fail
          go_meet
          case rel => exact ⟨_, rfl, Nat.le_refl _, HPA.out, HBF.out⟩
      case rest =>
        obtain ⟨o, rfl, ho, hPA, hbc⟩ := hcut
        have v0 := RX.keep hbc z0
        have v1 := RX.keep hbc z1
        have v2 := RX.keep hbc z2
        have v3 := RX.keep hbc z3
        have vf : ∀ k, wc.frozen? ⟨w.heap.size + 1, k, none⟩ = false := fun k => (hbc.frozen (p := ⟨w.heap.size + 1, k, none⟩) hsr).trans (zf k)
        have HB3 := Lib.hid (HBr.out.trans (hbc.mono HBr.out.size))
        have hwo : w.heap.size + 1 < o := by omega
        have HPA := Lib.hid hPA
        obtain ⟨r0, r1, r2, r3, s0, s1, s2, s3⟩ := hPA
        clear hbc z0 z1 z2 z3 zf g2
        go_wp2_with fail
        refine (radius_ok C D a _ HCB.out.2.1 HCB.out.2.2 HCB.out.1.1 (by have := HCD.out; have := HSQ.out; omega) HA.out.1 HA.out.2).mono ?_
        rintro e w4 ⟨r, rfl, hr1, hr2, hr3, hb5⟩
        have HB5 := Lib.hid (HB3.out.trans (hb5.mono HB3.out.size))
        have HPA2 := HPA.out.below hb5
        have hwl : w.heap.size + 1 < wc.heap.size := World.block_lt_of_cell? _ _ v0
        have x0 := RX.keep hb5 v0
        have x1 := RX.keep hb5 v1
        have x2 := RX.keep hb5 v2
        have x3 := RX.keep hb5 v3
        have xf : ∀ k, w4.frozen? ⟨w.heap.size + 1, k, none⟩ = false := fun k => (hb5.frozen (p := ⟨w.heap.size + 1, k, none⟩) hwl).trans (vf k)
        have xf0 := xf 0
        have xf1 := xf 1
        have xf2 := xf 2
        have xf3 := xf 3
        have HR := Lib.hid (And.intro hr1 (And.intro hr2 hr3))
        clear hb5 hr1 hr2 hr3 v0 v1 v2 v3 vf r0 r1 r2 r3 s0 s1 s2 s3 xf HPA hwl
        obtain ⟨r0, r1, r2, r3, s0, s1, s2, s3⟩ := HPA2
        have hoi : ¬ (o = w.heap.size + 1) := by omega
        have hio : ¬ (w.heap.size + 1 = o) := by omega
        go_wp2
        refine absW (F := fun w' => w'.cell? ⟨w.heap.size + 1, 0, none⟩ = some (.int .i64 C) ∧ w'.cell? ⟨w.heap.size + 1, 1, none⟩ = some (.int .u64 D) ∧ w'.cell? ⟨w.heap.size + 1, 2, none⟩ = some (.int .i64 a) ∧ w'.cell? ⟨w.heap.size + 1, 3, none⟩ = some (.int .i64 r) ∧ Below w.heap.size w w') ⟨(by (repeat rw [World.cell?_setCell_other _ _ _ _ (by first | (simp; done) | (simp; omega))]); exact World.cell?_setCell_same' _ _ _ (by (repeat rw [World.cell?_setCell_other _ _ _ _ (by first | (simp; done) | (simp; omega))]); rw [x0]; rfl)), (by (repeat rw [World.cell?_setCell_other _ _ _ _ (by first | (simp; done) | (simp; omega))]); exact World.cell?_setCell_same' _ _ _ (by (repeat rw [World.cell?_setCell_other _ _ _ _ (by first | (simp; done) | (simp; omega))]); rw [x1]; rfl)), (by (repeat rw [World.cell?_setCell_other _ _ _ _ (by first | (simp; done) | (simp; omega))]); exact World.cell?_setCell_same' _ _ _ (by (repeat rw [World.cell?_setCell_other _ _ _ _ (by first | (simp; done) | (simp; omega))]); rw [x2]; rfl)), (by (repeat rw [World.cell?_setCell_other _ _ _ _ (by first | (simp; done) | (simp; omega))]); exact World.cell?_setCell_same' _ _ _ (by (repeat rw [World.cell?_setCell_other _ _ _ _ (by first | (simp; done) | (simp; omega))]); rw [x3]; rfl)), ((((HB5.out.setCell (by simp <;> omega) _).setCell (by simp) _).setCell (by simp) _).setCell (by simp) _).setCell (by simp) _⟩ ?_
        rintro W4 ⟨t0, t1, t2, t3, hBB⟩
        refine bodyPost_ret (v := .tuple #[.agg #[.int .i64 C, .int .u64 D, .int .i64 a, .int .i64 r], .int .i64 0]) ?_ rfl ⟨C, D, r, HWV.out, rfl, ⟨HR.out.1, by rw [← HCD.out]; exact HR.out.2.1, fun j hj => by rw [← HCD.out]; exact HR.out.2.2 j hj⟩, hBB⟩
        simp [results, Tryz.results42, go_sem, t0, t1, t2, t3]
end Go.Proofs.YtojkamfabapcoaaGreatDoor
