import Derived.Test.YtblgchhmcifdgaaGreatDoorKTerms
import Derived.Test.YtblgchhmcifdgaaGreatDoorLinQ
import Derived.Test.YtblgchhmcifdgaaGreatDoorListP
import Derived.Test.YtblgchhmcifdgaaGreatDoorKAwake
import Derived.Test.YtblgchhmcifdgaaGreatDoorKInts
import Derived.Test.YtblgchhmcifdgaaGreatDoorKGenS
import Derived.Test.YtblgchhmcifdgaaGreatDoorKCodes
set_option linter.unusedSimpArgs false
set_option linter.unusedVariables false
namespace Go.Proofs.YtblgchhmcifdgaaGreatDoor
open Go.RowKit Go.Grid

/-! The cost in plain words: the product is linear and symmetric; the diagonal. -/
def dotT (T : List (Int × Int)) (y : List Int) : Int := (T.map (fun c => c.2 * y.getD c.1.toNat 0)).sum
theorem dotT_append (T U : List (Int × Int)) (y : List Int) : dotT (T ++ U) y = dotT T y + dotT U y := by simp [dotT]
theorem dotT_cons (c : Int × Int) (T : List (Int × Int)) (y : List Int) : dotT (c :: T) y = c.2 * y.getD c.1.toNat 0 + dotT T y := by simp [dotT]
def InT (n : Nat) (T : List (Int × Int)) : Prop := ∀ c ∈ T, c.1.toNat < n
theorem dot_spread : ∀ (T : List (Int × Int)) (o y : List Int), o.length = y.length → InT o.length T → dotL (spread o T) y = dotL o y + dotT T y
  | [], o, y, _, _ => by simp [spread, dotT]
  | c :: T, o, y, h, hT => by
    have h1 : (addT o c).length = y.length := by rw [addT_len]; exact h
    rw [show spread o (c :: T) = spread (addT o c) T from rfl, dot_spread T (addT o c) y h1 (by rw [addT_len]; exact fun d hd => hT d (by simp [hd])), dotT_cons]
    unfold addT
    rw [dotL_set _ _ _ _ h (hT c (by simp))]
    have e : o.getD c.1.toNat 0 + c.2 - o.getD c.1.toNat 0 = c.2 := by omega
    rw [e]; omega
theorem inT_row {M : Nat} {p : Rw × Int} (h : ∀ c ∈ p.1.sh, ShOk M c) : InT M (rowT p) := fun d hd => by
  obtain ⟨c, hc, rfl⟩ := List.mem_map.1 hd
  have := (h c hc).1
  show c.1.toNat < M; omega
theorem inT_all {M : Nat} {RF : List (Rw × Int)} (h : ∀ p ∈ RF, ∀ c ∈ p.1.sh, ShOk M c) : InT M (tAll RF) := fun d hd => by
  obtain ⟨p, hp, hd⟩ := List.mem_flatMap.1 hd
  exact inT_row (h p hp) d hd
theorem valL_dot {S : List (Int × Int)} {x : List Int} (h : ∀ c ∈ S, ShOk x.length c) : valL S x = dotT S x := by
  unfold valL dotT
  congr 1
  apply List.map_congr_left
  intro c hc
  unfold valT
  rw [if_pos (h c hc).1]
theorem dotT_row (p : Rw × Int) (y : List Int) : dotT (rowT p) y = p.1.weight * p.2 * dotT p.1.sh y := by
  unfold rowT
  have key : ∀ S : List (Int × Int), dotT (S.map (fun c => (c.1, c.2 * (p.1.weight * p.2)))) y = p.1.weight * p.2 * dotT S y := by
    intro S
    induction S with
    | nil => simp [dotT]
    | cons c S ih =>
      rw [List.map_cons, dotT_cons, dotT_cons, ih, Int.mul_add]
      dsimp only
      congr 1
      rw [Int.mul_comm c.2, Int.mul_assoc]
  exact key _
/-- The part of the rows. -/
def qr (S : Sy) (x y : List Int) : Int := (S.rows.map (fun r => r.weight * dotT r.sh x * dotT r.sh y)).sum
theorem qr_comm (S : Sy) (x y : List Int) : qr S x y = qr S y x := by
  unfold qr
  congr 1
  apply List.map_congr_left
  intro r _
  rw [Int.mul_assoc, Int.mul_comm (dotT r.sh x), ← Int.mul_assoc]
theorem SyOk.inR {S : Sy} (h : SyOk S) {x : List Int} (hx : x.length = S.n) : InR x.length (edgesL S.f.toNat) := by
  have h1 := h.1
  unfold PrOk at h1
  refine edges_InR (by omega) (by omega) ?_
  rw [hx, h.nodes.1, Int.toNat_of_nonneg (by omega)]
theorem dotT_rfM {S : Sy} (h : SyOk S) {x : List Int} (hx : x.length = S.n) (y : List Int) : dotT (tAll (rfM S x)) y = qr S x y := by
  have key : ∀ R : List Rw, (∀ r ∈ R, ∀ c ∈ r.sh, ShOk x.length c) → dotT (tAll (R.map (fun r => (r, valL r.sh x)))) y = (R.map (fun r => r.weight * dotT r.sh x * dotT r.sh y)).sum := by
    intro R
    induction R with
    | nil => intro _; simp [tAll, dotT]
    | cons r R ih =>
      intro h0
      rw [List.map_cons, show tAll ((r, valL r.sh x) :: R.map (fun r => (r, valL r.sh x))) = rowT (r, valL r.sh x) ++ tAll (R.map (fun r => (r, valL r.sh x))) by simp [tAll], dotT_append, ih (fun r hr => h0 r (by simp [hr])), dotT_row, valL_dot (h0 r (by simp))]
      simp
  exact key S.rows (fun r hr c hc => by rw [hx]; exact (h.row hr).1 c hc)
theorem dot_mult {S : Sy} (h : SyOk S) {x y : List Int} (hx : x.length = S.n) (hy : y.length = S.n) : dotL (multL S x) y = S.a * dotL x y + S.s * qf x y (edgesL S.f.toNat) + qr S x y := by
  unfold multL
  rw [dot_spread _ _ _ (by rw [apL_len, hx, hy]) (by rw [apL_len, hx]; exact inT_all (fun p hp c hc => by
    obtain ⟨r, hr, rfl⟩ := List.mem_map.1 hp
    exact (h.row hr).1 c hc)), dot_apply _ _ _ _ _ (by rw [hx, hy]) (h.inR hx), dotT_rfM h hx]
theorem mult_symm {S : Sy} (h : SyOk S) {x y : List Int} (hx : x.length = S.n) (hy : y.length = S.n) : dotL (multL S x) y = dotL x (multL S y) := by
  rw [dot_mult h hx hy, dotL_comm x (multL S y), dot_mult h hy hx, dotL_comm y x, qf_comm y x, qr_comm S y x]
/-! ### Unit vectors -/
def unitL (n k : Nat) : List Int := (List.replicate n 0).set k 1
theorem unitL_len (n k : Nat) : (unitL n k).length = n := by simp [unitL]
theorem dot_rep0 : ∀ (x : List Int) (n : Nat), dotL x (List.replicate n 0) = 0
  | [], n => dotL_nil _
  | a :: x, 0 => by simp [dotL]
  | a :: x, n + 1 => by rw [List.replicate_succ]; simp [dotL, dot_rep0 x n]
theorem dot_unit {x : List Int} {n k : Nat} (hx : x.length = n) (hk : k < n) : dotL x (unitL n k) = x.getD k 0 := by
  unfold unitL
  rw [dotL_comm, dotL_set _ _ _ _ (by simp [hx]) (by simpa using hk), dotL_comm, dot_rep0]
  have : (List.replicate n (0 : Int)).getD k 0 = 0 := by rw [List.getD, List.getElem?_replicate]; split <;> rfl
  rw [this]; simp
theorem ext_dot {x y : List Int} {n : Nat} (hx : x.length = n) (hy : y.length = n) (h : ∀ u : List Int, u.length = n → dotL x u = dotL y u) : x = y := by
  apply List.ext_getElem (by rw [hx, hy])
  intro k h1 h2
  have := h (unitL n k) (unitL_len n k)
  rw [dot_unit hx (by omega), dot_unit hy (by omega), i64_get h1, i64_get h2] at this
  exact this
theorem dot_addL : ∀ x y u : List Int, x.length = y.length → dotL (addL x y) u = dotL x u + dotL y u
  | [], [], u, _ => by simp [addL, dotL_nil]
  | a :: x, b :: y, [], _ => by simp [addL, dotL]
  | a :: x, b :: y, c :: u, h => by
    have ih := dot_addL x y u (by simpa using h)
    simp only [addL, List.zipWith_cons_cons, dotL] at ih ⊢
    rw [ih, Int.add_mul]; omega
theorem dotT_addL (T : List (Int × Int)) {x y : List Int} (h : x.length = y.length) : dotT T (addL x y) = dotT T x + dotT T y := by
  induction T with
  | nil => simp [dotT]
  | cons c T ih => rw [dotT_cons, dotT_cons, dotT_cons, ih, addL_getD h, Int.mul_add]; omega
theorem qf_addL (u : List Int) {x y : List Int} (h : x.length = y.length) : ∀ D, qf (addL x y) u D = qf x u D + qf y u D
  | [] => by simp [qf]
  | e :: D => by
    simp only [qf]
    rw [qf_addL u h D, addL_getD h, addL_getD h]
    have : (x.getD e.1.toNat 0 + y.getD e.1.toNat 0 - (x.getD e.2.toNat 0 + y.getD e.2.toNat 0)) = (x.getD e.1.toNat 0 - x.getD e.2.toNat 0) + (y.getD e.1.toNat 0 - y.getD e.2.toNat 0) := by omega
    rw [this, Int.add_mul]; omega
theorem qr_addL (S : Sy) (u : List Int) {x y : List Int} (h : x.length = y.length) : qr S (addL x y) u = qr S x u + qr S y u := by
  unfold qr
  have key : ∀ R : List Rw, (R.map (fun r => r.weight * dotT r.sh (addL x y) * dotT r.sh u)).sum = (R.map (fun r => r.weight * dotT r.sh x * dotT r.sh u)).sum + (R.map (fun r => r.weight * dotT r.sh y * dotT r.sh u)).sum := by
    intro R
    induction R with
    | nil => simp
    | cons r R ih =>
      simp only [List.map_cons, List.sum_cons]
      rw [ih, dotT_addL _ h, Int.mul_add, Int.add_mul]; omega
  exact key _
theorem mult_add {S : Sy} (h : SyOk S) {x y : List Int} (hx : x.length = S.n) (hy : y.length = S.n) : multL S (addL x y) = addL (multL S x) (multL S y) := by
  have hxy : x.length = y.length := by omega
  have ha : (addL x y).length = S.n := by rw [addL_len hxy]; exact hx
  refine ext_dot (n := S.n) (by rw [multL_len, ha]) (by rw [addL_len (by rw [multL_len, multL_len]; exact hxy), multL_len, hx]) (fun u hu => ?_)
  rw [dot_addL _ _ _ (by rw [multL_len, multL_len]; exact hxy), dot_mult h ha hu, dot_mult h hx hu, dot_mult h hy hu, dot_addL _ _ _ hxy, qf_addL _ hxy, qr_addL _ _ hxy, Int.mul_add, Int.mul_add]
  omega
/-! ### The diagonal -/
theorem unit_get {n k i : Nat} (hi : i < n) (hk : k < n) : (unitL n k).getD i 0 = if i = k then 1 else 0 := by
  rw [i64_get (by rw [unitL_len]; exact hi)]
  unfold unitL
  rw [List.getElem_set]
  by_cases h : k = i
  · rw [if_pos h, if_pos h.symm]
  · rw [if_neg h, if_neg (fun e => h e.symm)]; simp
theorem dotT_edges {s : Int} {n k : Nat} (hk : k < n) : ∀ D : List I2, InR n D → (∀ e ∈ D, e.1.toNat ≠ e.2.toNat) → dotT (D.flatMap (eT s)) (unitL n k) = s * qf (unitL n k) (unitL n k) D
  | [], _, _ => by simp [dotT, qf]
  | e :: D, h, h2 => by
    have ih := dotT_edges (s := s) hk D (fun d hd => h d (by simp [hd])) (fun d hd => h2 d (by simp [hd]))
    obtain ⟨h3, h4⟩ := h e (by simp)
    have h5 := h2 e (by simp)
    rw [List.flatMap_cons, dotT_append, ih]
    simp only [qf, eT, dotT_cons]
    rw [unit_get h3 hk, unit_get h4 hk]
    have e0 : dotT [] (unitL n k) = 0 := rfl
    rw [e0, Int.mul_add]
    by_cases a : e.1.toNat = k
    · by_cases b : e.2.toNat = k
      · omega
      · rw [if_pos a, if_neg b]; simp
    · by_cases b : e.2.toNat = k
      · rw [if_neg a, if_pos b]; simp
      · rw [if_neg a, if_neg b]; simp
theorem asc_tail {c : Int × Int} {S : List (Int × Int)} (h : AscA (c :: S)) : AscA S := fun i hi => by
  have := h (i + 1) (by simp; omega)
  simpa using this
theorem dotT_later {n k : Nat} (hk : k < n) : ∀ S : List (Int × Int), (∀ c ∈ S, ShOk n c) → (∀ c ∈ S, (k : Int) < c.1) → dotT S (unitL n k) = 0
  | [], _, _ => rfl
  | c :: S, h, h2 => by
    have h3 := (h c (by simp)).1
    have h4 := h2 c (by simp)
    rw [dotT_cons, dotT_later hk S (fun d hd => h d (by simp [hd])) (fun d hd => h2 d (by simp [hd])), unit_get (by omega) hk, if_neg (by omega)]; simp
theorem asc_head {c : Int × Int} {S : List (Int × Int)} (h : AscA (c :: S)) : ∀ d ∈ S, c.1 < d.1 := fun d hd => by
  obtain ⟨i, hi, rfl⟩ := List.getElem_of_mem hd
  have := asc_lt h (i + 1) (by simp; omega) 0 (by omega)
  simp only [List.getElem_cons_zero, List.getElem_cons_succ] at this
  omega
theorem dotT_sq {wt : Int} {n k : Nat} (hk : k < n) : ∀ S : List (Int × Int), AscA S → (∀ c ∈ S, ShOk n c) → dotT (S.map (fun c => (c.1, wt * c.2 * c.2))) (unitL n k) = wt * dotT S (unitL n k) * dotT S (unitL n k)
  | [], _, _ => by simp [dotT]
  | c :: S, h, h2 => by
    have ih := dotT_sq (wt := wt) hk S (asc_tail h) (fun d hd => h2 d (by simp [hd]))
    have h3 := (h2 c (by simp)).1
    rw [List.map_cons, dotT_cons, dotT_cons, ih]
    dsimp only
    rw [unit_get (by omega) hk]
    by_cases a : c.1.toNat = k
    · have h4 := dotT_later hk S (fun d hd => h2 d (by simp [hd])) (fun d hd => by have := asc_head h d hd; omega)
      rw [if_pos a, h4]; simp
    · rw [if_neg a]; simp
theorem diag_unit {S : Sy} (h : SyOk S) {k : Nat} (hk : k < S.n) : (multL S (unitL S.n k)).getD k 0 = (diagL S).getD k 0 := by
  have hu := unitL_len S.n k
  have hp := h.1
  unfold PrOk at hp
  have hR := h.inR hu
  rw [hu] at hR
  rw [← dot_unit (x := multL S (unitL S.n k)) (n := S.n) (by rw [multL_len, hu]) hk, ← dot_unit (x := diagL S) (n := S.n) (diagL_len S) hk, dot_mult h hu hu]
  unfold diagL diagE
  have hin : ∀ e ∈ edgesL S.f.toNat, e.1.toNat < S.n ∧ e.2.toNat < S.n := hR
  rw [dot_spread _ _ _ (by rw [spread_len, List.length_replicate, hu]) (by
      rw [spread_len, List.length_replicate]
      intro d hd
      obtain ⟨r, hr, hd⟩ := List.mem_flatMap.1 hd
      obtain ⟨c, hc, rfl⟩ := List.mem_map.1 hd
      have := ((h.row hr).1 c hc).1
      show c.1.toNat < S.n; omega),
    dot_spread _ _ _ (by rw [List.length_replicate, hu]) (by
      rw [List.length_replicate]
      intro d hd
      obtain ⟨e, he, hd⟩ := List.mem_flatMap.1 hd
      simp only [eT, List.mem_cons, List.not_mem_nil, or_false] at hd
      rcases hd with rfl | rfl
      · exact (hin e he).1
      · exact (hin e he).2),
    dotT_edges hk _ hR (fun e he => by
      have h1 := edge_asc (n := S.f.toNat) (by omega) (by omega) he
      have h2 := (edges_in (n := S.f.toNat) (by omega) (by omega) e he)
      omega)]
  have e1 : dotL (List.replicate S.n S.a) (unitL S.n k) = S.a * dotL (unitL S.n k) (unitL S.n k) := by
    rw [dot_unit (by simp) hk, dot_unit hu hk, unit_get hk hk, if_pos rfl, i64_get (by simpa using hk)]; simp
  have e2 : dotT (S.rows.flatMap rowD) (unitL S.n k) = qr S (unitL S.n k) (unitL S.n k) := by
    have key : ∀ R : List Rw, (∀ r ∈ R, AscA r.sh ∧ ∀ c ∈ r.sh, ShOk S.n c) → dotT (R.flatMap rowD) (unitL S.n k) = (R.map (fun r => r.weight * dotT r.sh (unitL S.n k) * dotT r.sh (unitL S.n k))).sum := by
      intro R
      induction R with
      | nil => intro _; simp [dotT]
      | cons r R ih =>
        intro h0
        rw [List.flatMap_cons, dotT_append, ih (fun r hr => h0 r (by simp [hr])), List.map_cons, List.sum_cons]
        unfold rowD
        rw [dotT_sq hk r.sh (h0 r (by simp)).1 (h0 r (by simp)).2]
    refine key S.rows (fun r hr => ⟨?_, (h.row hr).1⟩)
    obtain ⟨i, hi, rfl⟩ := List.getElem_of_mem hr
    exact (h.2.2.2 i hi (by have := h.2.2.1; omega)).1
  rw [e1, e2]
end Go.Proofs.YtblgchhmcifdgaaGreatDoor

set_option linter.unusedSimpArgs false
set_option linter.unusedVariables false
namespace Go.Proofs.YtblgchhmcifdgaaGreatDoor
open Go.RowKit Go.Grid

/-! awake of the chapter on the cost. -/
def sy0 : Sy := ⟨1, 1, 1, [], []⟩
theorem sy0_ok : SyOk sy0 := ⟨by unfold PrOk sy0; decide, by simp [sy0], by simp [sy0], fun i h1 h2 => by simp [sy0] at h1⟩
def ze12 : List Int := [0, 0, 0, 0, 0, 0, 0, 0, 0, 0, 0, 0]
set_option maxRecDepth 100000 in
theorem awake_res : resL sy0 ze12 = ze12 := by
  unfold resL rightL multL rfM lessL sy0
  rw [edges_fast]; decide +kernel
set_option maxRecDepth 100000 in
theorem awake_diag : (diagL sy0)[3]? = some 6 := by
  unfold diagL diagE sy0
  rw [edges_fast]; decide +kernel
set_option maxRecDepth 100000 in
set_option maxHeartbeats 2000000 in
theorem awake23_any (w : World) (hT : HasTab w) : Calls Tryz.prog 9 #[] w fun e w' => e = .returned (.bool true) ∧ Below w.heap.size w w' := by
  have hmk : ∀ w, (Instr.makeSlice 25 (.int .i64 12) (.int .i64 12)).run Tryz.prog w = .ok (.slice (some ⟨w.heap.size, 0, none⟩) 12 12) (w.alloc (.cells #[.int .i64 0, .int .i64 0, .int .i64 0, .int .i64 0, .int .i64 0, .int .i64 0, .int .i64 0, .int .i64 0, .int .i64 0, .int .i64 0, .int .i64 0, .int .i64 0] 3)) := fun _ => by kernel_rfl
  have HS : Hid (∀ w', SysIn w' (.agg #[.int .i64 1, .int .i64 1, .int .i64 1, .slice none 0 0, .slice none 0 0]) sy0) := Lib.hid (fun w' => ⟨none, 0, none, 0, rfl, Nat.zero_le _, Nat.zero_le _, ⟨0, 0, fun h => by simp [sy0] at h, fun k hk => by simp [sy0] at hk⟩, ⟨0, 0, fun h => by simp [sy0] at h, fun k hk => by simp [sy0] at hk⟩⟩)
  have HR : Hid (∀ (p : Option Addr) (xc : Nat) (w' : World), HasTab w' → VecAt w' p ze12 → Calls Tryz.prog 25 #[.agg #[.int .i64 1, .int .i64 1, .int .i64 1, .slice none 0 0, .slice none 0 0], .slice p 12 xc] w' fun e w'' => ∃ N, e = .returned (.tuple #[.slice (some ⟨N, 0, none⟩) 12 12, .int .i64 0]) ∧ IntsAt w'' N 0 ze12 ∧ w'.heap.size ≤ N ∧ Below w'.heap.size w' w'') := Lib.hid (fun p xc w' h1 h2 => by
    have h := cresid_ok sy0 _ p ze12 xc w' h1 (HS.out w') sy0_ok h2 ⟨sy0_ok.1, by unfold ze12 sy0; decide, by unfold ze12; decide⟩
    rw [awake_res] at h
    exact h)
  have HD : Hid (∀ (w' : World), HasTab w' → Calls Tryz.prog 30 #[.agg #[.int .i64 1, .int .i64 1, .int .i64 1, .slice none 0 0, .slice none 0 0]] w' fun e w'' => ∃ N, e = .returned (.tuple #[.slice (some ⟨N, 0, none⟩) 12 12, .int .i64 0]) ∧ w''.cell? ⟨N, 3, none⟩ = some (.int .i64 6) ∧ Below w'.heap.size w' w'') := Lib.hid (fun w' h1 => by
    refine (cdiag_ok sy0 _ w' h1 (HS.out w') sy0_ok).mono ?_
    rintro e w'' ⟨N, rfl, hI, _, hb⟩
    refine ⟨N, rfl, ?_, hb⟩
    have hl : 3 < (diagL sy0).length := by rw [diagL_len]; decide
    have h := (hI 3 hl).1
    have h2 := awake_diag
    rw [List.getElem?_eq_getElem hl] at h2
    injection h2 with h2
    rw [h2] at h
    exact h)
  have HK : Hid (∀ (p q : Option Addr) (cz cy : Nat) (w' : World), VecAt w' p ze12 → VecAt w' q ze12 → Calls Tryz.prog 27 #[.slice p 12 cz, .slice q 12 cy] w' fun e w'' => e = .returned (.bool true) ∧ Below w'.heap.size w' w'') := Lib.hid (fun p q cz cy w' h1 h2 => by
    have h := kints_len p q ze12 ze12 cz cy w' h1 h2 rfl (by unfold ze12; decide)
    rw [show decide (ze12 = ze12) = true from decide_eq_true rfl] at h
    exact h)
  clear HS
  go_enter Tryz.func9, Tryz.ntmps9
  go_wp2_with fail
  have hV : VecAt ((w.alloc (.cells #[.int .i64 1, .int .i64 1, .int .i64 1, .slice none 0 0, .slice none 0 0] 27)).alloc (.cells #[.int .i64 0, .int .i64 0, .int .i64 0, .int .i64 0, .int .i64 0, .int .i64 0, .int .i64 0, .int .i64 0, .int .i64 0, .int .i64 0, .int .i64 0, .int .i64 0] 3)) (some ⟨w.heap.size + 1, 0, none⟩) ze12 := by
    refine ⟨w.heap.size + 1, 0, fun _ => rfl, fun j hj => ?_⟩
    have : j = 0 ∨ j = 1 ∨ j = 2 ∨ j = 3 ∨ j = 4 ∨ j = 5 ∨ j = 6 ∨ j = 7 ∨ j = 8 ∨ j = 9 ∨ j = 10 ∨ j = 11 := by simp [ze12] at hj; omega
    rcases this with rfl | rfl | rfl | rfl | rfl | rfl | rfl | rfl | rfl | rfl | rfl | rfl <;> simp [RX.cell_alloc, ze12]
  refine (HR.out _ _ _ (hT.below (by repeat (first | (with_reducible assumption) | (with_reducible exact Below.refl _ _) | (with_reducible refine Below.setCell ?_ (by first | omega | (simp; done) | (simp; omega)) _) | (with_reducible refine Below.alloc ?_ (by first | omega | (simp; done) | (simp; omega)) _) | (with_reducible apply Below.drew) | assumption))) hV).mono ?_
  rintro e w1 ⟨N, rfl, hI, hN, hb1⟩
  have hB : Below w.heap.size w w1 := Below.trans (by repeat (first | (with_reducible assumption) | (with_reducible exact Below.refl _ _) | (with_reducible refine Below.setCell ?_ (by first | omega | (simp; done) | (simp; omega)) _) | (with_reducible refine Below.alloc ?_ (by first | omega | (simp; done) | (simp; omega)) _) | (with_reducible apply Below.drew) | assumption)) (hb1.mono (by simp <;> omega))
  have hV1 := hV.below hb1
  have hI1 : VecAt w1 (some ⟨N, 0, none⟩) ze12 := ⟨N, 0, fun _ => rfl, fun j hj => (hI j hj).1⟩
  have q0 : w1.cell? ⟨w.heap.size, 0, none⟩ = some (.int .i64 1) := RX.keep hb1 (by simp [RX.cell_drew, RX.cell_alloc, Nat.add_assoc])
  have q1 : w1.cell? ⟨w.heap.size, 1, none⟩ = some (.int .i64 1) := RX.keep hb1 (by simp [RX.cell_drew, RX.cell_alloc, Nat.add_assoc])
  have q2 : w1.cell? ⟨w.heap.size, 2, none⟩ = some (.int .i64 1) := RX.keep hb1 (by simp [RX.cell_drew, RX.cell_alloc, Nat.add_assoc])
  have q3 : w1.cell? ⟨w.heap.size, 3, none⟩ = some (.slice none 0 0) := RX.keep hb1 (by simp [RX.cell_drew, RX.cell_alloc, Nat.add_assoc])
  have q4 : w1.cell? ⟨w.heap.size, 4, none⟩ = some (.slice none 0 0) := RX.keep hb1 (by simp [RX.cell_drew, RX.cell_alloc, Nat.add_assoc])
  clear hb1 hV hI
  go_wp2_with fail
  refine (HD.out _ (hT.below hB)).mono ?_
  rintro e w2 ⟨M, rfl, d3, hb2⟩
  have hB2 := hB.trans (hb2.mono hB.size)
  have hV2 := hV1.below hb2
  have hI2 := hI1.below hb2
  clear hb2 hB hV1 hI1 q0 q1 q2 q3 q4
  go_wp2_with fail
  refine (HK.out _ _ _ _ _ hI2 hV2).mono ?_
  rintro e w3 ⟨rfl, hb3⟩
  have d3' := RX.keep hb3 d3
  have hB3 := hB2.trans (hb3.mono hB2.size)
  clear hb3 d3 hI2 hV2 hB2
  go_wp2
  go_ret
  exact ⟨rfl, hB3⟩
end Go.Proofs.YtblgchhmcifdgaaGreatDoor

set_option linter.unusedSimpArgs false
set_option linter.unusedVariables false
namespace Go.Proofs.YtblgchhmcifdgaaGreatDoor
open Go.RowKit Go.Grid Go.Shelf

/-- The reader and the precision that it has made: how a law of this chapter begins. -/
theorem start_any (W : World) (q : Option Addr) (cap cb co most : Nat) (L : List Int) (w : World) (hm : most ≤ 240) (hp : 0 < L.length → q = some ⟨cb, co, none⟩) (hl : L.length ≤ cap) (hc : cap ≤ 9223372036854775807)
    (hcell : ∀ k (h : k < L.length), W.cell? ⟨cb, co + k, none⟩ = some (.int .u8 L[k]) ∧ 0 ≤ L[k] ∧ L[k] < 256) (hB : Below W.heap.size W w) :
    Calls Tryz.prog 10 #[.slice q L.length cap, .int .i64 most] w fun e w' => ∃ (g b : Nat) (M : List Int), e = .returned (.pointer (some ⟨g, 0, none⟩)) ∧ g = w.heap.size ∧ Below w.heap.size w w' ∧ (0 < M.length → b < w.heap.size) ∧ CodesAt w' g b M 0 := by
  refine (new_any w q cap cb co most L hm hp hl hc (fun k hk => ⟨RX.keep hB (hcell k hk).1, (hcell k hk).2⟩)).mono ?_
  rintro e w' ⟨rfl, hb, b', hb', hC⟩
  exact ⟨w.heap.size, b', L.take most, rfl, rfl, hb, fun h0 => hb' (by simp at h0; omega), hC⟩


/-- A system in block P. -/
def Five (w : World) (P : Nat) (f s a : Int) (v1 v2 : Value) : Prop := w.cell? ⟨P, 0, none⟩ = some (.int .i64 f) ∧ w.cell? ⟨P, 1, none⟩ = some (.int .i64 s) ∧ w.cell? ⟨P, 2, none⟩ = some (.int .i64 a) ∧ w.cell? ⟨P, 3, none⟩ = some v1 ∧ w.cell? ⟨P, 4, none⟩ = some v2
theorem Five.below {w w' : World} {P : Nat} {f s a : Int} {v1 v2 : Value} (h : Five w P f s a v1 v2) (hb : Below w.heap.size w w') : Five w' P f s a v1 v2 := ⟨RX.keep hb h.1, RX.keep hb h.2.1, RX.keep hb h.2.2.1, RX.keep hb h.2.2.2.1, RX.keep hb h.2.2.2.2⟩
theorem Five.turn {w w' : World} {P k : Nat} {f s a : Int} {v1 v2 : Value} (h : Five w P f s a v1 v2) (hg : w.grownBy w' (some k)) (hne : P ≠ k) : Five w' P f s a v1 v2 := ⟨hg.cell h.1 (by simpa using hne), hg.cell h.2.1 (by simpa using hne), hg.cell h.2.2.1 (by simpa using hne), hg.cell h.2.2.2.1 (by simpa using hne), hg.cell h.2.2.2.2 (by simpa using hne)⟩
/-- A wide integer in block g. -/
def Duo (w : World) (g : Nat) (x y : Int) : Prop := w.cell? ⟨g, 0, none⟩ = some (.int .i64 x) ∧ w.cell? ⟨g, 1, none⟩ = some (.int .u64 y)
theorem Duo.below {w w' : World} {g : Nat} {x y : Int} (h : Duo w g x y) (hb : Below w.heap.size w w') : Duo w' g x y := ⟨RX.keep hb h.1, RX.keep hb h.2⟩
theorem VecAt.at0 {w : World} {b : Nat} {zs : List Int} (h : VecAt w (some ⟨b, 0, none⟩) zs) {k : Nat} (hk : k < zs.length) : w.cell? ⟨b, k, none⟩ = some (.int .i64 zs[k]) := by
  obtain ⟨b', o', h1, h2⟩ := h
  have h3 := h1 (by omega)
  injection h3 with h3
  injection h3 with e1 e2 e3
  subst e1 e2
  have := h2 k hk
  rwa [Nat.zero_add] at this
theorem i64_bd {B : Int} {zs : List Int} (h : Bd B zs) (hB : B ≤ 9223372036854775807) : I64L zs := fun x hx => by have := h x hx; omega
end Go.Proofs.YtblgchhmcifdgaaGreatDoor
