import Derived.Test.YtojkamfabapcoaaGreatDoorKTerms
import Derived.Test.YtojkamfabapcoaaGreatDoorLinQ
import Derived.Test.YtojkamfabapcoaaGreatDoorListP
import Derived.Test.YtojkamfabapcoaaGreatDoorKAwake
import Derived.Test.YtojkamfabapcoaaGreatDoorKInts
import Derived.Test.YtojkamfabapcoaaGreatDoorKGenS
import Derived.Test.YtojkamfabapcoaaGreatDoorKCodes
set_option linter.unusedSimpArgs false
set_option linter.unusedVariables false
namespace Go.Proofs.YtojkamfabapcoaaGreatDoor
open Go.RowKit Go.Grid

/-! The cost in plain words: the product is linear and symmetric; the diagonal. -/
def dotT (T : List (Int × Int)) (y : List Int) : Int := (T.map (fun c => c.2 * y.getD c.1.toNat 0)).sum
theorem dotT_append (T U : List (Int × Int)) (y : List Int) : dotT (T ++ U) y = dotT T y + dotT U y := by simp [dotT]
theorem dotT_cons (c : Int × Int) (T : List (Int × Int)) (y : List Int) : dotT (c :: T) y = c.2 * y.getD c.1.toNat 0 + dotT T y := by simp [dotT]
def InT (n : Nat) (T : List (Int × Int)) : Prop := ∀ c ∈ T, c.1.toNat < n
theorem dot_spread : ∀ (T : List (Int × Int)) (o y : List Int), o.length = y.length → InT o.length T → dotL (spread o T) y = dotL o y + dotT T y
  | [], o, y, _, _ => by simp [spread, dotT]
  | c :: T, o, y, h, hT => by
    have h1 : (addT o c).length = y.length := by rw [addT_len]; exact h
    rw [show spread o (c :: T) = spread (addT o c) T from rfl, dot_spread T (addT o c) y h1 (by rw [addT_len]; exact fun d hd => hT d (by simp [hd])), dotT_cons]
    unfold addT
    rw [dotL_set _ _ _ _ h (hT c (by simp))]
    have e : o.getD c.1.toNat 0 + c.2 - o.getD c.1.toNat 0 = c.2 := by omega
    rw [e]; omega
theorem inT_row {M : Nat} {p : Rw × Int} (h : ∀ c ∈ p.1.sh, ShOk M c) : InT M (rowT p) := fun d hd => by
  obtain ⟨c, hc, rfl⟩ := List.mem_map.1 hd
  have := (h c hc).1
  show c.1.toNat < M; omega
theorem inT_all {M : Nat} {RF : List (Rw × Int)} (h : ∀ p ∈ RF, ∀ c ∈ p.1.sh, ShOk M c) : InT M (tAll RF) := fun d hd => by
  obtain ⟨p, hp, hd⟩ := List.mem_flatMap.1 hd
  exact inT_row (h p hp) d hd
theorem valL_dot {S : List (Int × Int)} {x : List Int} (h : ∀ c ∈ S, ShOk x.length c) : valL S x = dotT S x := by
  unfold valL dotT
  congr 1
  apply List.map_congr_left
  intro c hc
  unfold valT
  rw [if_pos (h c hc).1]
theorem dotT_row (p : Rw × Int) (y : List Int) : dotT (rowT p) y = p.1.weight * p.2 * dotT p.1.sh y := by
  unfold rowT
  have key : ∀ S : List (Int × Int), dotT (S.map (fun c => (c.1, c.2 * (p.1.weight * p.2)))) y = p.1.weight * p.2 * dotT S y := by
    intro S
    induction S with
    | nil => simp [dotT]
    | cons c S ih =>
      rw [List.map_cons, dotT_cons, dotT_cons, ih, Int.mul_add]
      dsimp only
      congr 1
      rw [Int.mul_comm c.2, Int.mul_assoc]
  exact key _
/-- The part of the rows. -/
def qr (S : Sy) (x y : List Int) : Int := (S.rows.map (fun r => r.weight * dotT r.sh x * dotT r.sh y)).sum
theorem SyOk.inR {S : Sy} (h : SyOk S) {x : List Int} (hx : x.length = S.n) : InR x.length (edgesL S.f.toNat) := by
  have h1 := h.1
  unfold PrOk at h1
  refine edges_InR (by omega) (by omega) ?_
  rw [hx, h.nodes.1, Int.toNat_of_nonneg (by omega)]
theorem dotT_rfM {S : Sy} (h : SyOk S) {x : List Int} (hx : x.length = S.n) (y : List Int) : dotT (tAll (rfM S x)) y = qr S x y := by
  have key : ∀ R : List Rw, (∀ r ∈ R, ∀ c ∈ r.sh, ShOk x.length c) → dotT (tAll (R.map (fun r => (r, valL r.sh x)))) y = (R.map (fun r => r.weight * dotT r.sh x * dotT r.sh y)).sum := by
    intro R
    induction R with
    | nil => intro _; simp [tAll, dotT]
    | cons r R ih =>
      intro h0
      rw [List.map_cons, show tAll ((r, valL r.sh x) :: R.map (fun r => (r, valL r.sh x))) = rowT (r, valL r.sh x) ++ tAll (R.map (fun r => (r, valL r.sh x))) by simp [tAll], dotT_append, ih (fun r hr => h0 r (by simp [hr])), dotT_row, valL_dot (h0 r (by simp))]
      simp
  exact key S.rows (fun r hr c hc => by rw [hx]; exact (h.row hr).1 c hc)
theorem dot_mult {S : Sy} (h : SyOk S) {x y : List Int} (hx : x.length = S.n) (hy : y.length = S.n) : dotL (multL S x) y = S.a * dotL x y + S.s * qf x y (edgesL S.f.toNat) + qr S x y := by
  unfold multL
  rw [dot_spread _ _ _ (by rw [apL_len, hx, hy]) (by rw [apL_len, hx]; exact inT_all (fun p hp c hc => by
    obtain ⟨r, hr, rfl⟩ := List.mem_map.1 hp
    exact (h.row hr).1 c hc)), dot_apply _ _ _ _ _ (by rw [hx, hy]) (h.inR hx), dotT_rfM h hx]
/-! ### Unit vectors -/
def unitL (n k : Nat) : List Int := (List.replicate n 0).set k 1
theorem unitL_len (n k : Nat) : (unitL n k).length = n := by simp [unitL]
theorem dot_rep0 : ∀ (x : List Int) (n : Nat), dotL x (List.replicate n 0) = 0
  | [], n => dotL_nil _
  | a :: x, 0 => by simp [dotL]
  | a :: x, n + 1 => by rw [List.replicate_succ]; simp [dotL, dot_rep0 x n]
theorem dot_unit {x : List Int} {n k : Nat} (hx : x.length = n) (hk : k < n) : dotL x (unitL n k) = x.getD k 0 := by
  unfold unitL
  rw [dotL_comm, dotL_set _ _ _ _ (by simp [hx]) (by simpa using hk), dotL_comm, dot_rep0]
  have : (List.replicate n (0 : Int)).getD k 0 = 0 := by rw [List.getD, List.getElem?_replicate]; split <;> rfl
  rw [this]; simp
theorem ext_dot {x y : List Int} {n : Nat} (hx : x.length = n) (hy : y.length = n) (h : ∀ u : List Int, u.length = n → dotL x u = dotL y u) : x = y := by
  apply List.ext_getElem (by rw [hx, hy])
  intro k h1 h2
  have := h (unitL n k) (unitL_len n k)
  rw [dot_unit hx (by omega), dot_unit hy (by omega), i64_get h1, i64_get h2] at this
  exact this
theorem dot_addL : ∀ x y u : List Int, x.length = y.length → dotL (addL x y) u = dotL x u + dotL y u
  | [], [], u, _ => by simp [addL, dotL_nil]
  | a :: x, b :: y, [], _ => by simp [addL, dotL]
  | a :: x, b :: y, c :: u, h => by
    have ih := dot_addL x y u (by simpa using h)
    simp only [addL, List.zipWith_cons_cons, dotL] at ih ⊢
    rw [ih, Int.add_mul]; omega
theorem dotT_addL (T : List (Int × Int)) {x y : List Int} (h : x.length = y.length) : dotT T (addL x y) = dotT T x + dotT T y := by
  induction T with
  | nil => simp [dotT]
  | cons c T ih => rw [dotT_cons, dotT_cons, dotT_cons, ih, addL_getD h, Int.mul_add]; omega
theorem qf_addL (u : List Int) {x y : List Int} (h : x.length = y.length) : ∀ D, qf (addL x y) u D = qf x u D + qf y u D
  | [] => by simp [qf]
  | e :: D => by
    simp only [qf]
    rw [qf_addL u h D, addL_getD h, addL_getD h]
    have : (x.getD e.1.toNat 0 + y.getD e.1.toNat 0 - (x.getD e.2.toNat 0 + y.getD e.2.toNat 0)) = (x.getD e.1.toNat 0 - x.getD e.2.toNat 0) + (y.getD e.1.toNat 0 - y.getD e.2.toNat 0) := by omega
    rw [this, Int.add_mul]; omega
theorem qr_addL (S : Sy) (u : List Int) {x y : List Int} (h : x.length = y.length) : qr S (addL x y) u = qr S x u + qr S y u := by
  unfold qr
  have key : ∀ R : List Rw, (R.map (fun r => r.weight * dotT r.sh (addL x y) * dotT r.sh u)).sum = (R.map (fun r => r.weight * dotT r.sh x * dotT r.sh u)).sum + (R.map (fun r => r.weight * dotT r.sh y * dotT r.sh u)).sum := by
    intro R
    induction R with
    | nil => simp
    | cons r R ih =>
      simp only [List.map_cons, List.sum_cons]
      rw [ih, dotT_addL _ h, Int.mul_add, Int.add_mul]; omega
  exact key _
theorem mult_add {S : Sy} (h : SyOk S) {x y : List Int} (hx : x.length = S.n) (hy : y.length = S.n) : multL S (addL x y) = addL (multL S x) (multL S y) := by
  have hxy : x.length = y.length := by omega
  have ha : (addL x y).length = S.n := by rw [addL_len hxy]; exact hx
  refine ext_dot (n := S.n) (by rw [multL_len, ha]) (by rw [addL_len (by rw [multL_len, multL_len]; exact hxy), multL_len, hx]) (fun u hu => ?_)
  rw [dot_addL _ _ _ (by rw [multL_len, multL_len]; exact hxy), dot_mult h ha hu, dot_mult h hx hu, dot_mult h hy hu, dot_addL _ _ _ hxy, qf_addL _ hxy, qr_addL _ _ hxy, Int.mul_add, Int.mul_add]
  omega
/-! ### The diagonal -/
end Go.Proofs.YtojkamfabapcoaaGreatDoor

set_option linter.unusedSimpArgs false
set_option linter.unusedVariables false
namespace Go.Proofs.YtojkamfabapcoaaGreatDoor
open Go.RowKit Go.Grid

/-! awake of the chapter on the cost. -/
def sy0 : Sy := ⟨1, 1, 1, [], []⟩
def ze12 : List Int := [0, 0, 0, 0, 0, 0, 0, 0, 0, 0, 0, 0]
end Go.Proofs.YtojkamfabapcoaaGreatDoor

set_option linter.unusedSimpArgs false
set_option linter.unusedVariables false
namespace Go.Proofs.YtojkamfabapcoaaGreatDoor
open Go.RowKit Go.Grid Go.Shelf

/-- The reader and the precision that it has made: how a law of this chapter begins. -/
theorem start_any (W : World) (q : Option Addr) (cap cb co most : Nat) (L : List Int) (w : World) (hm : most ≤ 240) (hp : 0 < L.length → q = some ⟨cb, co, none⟩) (hl : L.length ≤ cap) (hc : cap ≤ 9223372036854775807)
    (hcell : ∀ k (h : k < L.length), W.cell? ⟨cb, co + k, none⟩ = some (.int .u8 L[k]) ∧ 0 ≤ L[k] ∧ L[k] < 256) (hB : Below W.heap.size W w) :
    Calls Tryz.prog 9 #[.slice q L.length cap, .int .i64 most] w fun e w' => ∃ (g b : Nat) (M : List Int), e = .returned (.pointer (some ⟨g, 0, none⟩)) ∧ g = w.heap.size ∧ Below w.heap.size w w' ∧ (0 < M.length → b < w.heap.size) ∧ CodesAt w' g b M 0 := by
  refine (new_any w q cap cb co most L hm hp hl hc (fun k hk => ⟨RX.keep hB (hcell k hk).1, (hcell k hk).2⟩)).mono ?_
  rintro e w' ⟨rfl, hb, b', hb', hC⟩
  exact ⟨w.heap.size, b', L.take most, rfl, rfl, hb, fun h0 => hb' (by simp at h0; omega), hC⟩


/-- A system in block P. -/
def Five (w : World) (P : Nat) (f s a : Int) (v1 v2 : Value) : Prop := w.cell? ⟨P, 0, none⟩ = some (.int .i64 f) ∧ w.cell? ⟨P, 1, none⟩ = some (.int .i64 s) ∧ w.cell? ⟨P, 2, none⟩ = some (.int .i64 a) ∧ w.cell? ⟨P, 3, none⟩ = some v1 ∧ w.cell? ⟨P, 4, none⟩ = some v2
theorem Five.below {w w' : World} {P : Nat} {f s a : Int} {v1 v2 : Value} (h : Five w P f s a v1 v2) (hb : Below w.heap.size w w') : Five w' P f s a v1 v2 := ⟨RX.keep hb h.1, RX.keep hb h.2.1, RX.keep hb h.2.2.1, RX.keep hb h.2.2.2.1, RX.keep hb h.2.2.2.2⟩
theorem Five.turn {w w' : World} {P k : Nat} {f s a : Int} {v1 v2 : Value} (h : Five w P f s a v1 v2) (hg : w.grownBy w' (some k)) (hne : P ≠ k) : Five w' P f s a v1 v2 := ⟨hg.cell h.1 (by simpa using hne), hg.cell h.2.1 (by simpa using hne), hg.cell h.2.2.1 (by simpa using hne), hg.cell h.2.2.2.1 (by simpa using hne), hg.cell h.2.2.2.2 (by simpa using hne)⟩
/-- A wide integer in block g. -/
def Duo (w : World) (g : Nat) (x y : Int) : Prop := w.cell? ⟨g, 0, none⟩ = some (.int .i64 x) ∧ w.cell? ⟨g, 1, none⟩ = some (.int .u64 y)
theorem Duo.below {w w' : World} {g : Nat} {x y : Int} (h : Duo w g x y) (hb : Below w.heap.size w w') : Duo w' g x y := ⟨RX.keep hb h.1, RX.keep hb h.2⟩
end Go.Proofs.YtojkamfabapcoaaGreatDoor
