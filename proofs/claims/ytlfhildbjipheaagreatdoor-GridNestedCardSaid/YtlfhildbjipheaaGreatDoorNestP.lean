import Derived.Test.YtlfhildbjipheaaGreatDoorLocQ
import Derived.Test.YtlfhildbjipheaaGreatDoorHopP
set_option linter.unusedSimpArgs false
set_option linter.unusedVariables false
namespace Go.Proofs.YtlfhildbjipheaaGreatDoor
open Go.RowKit Go.Grid Go.Maps Go.Sort Go.Shelf

/-! The grid of twice the frequency, in plain words. -/
def Step1 (i j k l : Nat) : Prop := (k = i + 1 ∧ l = j) ∨ (k = i ∧ l = j + 1) ∨ (k = i + 1 ∧ j = l + 1)
def Adj6 (i j k l : Nat) : Prop := Step1 i j k l ∨ Step1 k l i j
theorem Adj6.symm {i j k l : Nat} (h : Adj6 i j k l) : Adj6 k l i j := Or.symm h
/-- The ends of an edge are neighbours on one face. -/
theorem edge_lat {n : Nat} (h1 : 1 ≤ n) (h8 : n ≤ 8) {e : I2} (he : e ∈ edgesL n) : ∃ f i j k l : Nat, f < 20 ∧ i + j ≤ n ∧ k + l ≤ n ∧ Adj6 i j k l ∧ e.1 = (atL n (lat n f i j) : Int) ∧ e.2 = (atL n (lat n f k l) : Int) := by
  have hpos : 1 ≤ hh n := hh_pos h1 (by omega)
  obtain ⟨c, hc, hec⟩ := mem_edges.1 he
  obtain ⟨raw, hraw, rfl⟩ := List.mem_map.1 hc
  have key : ∀ (f : Nat) (P : Fin 3 → Nat × Nat), f < 20 → (∀ x, (P x).1 + (P x).2 ≤ n) → (∀ x y, x ≠ y → Adj6 (P x).1 (P x).2 (P y).1 (P y).2) →
      raw = sorted [(atL n (lat n f (P 0).1 (P 0).2) : Int), (atL n (lat n f (P 1).1 (P 1).2) : Int), (atL n (lat n f (P 2).1 (P 2).2) : Int)] →
      ∃ f i j k l : Nat, f < 20 ∧ i + j ≤ n ∧ k + l ≤ n ∧ Adj6 i j k l ∧ e.1 = (atL n (lat n f i j) : Int) ∧ e.2 = (atL n (lat n f k l) : Int) := by
    intro f P hf hP hA hr
    obtain ⟨u, v, z, a1, a2, a3, e4⟩ := raw_corner h1 h8 hraw
    have hp := sorted_perm [(atL n (lat n f (P 0).1 (P 0).2) : Int), (atL n (lat n f (P 1).1 (P 1).2) : Int), (atL n (lat n f (P 2).1 (P 2).2) : Int)]
    have hlen := hp.length_eq
    rw [← hr] at hp hlen
    have hasc := cell_asc h1 h8 hc
    match raw, hlen with
    | [c0, c1, c2], _ =>
      have hasc2 : c0 < c1 ∧ c1 < c2 := hasc
      have hec2 : e ∈ [(c0, c1), (c0, c2), (c1, c2)] := hec
      have hm : ∀ x, x ∈ [c0, c1, c2] → ∃ y : Fin 3, x = (atL n (lat n f (P y).1 (P y).2) : Int) := fun x hx => by
        have := hp.mem_iff.1 hx
        simp only [List.mem_cons, List.not_mem_nil, or_false] at this
        rcases this with h | h | h
        · exact ⟨0, h⟩
        · exact ⟨1, h⟩
        · exact ⟨2, h⟩
      have fin : ∀ x y, x ∈ [c0, c1, c2] → y ∈ [c0, c1, c2] → x < y → e = (x, y) → ∃ f i j k l : Nat, f < 20 ∧ i + j ≤ n ∧ k + l ≤ n ∧ Adj6 i j k l ∧ e.1 = (atL n (lat n f i j) : Int) ∧ e.2 = (atL n (lat n f k l) : Int) := by
        intro x y hx hy hxy hexy
        obtain ⟨s, hs⟩ := hm x hx
        obtain ⟨t, ht⟩ := hm y hy
        have hst : s ≠ t := by rintro rfl; omega
        exact ⟨f, (P s).1, (P s).2, (P t).1, (P t).2, hf, hP s, hP t, hA s t hst, by rw [hexy]; exact hs, by rw [hexy]; exact ht⟩
      simp only [List.mem_cons, List.not_mem_nil, or_false] at hec2
      rcases hec2 with h | h | h
      · exact fin c0 c1 (by simp) (by simp) hasc2.1 h
      · exact fin c0 c2 (by simp) (by simp) (by omega) h
      · exact fin c1 c2 (by simp) (by simp) hasc2.2 h
  have hraw2 := hraw
  simp only [cellsRaw, cF, cA, cB, List.mem_flatMap, List.mem_range] at hraw2
  obtain ⟨f, hf, a, ha, b, hb, hcell⟩ := hraw2
  have hab : a + b < n := by omega
  obtain ⟨u1, u2, u3⟩ := lat_up hab f
  unfold cellsAt at hcell
  rcases List.mem_cons.1 hcell with hcell | hcell
  · refine key f (fun x => match x with | 0 => (a + 1, b) | 1 => (a, b + 1) | 2 => (a, b)) hf ?_ ?_ ?_
    · intro x; match x with | 0 => show a + 1 + b ≤ n; omega | 1 => show a + (b + 1) ≤ n; omega | 2 => show a + b ≤ n; omega
    · intro x y hxy
      match x, y with
      | 0, 0 => exact absurd rfl hxy
      | 1, 1 => exact absurd rfl hxy
      | 2, 2 => exact absurd rfl hxy
      | 0, 1 => unfold Adj6 Step1; dsimp only; omega
      | 0, 2 => unfold Adj6 Step1; dsimp only; omega
      | 1, 0 => unfold Adj6 Step1; dsimp only; omega
      | 1, 2 => unfold Adj6 Step1; dsimp only; omega
      | 2, 0 => unfold Adj6 Step1; dsimp only; omega
      | 2, 1 => unfold Adj6 Step1; dsimp only; omega
    · rw [hcell]
      simp only [cpos]
      rw [u1, u2, u3]; rfl
  · split at hcell
    · rename_i hd
      rw [List.mem_singleton] at hcell
      have hd2 := (down_iff hpos hab).1 hd
      have u4 := lat_down hd2 f
      refine key f (fun x => match x with | 0 => (a, b + 1) | 1 => (a + 1, b) | 2 => (a + 1, b + 1)) hf ?_ ?_ ?_
      · intro x; match x with | 0 => show a + (b + 1) ≤ n; omega | 1 => show a + 1 + b ≤ n; omega | 2 => show a + 1 + (b + 1) ≤ n; omega
      · intro x y hxy
        match x, y with
        | 0, 0 => exact absurd rfl hxy
        | 1, 1 => exact absurd rfl hxy
        | 2, 2 => exact absurd rfl hxy
        | 0, 1 => unfold Adj6 Step1; dsimp only; omega
        | 0, 2 => unfold Adj6 Step1; dsimp only; omega
        | 1, 0 => unfold Adj6 Step1; dsimp only; omega
        | 1, 2 => unfold Adj6 Step1; dsimp only; omega
        | 2, 0 => unfold Adj6 Step1; dsimp only; omega
        | 2, 1 => unfold Adj6 Step1; dsimp only; omega
      · rw [hcell]
        simp only [cpos]
        rw [u1, u2, u4]; rfl
    · cases hcell
/-- Neighbours of the lattice are neighbours. -/
theorem lat_step {n f i j k l : Nat} (h1 : 1 ≤ n) (h8 : n ≤ 8) (hf : f < 20) (hij : i + j ≤ n) (hkl : k + l ≤ n) (h : Step1 i j k l) : atL n (lat n f k l) ∈ nbG n (atL n (lat n f i j)) := by
  have hn := hh_mul h1 h8
  have hpos : 1 ≤ hh n := hh_pos h1 (by omega)
  have key : ∀ a b, a + b < n → (((i = a + 1 ∧ j = b) ∨ (i = a ∧ j = b + 1) ∨ (i = a ∧ j = b)) ∧ ((k = a + 1 ∧ l = b) ∨ (k = a ∧ l = b + 1) ∨ (k = a ∧ l = b))) → atL n (lat n f k l) ∈ nbG n (atL n (lat n f i j)) := by
    intro a b hab hh2
    obtain ⟨u1, u2, u3⟩ := lat_up hab f
    have hcell : sorted [(atL n (lat n f (a + 1) b) : Int), (atL n (lat n f a (b + 1)) : Int), (atL n (lat n f a b) : Int)] ∈ cellsRaw n := by
      refine cell_in (f := f) (a := a) (b := b) hf hab ?_
      unfold cellsAt cpos
      dsimp only
      rw [u1, u2, u3]
      exact List.mem_cons_self
    rw [mem_nbG h1 h8]
    refine cell_adj h1 h8 hcell ?_ ?_ ?_
    · rcases hh2.1 with ⟨rfl, rfl⟩ | ⟨rfl, rfl⟩ | ⟨rfl, rfl⟩
      · exact .inl rfl
      · exact .inr (.inl rfl)
      · exact .inr (.inr rfl)
    · rcases hh2.2 with ⟨rfl, rfl⟩ | ⟨rfl, rfl⟩ | ⟨rfl, rfl⟩
      · exact .inl rfl
      · exact .inr (.inl rfl)
      · exact .inr (.inr rfl)
    · intro e
      have e2 := node_inj hn hf hij hkl e
      unfold lat at e2
      injection e2 with e3 e4 e5 e6
      have b1 := Nat.eq_of_mul_eq_mul_right hpos e4
      have b2 := Nat.eq_of_mul_eq_mul_right hpos e5
      unfold Step1 at h
      omega
  unfold Step1 at h
  rcases h with ⟨rfl, rfl⟩ | ⟨rfl, rfl⟩ | ⟨rfl, rfl⟩
  · exact key i l (by omega) ⟨by omega, by omega⟩
  · exact key k j (by omega) ⟨by omega, by omega⟩
  · exact key i l (by omega) ⟨by omega, by omega⟩
theorem lat_adj {n f i j k l : Nat} (h1 : 1 ≤ n) (h8 : n ≤ 8) (hf : f < 20) (hij : i + j ≤ n) (hkl : k + l ≤ n) (h : Adj6 i j k l) : atL n (lat n f k l) ∈ nbG n (atL n (lat n f i j)) := by
  rcases h with h | h
  · exact lat_step h1 h8 hf hij hkl h
  · exact nbG_symm h1 h8 _ _ (lat_step h1 h8 hf hkl hij h)
theorem wt_step {n f i j k l : Nat} (hij : i + j ≤ n) (hkl : k + l ≤ n) (h : Adj6 i j k l) (v : Nat) : wt (lat n f i j) v ≤ wt (lat n f k l) v + hh n := by
  have a : i * hh n ≤ k * hh n + hh n := by rw [← Nat.succ_mul]; exact Nat.mul_le_mul_right _ (by unfold Adj6 Step1 at h; omega)
  have b : j * hh n ≤ l * hh n + hh n := by rw [← Nat.succ_mul]; exact Nat.mul_le_mul_right _ (by unfold Adj6 Step1 at h; omega)
  have c : (n - i - j) * hh n ≤ (n - k - l) * hh n + hh n := by rw [← Nat.succ_mul]; exact Nat.mul_le_mul_right _ (by unfold Adj6 Step1 at h; omega)
  show (if v = (tab f).1 then i * hh n else if v = (tab f).2.1 then j * hh n else if v = (tab f).2.2 then (n - i - j) * hh n else 0) ≤ (if v = (tab f).1 then k * hh n else if v = (tab f).2.1 then l * hh n else if v = (tab f).2.2 then (n - k - l) * hh n else 0) + hh n
  split
  · exact a
  · split
    · exact b
    · split
      · exact c
      · omega
theorem wt_far1 {n f i j k l : Nat} (h : Step1 i j k l) : ∃ v, v < 12 ∧ wt (lat n f k l) v = wt (lat n f i j) v + hh n := by
  obtain ⟨t1, t2, t3⟩ := tab_lt f
  have w := fun a b => wt_own (lat n f a b)
  rcases h with ⟨rfl, rfl⟩ | ⟨rfl, rfl⟩ | ⟨rfl, rfl⟩
  · refine ⟨_, t1, ?_⟩
    have a := (w (i + 1) l).1
    have b := (w i l).1
    have a' : wt (lat n f (i + 1) l) (tab f).1 = (i + 1) * hh n := a
    have b' : wt (lat n f i l) (tab f).1 = i * hh n := b
    rw [a', b', Nat.succ_mul]
  · refine ⟨_, t2, ?_⟩
    have a' : wt (lat n f k (j + 1)) (tab f).2.1 = (j + 1) * hh n := (w k (j + 1)).2.1
    have b' : wt (lat n f k j) (tab f).2.1 = j * hh n := (w k j).2.1
    rw [a', b', Nat.succ_mul]
  · refine ⟨_, t1, ?_⟩
    have a' : wt (lat n f (i + 1) l) (tab f).1 = (i + 1) * hh n := (w (i + 1) l).1
    have b' : wt (lat n f i (l + 1)) (tab f).1 = i * hh n := (w i (l + 1)).1
    rw [a', b', Nat.succ_mul]

/-! ### Twice the frequency -/
theorem hh_two {n : Nat} (h1 : 1 ≤ n) (h4 : n ≤ 4) : hh n = 2 * hh (2 * n) := by
  have a := hh_mul h1 (show n ≤ 8 by omega)
  have b := hh_mul (show 1 ≤ 2 * n by omega) (show 2 * n ≤ 8 by omega)
  refine Nat.eq_of_mul_eq_mul_left (show 0 < n by omega) ?_
  rw [a, ← b, Nat.mul_comm 2 n, Nat.mul_assoc]
theorem lat_two {n f i j : Nat} (h1 : 1 ≤ n) (h4 : n ≤ 4) : lat n f i j = lat (2 * n) f (2 * i) (2 * j) := by
  have e := hh_two h1 h4
  have h : ∀ x, x * hh n = 2 * x * hh (2 * n) := fun x => by rw [e, ← Nat.mul_assoc, Nat.mul_comm x 2]
  unfold lat
  rw [h, h, h, show 2 * (n - i - j) = 2 * n - 2 * i - 2 * j by omega]
/-- What the program says of a node of the coarse grid. -/
theorem two_node {n f i j : Nat} (h1 : 1 ≤ n) (h4 : n ≤ 4) (hf : f < 20) (hij : i + j ≤ n) : (nodesL n).getD (atL n (lat n f i j)) ⟨0, 0, 0, 0⟩ = normal (lat n f i j) ∧ atL n (lat n f i j) < (nodesL n).length := by
  obtain ⟨_, hlt, hnode⟩ := atL_lat (hh_mul h1 (by omega)) hf hij
  exact ⟨by rw [List.getD_eq_getElem?_getD, List.getElem?_eq_getElem hlt, Option.getD_some, hnode], hlt⟩
theorem node_lat {n : Nat} (h1 : 1 ≤ n) (h8 : n ≤ 8) {k : Nat} (hk : k < (nodesL n).length) : ∃ f i j, f < 20 ∧ i + j ≤ n ∧ (nodesL n)[k] = lat n f i j ∧ normal (lat n f i j) = lat n f i j := by
  have hm := List.getElem_mem hk
  generalize (nodesL n)[k] = p at *
  obtain ⟨hm1, hm2⟩ := List.mem_filter.1 hm
  obtain ⟨f, a, b, hf, hab, rfl⟩ := mem_faces hm1
  exact ⟨f, a, b, hf, hab, rfl, by simpa [isN] using hm2⟩
/-- A node of the coarse grid in the fine one. -/
def fine (n k : Nat) : Nat := atL (2 * n) ((nodesL n).getD k ⟨0, 0, 0, 0⟩)
theorem fine_facts {n k : Nat} (h1 : 1 ≤ n) (h4 : n ≤ 4) (hk : k < (nodesL n).length) :
    ((nodesL n)[k]).Ok ∧ ix (nodesL (2 * n)) (normal (nodesL n)[k]) = some (fine n k) ∧ fine n k < (nodesL (2 * n)).length ∧ locRaw (2 * n) (nodesL n)[k] = [(fine n k, 840)] := by
  have hn := hh_mul h1 (show n ≤ 8 by omega)
  have hn2 := hh_mul (show 1 ≤ 2 * n by omega) (show 2 * n ≤ 8 by omega)
  obtain ⟨f, i, j, hf, hij, e, hnm⟩ := node_lat h1 (by omega) hk
  have hfine : fine n k = atL (2 * n) (lat n f i j) := by
    unfold fine; rw [List.getD_eq_getElem?_getD, List.getElem?_eq_getElem hk, Option.getD_some, e]
  rw [hfine, e]
  refine ⟨lat_ok hn hf hij, ?_, ?_, ?_⟩
  · rw [lat_two h1 h4]; exact (atL_lat hn2 hf (by omega)).1
  · rw [lat_two h1 h4]; exact (atL_lat hn2 hf (by omega)).2.1
  · refine locRaw_at ?_
    rw [lat_two h1 h4]
    simp [lat]
/-- Neighbours of the coarse grid are two hops apart in the fine one. -/
theorem hop_two {n : Nat} (h1 : 1 ≤ n) (h4 : n ≤ 4) {e : I2} (he : e ∈ edgesL n) (hex : ∃ t, (Bfs.st (nbG (2 * n)) (fine n e.1.toNat) t).2.length = t) : hop (2 * n) (fine n e.1.toNat) (fine n e.2.toNat) = 2 := by
  have hn := hh_mul h1 (show n ≤ 8 by omega)
  have g1 : 1 ≤ 2 * n := by omega
  have g8 : 2 * n ≤ 8 := by omega
  have hn2 := hh_mul g1 g8
  have hpos2 : 1 ≤ hh (2 * n) := hh_pos g1 (by omega)
  obtain ⟨f, i, j, k, l, hf, hij, hkl, hA, e1, e2⟩ := edge_lat h1 (by omega) he
  have hfA : fine n e.1.toNat = atL (2 * n) (lat n f i j) := by
    unfold fine; rw [e1, Int.toNat_natCast, (two_node h1 h4 hf hij).1]
    unfold atL; rw [normal_normal (lat_ok hn hf hij)]
  have hfB : fine n e.2.toNat = atL (2 * n) (lat n f k l) := by
    unfold fine; rw [e2, Int.toNat_natCast, (two_node h1 h4 hf hkl).1]
    unfold atL; rw [normal_normal (lat_ok hn hf hkl)]
  rw [hfA] at hex
  rw [hfA, hfB]
  have eP := lat_two (f := f) (i := i) (j := j) h1 h4
  have eQ := lat_two (f := f) (i := k) (j := l) h1 h4
  rw [eP] at hex
  rw [eP, eQ]
  have hP2 : 2 * i + 2 * j ≤ 2 * n := by omega
  have hQ2 : 2 * k + 2 * l ≤ 2 * n := by omega
  have hlA := (atL_lat hn2 hf hP2).2.1
  have hlB := (atL_lat hn2 hf hQ2).2.1
  -- the way by the middle
  have w1 : atL (2 * n) (lat (2 * n) f (i + k) (j + l)) ∈ nbG (2 * n) (atL (2 * n) (lat (2 * n) f (2 * i) (2 * j))) := lat_adj g1 g8 hf hP2 (by omega) (by unfold Adj6 Step1 at hA ⊢; omega)
  have w2 : atL (2 * n) (lat (2 * n) f (2 * k) (2 * l)) ∈ nbG (2 * n) (atL (2 * n) (lat (2 * n) f (i + k) (j + l))) := lat_adj g1 g8 hf (by omega) hQ2 (by unfold Adj6 Step1 at hA ⊢; omega)
  have hle := (hop_facts g1 g8 hlA hex).1 2 _ (.succ (.succ .zero w1) w2)
  -- no shorter way
  have n0 : hop (2 * n) (atL (2 * n) (lat (2 * n) f (2 * i) (2 * j))) (atL (2 * n) (lat (2 * n) f (2 * k) (2 * l))) ≠ 0 := fun h => by
    have e9 := node_inj hn2 hf hP2 hQ2 ((hop_zero g1 g8 hlA hlB hex).1 h)
    unfold lat at e9
    injection e9 with e3 e4 e5 e6
    have b1 := Nat.eq_of_mul_eq_mul_right hpos2 e4
    have b2 := Nat.eq_of_mul_eq_mul_right hpos2 e5
    unfold Adj6 Step1 at hA
    omega
  have n1 : hop (2 * n) (atL (2 * n) (lat (2 * n) f (2 * i) (2 * j))) (atL (2 * n) (lat (2 * n) f (2 * k) (2 * l))) ≠ 1 := fun h => by
    have hadj := (hop_one g1 g8 hlA hlB hex).1 h
    have close : ∀ v, v < 12 → wt (lat n f i j) v ≤ wt (lat n f k l) v + hh (2 * n) ∧ wt (lat n f k l) v ≤ wt (lat n f i j) v + hh (2 * n) := by
      obtain ⟨e', he', hor⟩ := mem_next.1 hadj
      obtain ⟨f', i', j', k', l', hf', hij', hkl', hA', e1', e2'⟩ := edge_lat g1 g8 he'
      have same : ∀ a b a' b', a + b ≤ 2 * n → a' + b' ≤ 2 * n → atL (2 * n) (lat (2 * n) f a b) = atL (2 * n) (lat (2 * n) f' a' b') → ∀ v, v < 12 → wt (lat (2 * n) f a b) v = wt (lat (2 * n) f' a' b') v := by
        intro a b a' b' q1 q2 q3 v hv
        obtain ⟨_, l1, m1⟩ := atL_lat hn2 hf q1
        obtain ⟨_, l2, m2⟩ := atL_lat hn2 hf' q2
        have : normal (lat (2 * n) f a b) = normal (lat (2 * n) f' a' b') := by rw [← m1, ← m2]; congr 1
        exact normal_inj (lat_ok hn2 hf q1) (lat_ok hn2 hf' q2) this v hv
      intro v hv
      rw [eP, eQ]
      rcases hor with ⟨p1, p2⟩ | ⟨p1, p2⟩
      · have s1 := same _ _ _ _ hP2 hij' (by rw [e1', Int.toNat_natCast] at p1; exact p1) v hv
        have s2 := same _ _ _ _ hQ2 hkl' (by rw [e2'] at p2; omega) v hv
        rw [s1, s2]
        exact ⟨wt_step hij' hkl' hA' v, wt_step hkl' hij' hA'.symm v⟩
      · have s1 := same _ _ _ _ hP2 hkl' (by rw [e2', Int.toNat_natCast] at p1; exact p1) v hv
        have s2 := same _ _ _ _ hQ2 hij' (by rw [e1'] at p2; omega) v hv
        rw [s1, s2]
        exact ⟨wt_step hkl' hij' hA'.symm v, wt_step hij' hkl' hA' v⟩
    have e2n := hh_two h1 h4
    rcases hA with hA | hA
    · obtain ⟨v, hv, hw⟩ := wt_far1 (n := n) (f := f) hA
      have := (close v hv).2
      omega
    · obtain ⟨v, hv, hw⟩ := wt_far1 (n := n) (f := f) hA
      have := (close v hv).1
      omega
  omega
end Go.Proofs.YtlfhildbjipheaaGreatDoor
