import Derived.Test.YtblgchhmcifdgaaGreatDoorApply
set_option linter.unusedSimpArgs false
set_option linter.unusedVariables false
namespace Go.Proofs.YtblgchhmcifdgaaGreatDoor
open Go.RowKit Go.Grid Go.Maps Go.Sort Go.Shelf

/-- The sum of the products of the elements with equal indexes. -/
def dotL : List Int → List Int → Int
  | a :: x, b :: y => a * b + dotL x y
  | _, _ => 0
theorem dotL_nil (y : List Int) : dotL [] y = 0 := by cases y <;> rfl
theorem dotL_snoc : ∀ (x y : List Int) (a b : Int), x.length = y.length → dotL (x ++ [a]) (y ++ [b]) = dotL x y + a * b
  | [], [], a, b, _ => by simp [dotL]
  | c :: x, d :: y, a, b, h => by
    have := dotL_snoc x y a b (by simpa using h)
    simp only [List.cons_append, dotL, this]; omega
  | [], _ :: _, _, _, h => by simp at h
  | _ :: _, [], _, _, h => by simp at h
theorem dotL_take {x y : List Int} (h : x.length = y.length) {k : Nat} (hk : k < x.length) : dotL (x.take (k + 1)) (y.take (k + 1)) = dotL (x.take k) (y.take k) + x[k] * y[k]'(h ▸ hk) := by
  rw [List.take_succ_eq_append_getElem hk, List.take_succ_eq_append_getElem (h ▸ hk), dotL_snoc _ _ _ _ (by simp; omega)]
theorem dotL_comm : ∀ x y : List Int, dotL x y = dotL y x
  | [], [] => rfl
  | [], _ :: _ => rfl
  | _ :: _, [] => rfl
  | a :: x, b :: y => by simp only [dotL, dotL_comm x y, Int.mul_comm]
theorem dotL_map (c : Int) : ∀ x y : List Int, dotL (x.map (c * ·)) y = c * dotL x y
  | [], y => by simp [dotL_nil]
  | _ :: _, [] => by simp [dotL]
  | a :: x, b :: y => by simp only [List.map_cons, dotL, dotL_map c x y, Int.mul_add, Int.mul_assoc]
theorem dotL_set : ∀ (x y : List Int) (i : Nat) (v : Int), x.length = y.length → i < x.length → dotL (x.set i v) y = dotL x y + (v - x.getD i 0) * y.getD i 0
  | [], _, _, _, _, h => by simp at h
  | _ :: _, [], _, _, h, _ => by simp at h
  | a :: x, b :: y, 0, v, _, _ => by
    simp only [List.set_cons_zero, dotL, List.getD_cons_zero, Int.sub_mul]; omega
  | a :: x, b :: y, i + 1, v, h, hi => by
    have := dotL_set x y i v (by simpa using h) (by simpa using hi)
    simp only [List.set_cons_succ, dotL, List.getD_cons_succ, this]; omega
/-- The sum over the edges of the products of differences. -/
def qf (x u : List Int) : List I2 → Int
  | [] => 0
  | e :: D => (x.getD e.1.toNat 0 - x.getD e.2.toNat 0) * (u.getD e.1.toNat 0 - u.getD e.2.toNat 0) + qf x u D
/-- Both ends are numbers below n. -/
def InR (n : Nat) (D : List I2) : Prop := ∀ e ∈ D, e.1.toNat < n ∧ e.2.toNat < n
theorem dot_step (sm : Int) (x out u : List Int) (e : I2) (h : out.length = u.length) (h1 : e.1.toNat < out.length) (h2 : e.2.toNat < out.length) :
    dotL (stepE sm x out e) u = dotL out u + sm * ((x.getD e.1.toNat 0 - x.getD e.2.toNat 0) * (u.getD e.1.toNat 0 - u.getD e.2.toNat 0)) := by
  unfold stepE
  rw [dotL_set _ _ _ _ (by simpa using h) (by simpa using h2), dotL_set _ _ _ _ h h1]
  generalize x.getD e.1.toNat 0 - x.getD e.2.toNat 0 = d
  have e1 : out.getD e.1.toNat 0 + sm * d - out.getD e.1.toNat 0 = sm * d := by omega
  generalize (out.set e.1.toNat (out.getD e.1.toNat 0 + sm * d)).getD e.2.toNat 0 = z
  have e2 : z - sm * d - z = -(sm * d) := by omega
  rw [e1, e2, ← Int.mul_assoc, Int.mul_sub, Int.neg_mul]; omega
theorem dot_fold (sm : Int) (x u : List Int) : ∀ (D : List I2) (out : List Int), out.length = u.length → InR out.length D → dotL (D.foldl (stepE sm x) out) u = dotL out u + sm * qf x u D
  | [], out, _, _ => by simp [qf]
  | e :: D, out, h, hD => by
    have he := hD e (by simp)
    rw [List.foldl_cons, dot_fold sm x u D _ (by rw [stepE_len]; exact h) (by rw [stepE_len]; exact fun e' h' => hD e' (List.mem_cons_of_mem _ h')), dot_step sm x out u e h he.1 he.2]
    simp only [qf, Int.mul_add]; omega
theorem applyL_eq (sm an : Int) (x : List Int) (D : List I2) : applyL sm an x D = D.foldl (stepE sm x) (x.map (an * ·)) := by
  unfold applyL applyTo; rw [List.take_length]
/-- The bilinear form of a precision. -/
theorem dot_apply (sm an : Int) (x u : List Int) (D : List I2) (h : x.length = u.length) (hD : InR x.length D) : dotL (applyL sm an x D) u = an * dotL x u + sm * qf x u D := by
  rw [applyL_eq, dot_fold sm x u D _ (by simpa using h) (by simpa using hD), dotL_map]
theorem qf_comm (x u : List Int) : ∀ D, qf x u D = qf u x D
  | [] => rfl
  | e :: D => by simp only [qf, qf_comm x u D, Int.mul_comm]
/-- Symmetry. -/
theorem apply_symm (sm an : Int) (x y : List Int) (D : List I2) (h : x.length = y.length) (hD : InR x.length D) : dotL (applyL sm an x D) y = dotL x (applyL sm an y D) := by
  rw [dot_apply sm an x y D h hD, dotL_comm x (applyL sm an y D), dot_apply sm an y x D h.symm (h ▸ hD), dotL_comm y x, qf_comm y x]
def sumL : List Int → Int
  | [] => 0
  | a :: x => a + sumL x
theorem dot_ones : ∀ x : List Int, dotL x (List.replicate x.length 1) = sumL x
  | [] => rfl
  | a :: x => by simp only [List.length_cons, List.replicate_succ, dotL, dot_ones x, sumL]; omega
theorem qf_ones (x : List Int) (n : Nat) : ∀ D, InR n D → qf x (List.replicate n 1) D = 0
  | [], _ => rfl
  | e :: D, h => by
    have he := h e (by simp)
    have := qf_ones x n D (fun e' h' => h e' (List.mem_cons_of_mem _ h'))
    simp only [qf, this]
    rw [show (List.replicate n (1 : Int)).getD e.1.toNat 0 = 1 by simp [List.getD, he.1], show (List.replicate n (1 : Int)).getD e.2.toNat 0 = 1 by simp [List.getD, he.2]]; simp
theorem applyL_len (sm an : Int) (x : List Int) (D : List I2) : (applyL sm an x D).length = x.length := by
  rw [applyL_eq]
  suffices ∀ (D : List I2) out, (D.foldl (stepE sm x) out).length = out.length by rw [this]; simp
  intro D
  induction D with
  | nil => intro out; rfl
  | cons e D ih => intro out; rw [List.foldl_cons, ih, stepE_len]
/-- The elements of the product add up to Anchor times the sum. -/
theorem apply_sum (sm an : Int) (x : List Int) (D : List I2) (hD : InR x.length D) : sumL (applyL sm an x D) = an * sumL x := by
  have := dot_apply sm an x (List.replicate x.length 1) D (by simp) hD
  rw [dot_ones, qf_ones x _ D hD] at this
  rw [← dot_ones, applyL_len, this]; omega
/-- The sum of two vectors. -/
def addL (x y : List Int) : List Int := List.zipWith (· + ·) x y
theorem addL_len {x y : List Int} (h : x.length = y.length) : (addL x y).length = x.length := by simp [addL]; omega
theorem addL_getD {x y : List Int} (h : x.length = y.length) (i : Nat) : (addL x y).getD i 0 = x.getD i 0 + y.getD i 0 := by
  unfold addL
  by_cases hi : i < x.length
  · simp [List.getD, List.getElem?_eq_getElem hi, List.getElem?_eq_getElem (h ▸ hi : i < y.length), List.getElem?_zipWith]
  · simp [List.getD, List.getElem?_eq_none (Nat.le_of_not_lt hi), List.getElem?_eq_none (show y.length ≤ i by omega), List.getElem?_zipWith]
theorem addL_set : ∀ (x y : List Int) (i : Nat) (a b : Int), (addL x y).set i (a + b) = addL (x.set i a) (y.set i b)
  | [], _, _, _, _ => by simp [addL]
  | _ :: _, [], _, _, _ => by simp [addL]
  | c :: x, d :: y, 0, a, b => by simp [addL]
  | c :: x, d :: y, i + 1, a, b => by simpa [addL] using addL_set x y i a b
theorem addL_stepE (sm : Int) (x y o p : List Int) (e : I2) (h : x.length = y.length) (h' : o.length = p.length) :
    stepE sm (addL x y) (addL o p) e = addL (stepE sm x o e) (stepE sm y p e) := by
  unfold stepE
  rw [addL_getD h, addL_getD h, addL_getD h']
  rw [show o.getD e.1.toNat 0 + p.getD e.1.toNat 0 + sm * (x.getD e.1.toNat 0 + y.getD e.1.toNat 0 - (x.getD e.2.toNat 0 + y.getD e.2.toNat 0)) = (o.getD e.1.toNat 0 + sm * (x.getD e.1.toNat 0 - x.getD e.2.toNat 0)) + (p.getD e.1.toNat 0 + sm * (y.getD e.1.toNat 0 - y.getD e.2.toNat 0)) by
    rw [show x.getD e.1.toNat 0 + y.getD e.1.toNat 0 - (x.getD e.2.toNat 0 + y.getD e.2.toNat 0) = (x.getD e.1.toNat 0 - x.getD e.2.toNat 0) + (y.getD e.1.toNat 0 - y.getD e.2.toNat 0) by omega, Int.mul_add]; omega]
  rw [addL_set, addL_getD (by simpa using h'), ← addL_set _ _ e.2.toNat]
  congr 1
  rw [show x.getD e.1.toNat 0 + y.getD e.1.toNat 0 - (x.getD e.2.toNat 0 + y.getD e.2.toNat 0) = (x.getD e.1.toNat 0 - x.getD e.2.toNat 0) + (y.getD e.1.toNat 0 - y.getD e.2.toNat 0) by omega, Int.mul_add]; omega
theorem addL_fold (sm : Int) (x y : List Int) (h : x.length = y.length) : ∀ (D : List I2) (o p : List Int), o.length = p.length → D.foldl (stepE sm (addL x y)) (addL o p) = addL (D.foldl (stepE sm x) o) (D.foldl (stepE sm y) p)
  | [], _, _, _ => rfl
  | e :: D, o, p, h' => by
    rw [List.foldl_cons, List.foldl_cons, List.foldl_cons, addL_stepE sm x y o p e h h', addL_fold sm x y h D _ _ (by rw [stepE_len, stepE_len]; exact h')]
theorem addL_map (c : Int) : ∀ x y : List Int, (addL x y).map (c * ·) = addL (x.map (c * ·)) (y.map (c * ·))
  | [], _ => by simp [addL]
  | _ :: _, [] => by simp [addL]
  | a :: x, b :: y => by have := addL_map c x y; simp only [addL, List.zipWith_cons_cons, List.map_cons, Int.mul_add] at *; rw [this]
/-- Apply is linear. -/
theorem apply_add (sm an : Int) (x y : List Int) (D : List I2) (h : x.length = y.length) : applyL sm an (addL x y) D = addL (applyL sm an x D) (applyL sm an y D) := by
  rw [applyL_eq, applyL_eq, applyL_eq, addL_map, addL_fold sm x y h D _ _ (by simpa using h)]
/-- Apply of equal elements. -/
theorem stepE_same (sm : Int) (x out : List Int) (e : I2) (h : x.getD e.1.toNat 0 = x.getD e.2.toNat 0) : stepE sm x out e = out := by
  unfold stepE
  rw [h, Int.sub_self, Int.mul_zero, Int.add_zero, Int.sub_zero]
  have key : ∀ (l : List Int) (i : Nat), l.set i (l.getD i 0) = l := by
    intro l i
    by_cases hi : i < l.length
    · rw [show l.getD i 0 = l[i] by simp [List.getD, List.getElem?_eq_getElem hi], List.set_getElem_self]
    · rw [List.set_eq_of_length_le (Nat.le_of_not_lt hi)]
  rw [key, key]
theorem apply_equal (sm an c : Int) (n : Nat) (D : List I2) (hD : InR n D) : applyL sm an (List.replicate n c) D = List.replicate n (an * c) := by
  rw [applyL_eq, List.map_replicate]
  suffices ∀ (D : List I2) out, InR n D → D.foldl (stepE sm (List.replicate n c)) out = out from this D _ hD
  intro D
  induction D with
  | nil => intro out _; rfl
  | cons e D ih =>
    intro out h
    have he := h e (by simp)
    rw [List.foldl_cons, stepE_same _ _ _ _ (by simp [List.getD, he.1, he.2]), ih _ (fun e' h' => h e' (List.mem_cons_of_mem _ h'))]
theorem sq_nn (x : Int) : 0 ≤ x * x := by
  rcases Int.le_total 0 x with h | h
  · exact Int.mul_nonneg h h
  · have := Int.mul_nonneg (show 0 ≤ -x by omega) (show 0 ≤ -x by omega)
    rwa [Int.neg_mul_neg] at this
theorem sq_zero {x : Int} (h : x * x = 0) : x = 0 := by rcases Int.mul_eq_zero.1 h with h | h <;> exact h
theorem qf_nn (x : List Int) : ∀ D, 0 ≤ qf x x D
  | [] => Int.le_refl 0
  | e :: D => by
    have := qf_nn x D
    have := sq_nn (x.getD e.1.toNat 0 - x.getD e.2.toNat 0)
    simp only [qf]; omega
theorem qf_zero (x : List Int) : ∀ D, qf x x D = 0 → ∀ e ∈ D, x.getD e.1.toNat 0 = x.getD e.2.toNat 0
  | [], _, _, h => by simp at h
  | e :: D, h, e', h' => by
    have h1 := qf_nn x D
    have h2 := sq_nn (x.getD e.1.toNat 0 - x.getD e.2.toNat 0)
    simp only [qf] at h
    rcases List.mem_cons.1 h' with rfl | h'
    · have := sq_zero (show (x.getD e'.1.toNat 0 - x.getD e'.2.toNat 0) * (x.getD e'.1.toNat 0 - x.getD e'.2.toNat 0) = 0 by omega)
      omega
    · exact qf_zero x D (by omega) e' h'
theorem qf_flat (x : List Int) : ∀ D, (∀ e ∈ D, x.getD e.1.toNat 0 = x.getD e.2.toNat 0) → qf x x D = 0
  | [], _ => rfl
  | e :: D, h => by
    have := qf_flat x D (fun e' h' => h e' (List.mem_cons_of_mem _ h'))
    simp only [qf, this, h e (by simp)]; simp
theorem dot_nn : ∀ x : List Int, 0 ≤ dotL x x
  | [] => Int.le_refl 0
  | a :: x => by have := dot_nn x; have := sq_nn a; simp only [dotL]; omega
theorem dot_zero : ∀ x : List Int, dotL x x = 0 → ∀ a ∈ x, a = 0
  | [], _, _, h => by simp at h
  | b :: x, h, a, ha => by
    have h1 := dot_nn x
    have h2 := sq_nn b
    simp only [dotL] at h
    rcases List.mem_cons.1 ha with rfl | ha
    · exact sq_zero (by omega)
    · exact dot_zero x (by omega) a ha
theorem dot_zeros : ∀ x : List Int, (∀ a ∈ x, a = 0) → dotL x x = 0
  | [], _ => rfl
  | b :: x, h => by
    have := dot_zeros x (fun a ha => h a (List.mem_cons_of_mem _ ha))
    simp only [dotL, this, h b (by simp)]; simp
/-- Each node but the first is the greater end of an edge: the grid hangs together. -/
def Tied (n : Nat) (D : List I2) : Prop := ∀ i, 0 < i → i < n → ∃ e ∈ D, e.2.toNat = i ∧ e.1.toNat < i
theorem flat_of_tied {x : List Int} {n : Nat} {D : List I2} (hT : Tied n D) (h : ∀ e ∈ D, x.getD e.1.toNat 0 = x.getD e.2.toNat 0) : ∀ i, i < n → x.getD i 0 = x.getD 0 0 := by
  intro i
  induction i using Nat.strongRecOn with
  | ind i ih =>
    intro hi
    by_cases h0 : i = 0
    · rw [h0]
    · obtain ⟨e, he, h1, h2⟩ := hT i (by omega) hi
      rw [← h1, ← h e he, ih _ h2 (by omega)]
end Go.Proofs.YtblgchhmcifdgaaGreatDoor

set_option linter.unusedSimpArgs false
set_option linter.unusedVariables false
namespace Go.Proofs.YtblgchhmcifdgaaGreatDoor
open Go.RowKit Go.Grid Go.Maps Go.Sort Go.Shelf

theorem mem_comp_of {d : List I2} : ∀ {j : Nat} (hj : j < d.length), d[j] ∈ comp d d.length := by
  intro j
  induction j with
  | zero => exact fun hj => List.mem_map.2 ⟨0, List.mem_filter.2 ⟨List.mem_range.2 hj, by simp [newAt]⟩, by simp [List.getD, List.getElem?_eq_getElem hj]⟩
  | succ j ih =>
    intro hj
    by_cases hn : newAt d (j + 1) = true
    · exact List.mem_map.2 ⟨j + 1, List.mem_filter.2 ⟨List.mem_range.2 hj, hn⟩, by simp [List.getD, List.getElem?_eq_getElem hj]⟩
    · have h1 : d[j + 1]? = d[j]? := by simpa [newAt] using hn
      rw [List.getElem?_eq_getElem hj, List.getElem?_eq_getElem (show j < d.length by omega)] at h1
      rw [Option.some.inj h1]; exact ih (by omega)
theorem eds_in {n : Nat} {c : I3} (hc : c ∈ cells3 n) {e : I2} (he : e ∈ eds c) : e ∈ edgesL n := by
  have h1 : c ∈ cellsS n := List.mem_mergeSort.2 hc
  have h2 : e ∈ edRaw n := by unfold edRaw edTo; rw [List.take_length]; exact List.mem_flatMap.2 ⟨c, h1, he⟩
  have h3 : e ∈ sort2 (edRaw n) := List.mem_mergeSort.2 h2
  obtain ⟨j, hj, rfl⟩ := List.getElem_of_mem h3
  exact mem_comp_of hj
/-- What stays the same along the edges. -/
def FlatE (n : Nat) (x : List Int) : Prop := ∀ e ∈ edgesL n, x.getD e.1.toNat 0 = x.getD e.2.toNat 0
theorem cell_flat {n : Nat} {x : List Int} (h : FlatE n x) {u v z : Int} (hc : sorted [u, v, z] ∈ cellsRaw n) : x.getD u.toNat 0 = x.getD z.toNat 0 ∧ x.getD v.toNat 0 = x.getD z.toNat 0 := by
  have hp := sorted_perm [u, v, z]
  have hl := hp.length_eq
  generalize sorted [u, v, z] = c at *
  match c, hl with
  | [c0, c1, c2], _ =>
    have hm : (c0, c1, c2) ∈ cells3 n := List.mem_map.2 ⟨_, hc, rfl⟩
    have h1 := h _ (eds_in hm (e := (c0, c1)) (by simp [eds]))
    have h2 := h _ (eds_in hm (e := (c0, c2)) (by simp [eds]))
    dsimp only at h1 h2
    have key : ∀ i ∈ [c0, c1, c2], x.getD i.toNat 0 = x.getD c0.toNat 0 := by
      intro i hi
      simp only [List.mem_cons, List.not_mem_nil, or_false] at hi
      rcases hi with rfl | rfl | rfl
      · rfl
      · exact h1.symm
      · exact h2.symm
    have ku := key u (hp.mem_iff.2 (by simp))
    have kv := key v (hp.mem_iff.2 (by simp))
    have kz := key z (hp.mem_iff.2 (by simp))
    exact ⟨ku.trans kz.symm, kv.trans kz.symm⟩
def xAt (n : Nat) (x : List Int) (p : Pl) : Int := x.getD (atL n p) 0
theorem up_flat {n f a b : Nat} {x : List Int} (h : FlatE n x) (hf : f < 20) (hab : a + b < n) :
    xAt n x (lat n f (a + 1) b) = xAt n x (lat n f a b) ∧ xAt n x (lat n f a (b + 1)) = xAt n x (lat n f a b) := by
  have hc : tri (nodesL n) ⟨f, a * hh n + hh n, b * hh n, (n - 1 - a - b) * hh n⟩ ⟨f, a * hh n, b * hh n + hh n, (n - 1 - a - b) * hh n⟩ ⟨f, a * hh n, b * hh n, (n - 1 - a - b) * hh n + hh n⟩ ∈ cellsRaw n := by
    simp only [cellsRaw, cF, cA, cB, List.mem_flatMap, List.mem_range]
    exact ⟨f, hf, a, by omega, b, by omega, by simp [cellsAt, cpos]⟩
  have e1 : (⟨f, a * hh n + hh n, b * hh n, (n - 1 - a - b) * hh n⟩ : Pl) = lat n f (a + 1) b := by
    unfold lat; rw [Nat.succ_mul, show n - (a + 1) - b = n - 1 - a - b by omega]
  have e2 : (⟨f, a * hh n, b * hh n + hh n, (n - 1 - a - b) * hh n⟩ : Pl) = lat n f a (b + 1) := by
    unfold lat; rw [Nat.succ_mul b, show n - a - (b + 1) = n - 1 - a - b by omega]
  have e3 : (⟨f, a * hh n, b * hh n, (n - 1 - a - b) * hh n + hh n⟩ : Pl) = lat n f a b := by
    unfold lat; rw [← Nat.succ_mul, show (n - 1 - a - b).succ = n - a - b by omega]
  rw [e1, e2, e3] at hc
  have := cell_flat h hc
  simpa [atI, xAt, atL] using this
theorem face_flat {n f : Nat} {x : List Int} (h : FlatE n x) (hf : f < 20) : ∀ a b, a + b ≤ n → xAt n x (lat n f a b) = xAt n x (lat n f 0 0)
  | 0, 0, _ => rfl
  | 0, b + 1, hab => by rw [(up_flat h hf (show 0 + b < n by omega)).2]; exact face_flat h hf 0 b (by omega)
  | a + 1, b, hab => by rw [(up_flat h hf (show a + b < n by omega)).1]; exact face_flat h hf a b (by omega)
/-- The three corners of a face. -/
def cor (f : Nat) : Nat → Pl
  | 0 => ⟨f, 840, 0, 0⟩
  | 1 => ⟨f, 0, 840, 0⟩
  | _ => ⟨f, 0, 0, 840⟩
theorem cor_flat {n f : Nat} {x : List Int} (hn : n * hh n = 840) (h : FlatE n x) (hf : f < 20) (u : Nat) : xAt n x (cor f u) = xAt n x (cor f 2) := by
  have e0 : lat n f 0 0 = ⟨f, 0, 0, 840⟩ := by unfold lat; simp [hn]
  have e1 : lat n f n 0 = ⟨f, 840, 0, 0⟩ := by unfold lat; simp [hn]
  have e2 : lat n f 0 n = ⟨f, 0, 840, 0⟩ := by unfold lat; simp [hn]
  have h1 := face_flat h hf n 0 (by omega)
  have h2 := face_flat h hf 0 n (by omega)
  rw [e0, e1] at h1
  rw [e0, e2] at h2
  match u with
  | 0 => exact h1
  | 1 => exact h2
  | _ + 2 => rfl
theorem cor_meet : ∀ f, f < 20 → 0 < f → ∃ g, g < f ∧ ∃ u, u < 3 ∧ ∃ v, v < 3 ∧ normal (cor f u) = normal (cor g v) := by decide +kernel
theorem face_one {n : Nat} {x : List Int} (hn : n * hh n = 840) (h : FlatE n x) : ∀ f, f < 20 → xAt n x (cor f 2) = xAt n x (cor 0 2) := by
  intro f
  induction f using Nat.strongRecOn with
  | ind f ih =>
    intro hf
    by_cases h0 : f = 0
    · rw [h0]
    · obtain ⟨g, hg, u, _, v, _, e⟩ := cor_meet f hf (by omega)
      have e' : xAt n x (cor f u) = xAt n x (cor g v) := by unfold xAt atL; rw [e]
      rw [← cor_flat hn h hf u, e', cor_flat hn h (by omega) v, ih g hg (by omega)]
/-- The grid hangs together: what stays the same along the edges is the same everywhere. -/
theorem flat_all {n : Nat} {x : List Int} (h1 : 1 ≤ n) (h2 : n ≤ 840) (hn : n * hh n = 840) (h : FlatE n x) {i : Nat} (hi : i < (nodesL n).length) : x.getD i 0 = xAt n x (cor 0 2) := by
  have hm := List.getElem_mem hi
  have hg := ix_get (sorted_nodes h1 h2) hi
  generalize (nodesL n)[i] = p at *
  obtain ⟨hm1, hm2⟩ := List.mem_filter.1 hm
  obtain ⟨f, a, b, hf, hab, rfl⟩ := mem_faces hm1
  have hnp : normal (lat n f a b) = lat n f a b := by simpa [isN] using hm2
  have e : atL n (lat n f a b) = i := by unfold atL; rw [hnp, hg]; rfl
  have e0 : lat n f 0 0 = cor f 2 := by unfold lat cor; simp [hn]
  have := face_flat h hf a b hab
  rw [e0, face_one hn h f hf] at this
  rw [← this, ← e]; rfl
theorem flat_iff {n : Nat} {x : List Int} (h1 : 1 ≤ n) (h2 : n ≤ 840) (hn : n * hh n = 840) (hl : x.length = (nodesL n).length) (h : FlatE n x) : ∀ a ∈ x, a = x.getD 0 0 := by
  intro a ha
  obtain ⟨i, hi, rfl⟩ := List.getElem_of_mem ha
  have e := flat_all h1 h2 hn h (i := i) (by omega)
  have e0 := flat_all h1 h2 hn h (i := 0) (by omega)
  rw [e0, ← e]; simp [List.getD, List.getElem?_eq_getElem hi]
end Go.Proofs.YtblgchhmcifdgaaGreatDoor

set_option linter.unusedSimpArgs false
set_option linter.unusedVariables false
namespace Go.Proofs.YtblgchhmcifdgaaGreatDoor
open Go.RowKit Go.Grid Go.Maps Go.Sort Go.Shelf

theorem mul_abs_le {x B : Int} (h1 : -B ≤ x) (h2 : x ≤ B) : x * x ≤ B * B := by
  rcases Int.le_total 0 x with h | h
  · exact Int.mul_le_mul h2 h2 h (by omega)
  · have := Int.mul_le_mul (show -x ≤ B by omega) (show -x ≤ B by omega) (by omega) (by omega)
    rwa [Int.neg_mul_neg] at this
theorem small_tail {a : Int} {x : List Int} (h : Small (a :: x)) : Small x := fun z hz => h z (List.mem_cons_of_mem _ hz)
theorem dot_bd : ∀ x : List Int, Small x → dotL x x ≤ (x.length : Int) * 1099511627776
  | [], _ => by simp [dotL]
  | a :: x, h => by
    have h1 := dot_bd x (small_tail h)
    have ha := h a (by simp)
    have h2 := mul_abs_le ha.1 ha.2
    simp only [dotL, List.length_cons]; omega
theorem small_get {x : List Int} (h : Small x) (i : Nat) : -1048576 ≤ x.getD i 0 ∧ x.getD i 0 ≤ 1048576 := by
  by_cases hi : i < x.length
  · rw [show x.getD i 0 = x[i] by simp [List.getD, List.getElem?_eq_getElem hi]]; exact h _ (List.getElem_mem hi)
  · rw [show x.getD i 0 = 0 by simp [List.getD, List.getElem?_eq_none (Nat.le_of_not_lt hi)]]; omega
theorem qf_bd {x : List Int} (h : Small x) : ∀ D : List I2, qf x x D ≤ (D.length : Int) * 4398046511104
  | [] => by simp [qf]
  | e :: D => by
    have h1 := qf_bd h D
    have a1 := small_get h e.1.toNat
    have a2 := small_get h e.2.toNat
    have h2 := mul_abs_le (x := x.getD e.1.toNat 0 - x.getD e.2.toNat 0) (B := 2097152) (by omega) (by omega)
    simp only [qf, List.length_cons]; omega
theorem qf_snoc (x u : List Int) (e : I2) : ∀ D, qf x u (D ++ [e]) = qf x u D + (x.getD e.1.toNat 0 - x.getD e.2.toNat 0) * (u.getD e.1.toNat 0 - u.getD e.2.toNat 0)
  | [] => by simp [qf]
  | _ :: D => by have := qf_snoc x u e D; simp only [List.cons_append, qf, this]; omega
theorem qf_take {x u : List Int} {D : List I2} {k : Nat} (hk : k < D.length) : qf x u (D.take (k + 1)) = qf x u (D.take k) + (x.getD D[k].1.toNat 0 - x.getD D[k].2.toNat 0) * (u.getD D[k].1.toNat 0 - u.getD D[k].2.toNat 0) := by
  rw [List.take_succ_eq_append_getElem hk, qf_snoc]
/-- The energy. -/
def energyL (s a : Int) (x : List Int) (D : List I2) : Int := a * dotL x x + s * qf x x D
theorem energy_dot (s a : Int) (x : List Int) (D : List I2) (hD : InR x.length D) : energyL s a x D = dotL x (applyL s a x D) := by
  rw [dotL_comm, dot_apply s a x x D rfl hD]; rfl
theorem prod_bd {a d A B : Int} (h1 : 0 ≤ a) (h2 : a ≤ A) (h3 : 0 ≤ d) (h4 : d ≤ B) : 0 ≤ a * d ∧ a * d ≤ A * B :=
  ⟨Int.mul_nonneg h1 h3, Int.mul_le_mul h2 h4 h3 (by omega)⟩
theorem energy_bd {s a : Int} {x : List Int} {D : List I2} (hs : 0 ≤ s ∧ s ≤ 1000000) (ha : 1 ≤ a ∧ a ≤ 1000000) (hx : Small x) (hn : x.length ≤ 1000) (hD : D.length ≤ 15000) :
    (0 ≤ a * dotL x x ∧ a * dotL x x ≤ 1099511627776000000000) ∧ 0 ≤ s * qf x x D ∧ s * qf x x D ≤ 65970697666560000000000 := by
  have h1 := dot_bd x hx
  have h2 := qf_bd hx D
  have h3 := prod_bd (a := a) (d := dotL x x) (A := 1000000) (B := 1099511627776000) (by omega) ha.2 (dot_nn x) (by omega)
  have h4 := prod_bd (a := s) (d := qf x x D) (A := 1000000) (B := 65970697666560000) (by omega) hs.2 (qf_nn x D) (by omega)
  exact ⟨⟨h3.1, by omega⟩, h4.1, by omega⟩
theorem energy_zero {s a : Int} {x : List Int} {D : List I2} (hs : 0 ≤ s) (ha : 1 ≤ a) : energyL s a x D = 0 ↔ ∀ z ∈ x, z = 0 := by
  constructor
  · intro h
    have h1 := Int.mul_nonneg (show 0 ≤ a by omega) (dot_nn x)
    have h2 := Int.mul_nonneg hs (qf_nn x D)
    unfold energyL at h
    rcases Int.mul_eq_zero.1 (show a * dotL x x = 0 by omega) with h3 | h3
    · omega
    · exact dot_zero x h3
  · intro h
    have hg : ∀ i, x.getD i 0 = 0 := by
      intro i
      by_cases hi : i < x.length
      · rw [show x.getD i 0 = x[i] by simp [List.getD, List.getElem?_eq_getElem hi]]; exact h _ (List.getElem_mem hi)
      · simp [List.getD, List.getElem?_eq_none (Nat.le_of_not_lt hi)]
    unfold energyL
    rw [dot_zeros x h, qf_flat x D (fun e _ => by rw [hg, hg])]; simp
/-- The parts of the integers of 128 bits tell them apart. -/
theorem wide_ne {p q : Int} (hp : -85070591730234615865843651857942052864 ≤ p) (hp' : p ≤ 85070591730234615865843651857942052864) (hq : -85070591730234615865843651857942052864 ≤ q) (hq' : q ≤ 85070591730234615865843651857942052864) (h : p ≠ q) :
    wrap64 (p / 18446744073709551616) ≠ wrap64 (q / 18446744073709551616) ∨ wrap64 (p / 18446744073709551616) = wrap64 (q / 18446744073709551616) ∧ p % 18446744073709551616 ≠ q % 18446744073709551616 := by
  unfold wrap64; omega
end Go.Proofs.YtblgchhmcifdgaaGreatDoor
