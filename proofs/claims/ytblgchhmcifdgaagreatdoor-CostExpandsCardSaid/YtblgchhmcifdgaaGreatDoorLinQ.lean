import Derived.Test.YtblgchhmcifdgaaGreatDoorKInts
import Derived.Test.YtblgchhmcifdgaaGreatDoorKCodes
import Derived.Test.YtblgchhmcifdgaaGreatDoorKLin
import Derived.Test.YtblgchhmcifdgaaGreatDoorKDot
import Derived.Test.YtblgchhmcifdgaaGreatDoorApply
set_option linter.unusedSimpArgs false
set_option linter.unusedVariables false
namespace Go.Proofs.YtblgchhmcifdgaaGreatDoor
open Go.RowKit Go.Grid Go.Maps Go.Sort Go.Shelf

theorem edges_InR {f : Nat} (h1 : 1 ≤ f) (h2 : f ≤ 8) {x : List Int} (hx : (x.length : Int) = 10 * f * f + 2) : InR x.length (edgesL f) := by
  have hM : ((nodesL f).length : Int) = (x.length : Int) := by rw [nodes_len h1 h2, hx]; simp
  intro e he
  obtain ⟨g1, g2, g3, g4⟩ := edges_in h1 h2 e he
  rw [hM] at g2 g4
  omega
theorem halves_len (zs : List Int) : (halvesL zs).length = zs.length := by simp [halvesL]
theorem tdiv2_bd {x : Int} {m : Nat} (h1 : -(2 * m : Int) ≤ x) (h2 : x ≤ 2 * m) : -(m : Int) ≤ x.tdiv 2 ∧ x.tdiv 2 ≤ m := by
  have e : x.tdiv 2 = x / 2 + (if 0 ≤ x ∨ (2 : Int) ∣ x then 0 else 1) := Int.tdiv_eq_ediv
  rw [e]; split <;> omega
theorem halves_within {zs : List Int} (h : Within 1048576 zs) : Within 524288 (halvesL zs) := by
  intro y hy
  obtain ⟨x, hx, rfl⟩ := List.mem_map.1 hy
  have := h x hx
  exact tdiv2_bd (m := 524288) (by omega) (by omega)
theorem mem_addL : ∀ {x y : List Int} {z : Int}, z ∈ addL x y → ∃ a b, a ∈ x ∧ b ∈ y ∧ z = a + b
  | [], _, _, h => by simp [addL] at h
  | _ :: _, [], _, h => by simp [addL] at h
  | a :: x, b :: y, z, h => by
    simp only [addL, List.zipWith_cons_cons, List.mem_cons] at h
    rcases h with rfl | h
    · exact ⟨a, b, by simp, by simp, rfl⟩
    · obtain ⟨c, d, h1, h2, h3⟩ := mem_addL (x := x) (y := y) h
      exact ⟨c, d, List.mem_cons_of_mem _ h1, List.mem_cons_of_mem _ h2, h3⟩
theorem addL_within {m : Nat} {x y : List Int} (hx : Within m x) (hy : Within m y) : Within (m + m) (addL x y) := by
  intro z hz
  obtain ⟨a, b, ha, hb, rfl⟩ := mem_addL hz
  have := hx a ha
  have := hy b hb
  omega
theorem small_within {zs : List Int} (h : Within 1048576 zs) : Small zs := fun x hx => by have := h x hx; omega
/-- The elements of a product are at most so great. -/
theorem apply_within {f : Nat} {s a : Int} {x : List Int} (h2 : f ≤ 8) (hs : 0 ≤ s ∧ s ≤ 1000000) (ha : 1 ≤ a ∧ a ≤ 1000000) (hx : Small x) : Within 70000000000000000 (applyL s a x (edgesL f)) := by
  have hb := applyTo_bd (D := edgesL f) hs ha hx (edgesL f).length (Nat.le_refl _)
  have hl := edges_len (n := f) h2
  intro y hy
  have := hb y hy
  omega
theorem i64_within {m : Nat} {zs : List Int} (h : Within m zs) (hm : m ≤ 9223372036854775807) : I64L zs := fun x hx => by have := h x hx; omega
theorem sumL_bd {m : Nat} : ∀ {zs : List Int}, Within m zs → -((zs.length : Int) * m) ≤ sumL zs ∧ sumL zs ≤ (zs.length : Int) * m
  | [], _ => by simp [sumL]
  | a :: x, h => by
    have h1 := sumL_bd (zs := x) (fun z hz => h z (List.mem_cons_of_mem _ hz))
    have h2 := h a (by simp)
    simp only [sumL, List.length_cons]
    rw [show ((x.length + 1 : Nat) : Int) * (m : Int) = (x.length : Int) * m + m by rw [Int.natCast_add, Int.add_mul]; simp]
    omega
theorem sumL_snoc (a : Int) : ∀ x : List Int, sumL (x ++ [a]) = sumL x + a
  | [] => by simp [sumL]
  | b :: x => by simp only [List.cons_append, sumL, sumL_snoc a x]; omega
theorem sumL_take {x : List Int} {k : Nat} (hk : k < x.length) : sumL (x.take (k + 1)) = sumL (x.take k) + x[k] := by
  rw [List.take_succ_eq_append_getElem hk, sumL_snoc]
theorem within_take {m : Nat} {zs : List Int} (h : Within m zs) (k : Nat) : Within m (zs.take k) := fun x hx => h x (List.mem_of_mem_take hx)
theorem sumTo_bd {m : Nat} {zs : List Int} (h : Within m zs) (hl : zs.length ≤ 100) (hm : m ≤ 70000000000000000) (k : Nat) : -7000000000000000000 ≤ sumL (zs.take k) ∧ sumL (zs.take k) ≤ 7000000000000000000 := by
  have h1 := sumL_bd (within_take h k)
  have h2 : (zs.take k).length ≤ 100 := by simp; omega
  have h3 : ((zs.take k).length : Int) * m ≤ 100 * 70000000000000000 := Int.mul_le_mul (by omega) (by omega) (by omega) (by omega)
  omega
theorem prc_ok {f s a : Int} (h : PrC f s a) : PrOk f s a ∧ ∃ n : Nat, f = n ∧ 1 ≤ n ∧ n ≤ 2 := by
  obtain ⟨⟨h1, h2⟩, h3, h4⟩ := h
  simp only [smooths, anchors, List.mem_cons, List.not_mem_nil, or_false] at h3 h4
  refine ⟨⟨h1, by omega, by omega, by omega, by omega, by omega⟩, f.toNat, by omega, by omega, by omega⟩
theorem RowV.keepB {w w' : World} {base : Nat} {v : Value} {zs : List Int} (h : RowV w base v zs) (hb : Below w.heap.size w w') : RowV w' base v zs :=
  h.kept (grw_below hb none) (fun k hk => by cases hk)
theorem vec_of_ints {w : World} {b : Nat} {zs : List Int} (h : IntsAt w b 0 zs) : VecAt w (some ⟨b, 0, none⟩) zs := ⟨b, 0, fun _ => rfl, fun j hj => (h j hj).1⟩
theorem RowV.vecAt {w : World} {base : Nat} {p : Option Addr} {n c : Nat} {zs : List Int} (h : RowV w base (.slice p n c) zs) : VecAt w p zs := by
  obtain ⟨p', cap', e, hv⟩ := h.vec
  injection e with e1
  rw [e1]; exact hv
/-! The contracts with the lengths as letters. -/
theorem apply_at (f : Nat) (s a : Int) (p : Option Addr) (zs : List Int) (cap n : Nat) (w : World) (hn : zs.length = n) (hT : HasTab w) (hV : VecAt w p zs) (hok : VecOk f s a zs) :
    Calls Tryz.prog 40 #[prv f s a, .slice p n cap] w fun e w' => ∃ N, e = .returned (.tuple #[.slice (some ⟨N, 0, none⟩) n n, .int .i64 0]) ∧ VecAt w' (some ⟨N, 0, none⟩) (applyL s a zs (edgesL f)) ∧ Below w.heap.size w w' := by
  subst hn
  refine (apply_ok f s a p zs cap w hT hV hok).mono ?_
  rintro e w' ⟨N, he, hI, _, hb⟩
  exact ⟨N, he, vec_of_ints hI, hb⟩
theorem kints_at (p q : Option Addr) (zs ys : List Int) (cz cy n : Nat) (w : World) (h1 : zs.length = n) (h2 : ys.length = n) (hV : VecAt w p zs) (hU : VecAt w q ys) (hl : n ≤ 1000) :
    Calls Tryz.prog 27 #[.slice p n cz, .slice q n cy] w fun e w' => e = .returned (.bool (decide (zs = ys))) ∧ Below w.heap.size w w' := by
  subst h1; exact kints_len p q zs ys cz cy w hV hU h2.symm (by omega)
theorem dot_at (p q : Option Addr) (zs ys : List Int) (cz cy n : Nat) (w : World) (h1 : zs.length = n) (h2 : ys.length = n) (hV : VecAt w p zs) (hU : VecAt w q ys) (hl : n ≤ 1000) (bz : I64L zs) (bY : I64L ys) :
    Calls Tryz.prog 34 #[.slice p n cz, .slice q n cy] w fun e w' => e = .returned (.tuple #[wv (dotL zs ys), .int .i64 0]) ∧ Below w.heap.size w w' := by
  subst h1; exact dot_ok p q zs ys cz cy w hV hU h2.symm (by omega) bz bY
end Go.Proofs.YtblgchhmcifdgaaGreatDoor
