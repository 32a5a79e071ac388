import Derived.Test.YtgemfgfhdbkgfaaDelete
import Derived.Test.YtgemfgfhdbkgfaaLaidSort
set_option linter.unusedSimpArgs false
set_option linter.unusedVariables false
namespace Go.Proofs.Ytgemfgfhdbkgfaa
open Go.RowKit Go.Sort Go.Shelf

def encPair (x : Int × Int) : List Value := [.int .i64 x.1, .int .i64 x.2]
def cfPair (x y : Int × Int) : Int := sgn x.1 y.1
theorem ltPair (x y : Int × Int) : ltOf cfPair x y = decide (x.1 < y.1) := by
  unfold ltOf cfPair sgn
  by_cases h1 : x.1 < y.1
  · simp [h1]
  · by_cases h2 : y.1 < x.1 <;> simp [h1, h2]
theorem swoPair : SWO (ltOf cfPair) where
  irrefl := fun x => by rw [ltPair]; simp
  trans := fun x y z => by simp only [ltPair, decide_eq_true_eq]; omega
  ntrans := fun x y z => by simp only [ltPair, decide_eq_false_iff_not]; omega

theorem less_any (x y : Int × Int) (W : World) : Calls Try.prog 36 #[.agg #[.int .i64 x.1, .int .i64 x.2], .agg #[.int .i64 y.1, .int .i64 y.2]] W fun e w' => e = .returned (.int .i64 (cfPair x y)) ∧ ∃ q os', w' = grow (W.drewN q) os' := by
  have hcon := fun W' => cmp_int x.1 y.1 W'
  unfold cfPair
  go_enter Try.func36, Try.ntmps36
  go_wp2_with fail
  refine (hcon _).mono ?_
  rintro e w1 ⟨rfl, rfl⟩
  go_wp2
  go_ret
  exact ⟨rfl, 0, _, by rw [alloc_eq_grow, alloc_eq_grow, grow_grow]; rfl⟩
theorem enters_less : ∀ args w, (callFunc 36 args).run Try.prog w = .ok (.enter 36 args) w := enters_of Try.func36 (by kernel_rfl) rfl

theorem holds_pairs {w : World} {g : Nat} {d : List (Int × Int)} (h : PairsAt w g d) : HoldsK encPair 2 w g 0 d.toArray := by
  intro j hj
  have hj' : j < d.length * 2 := by simpa using hj
  rw [get_flatK _ _ _ _ (by simpa using hj')]
  have e1 : d.toArray[j / 2]! = d[j / 2] := by rw [getElem!_pos d.toArray (j / 2) (by simp; omega)]; simp
  rw [e1]
  rcases Nat.mod_two_eq_zero_or_one j with h2 | h2
  · have ej : j = j / 2 * 2 := by omega
    rw [h2, Nat.zero_add]
    have c := h.c0 (j / 2) (by omega)
    have f := h.f0 (j / 2) (by omega)
    rw [← ej] at c f
    exact ⟨c, f⟩
  · have ej : j = j / 2 * 2 + 1 := by omega
    rw [h2, Nat.zero_add]
    have c := h.c1 (j / 2) (by omega)
    have f := h.f1 (j / 2) (by omega)
    rw [← ej] at c f
    exact ⟨c, f⟩
theorem pairs_holds {w : World} {g : Nat} {d : Array (Int × Int)} (h : HoldsK encPair 2 w g 0 d) : PairsAt w g d.toList := by
  have key : ∀ k (hk : k < d.toList.length), (w.cell? ⟨g, k * 2, none⟩ = some (.int .i64 d.toList[k].1) ∧ w.frozen? ⟨g, k * 2, none⟩ = false) ∧ (w.cell? ⟨g, k * 2 + 1, none⟩ = some (.int .i64 d.toList[k].2) ∧ w.frozen? ⟨g, k * 2 + 1, none⟩ = false) := by
    intro k hk
    have hk' : k < d.size := by simpa using hk
    have e : ∀ j, j / 2 = k → d[j / 2]! = d.toList[k] := fun j hj => by rw [hj, getElem!_pos d k hk']; simp
    have h0 := h (k * 2) (by rw [size_flatK]; omega)
    have h1 := h (k * 2 + 1) (by rw [size_flatK]; omega)
    rw [get_flatK _ _ _ _ (by omega), e _ (by omega), show k * 2 % 2 = 0 by omega, Nat.zero_add] at h0
    rw [get_flatK _ _ _ _ (by omega), e _ (by omega), show (k * 2 + 1) % 2 = 1 by omega, Nat.zero_add] at h1
    exact ⟨h0, h1⟩
  exact ⟨fun k hk => (key k hk).1.1, fun k hk => (key k hk).2.1, fun k hk => (key k hk).1.2, fun k hk => (key k hk).2.2⟩

theorem grownBy_sortWorld (w : World) (g n : Nat) (d' : Array (Int × Int)) (os : Array Obj) : w.grownBy (sortWorldK encPair 2 w g 0 n d' os) (some g) := by
  refine ⟨rfl, rfl, rfl, size_sortWorldK_c _ _ _ _ _ _ _ _, fun k hk hne => ?_⟩
  have hne' : g ≠ k := fun e => hne (by rw [e])
  show (w.heap.modify g _ ++ os)[k]? = w.heap[k]?
  rw [Array.getElem?_append_left (by simpa using hk), Array.getElem?_modify, if_neg hne']

theorem sort_any (w : World) (g : Nat) (d : List (Int × Int)) (p : Option Addr) (cap : Nat) (hp : 0 < d.length → p = some ⟨g, 0, none⟩) (h : PairsAt w g d) (hcap : d.length ≤ cap) (hcap' : d.length ≤ 4611686018427387903) :
    Calls Try.prog 35 #[.slice p d.length cap, .func (.func 36) #[] #[]] w fun e w' => e = .returned (.tuple #[]) ∧ w.grownBy w' (some g) ∧ ∃ d', d'.Perm d ∧ d'.Pairwise (fun x y => x.1 ≤ y.1) ∧ PairsAt w' g d' := by
  by_cases h0 : 0 < d.length
  · obtain rfl := hp h0
    have hblk : g < w.heap.size := World.block_lt_of_cell? w _ (h.c0 0 h0)
    have hs := AnyQ.slices_SortFunc Try.sortL 2 Try.isAgg60 Try.sizeOf60 encPair (fun _ => rfl) (fun x v hv => by simp [encPair] at hv; rcases hv with rfl | rfl <;> rfl) cfPair swoPair 36 #[] g 0 cap d.toArray w enters_less (fun _ _ _ _ x y => less_any x y _) (holds_pairs h) hblk (by simp; omega)
    rw [show d.toArray.size = d.length by simp] at hs
    change Calls Try.prog 35 _ _ _ at hs
    refine hs.mono ?_
    rintro e w' ⟨rfl, d', n, os, hperm, hsort, rfl⟩
    refine ⟨rfl, ?_, d'.toList, ?_, ?_, ?_⟩
    · exact grownBy_sortWorld _ _ _ _ _
    · have h1 := hperm.1
      have h2 := hperm.2.2
      have h3 : d'.extract 0 d.length = d' := by rw [show d.length = d'.size by simp [h1]]; simp
      rw [h3] at h2
      simpa using h2
    · have h1 := hperm.1
      rw [List.pairwise_iff_getElem]
      intro i j hi hj hij
      have hi' : i < d'.size := by simpa using hi
      have hj' : j < d'.size := by simpa using hj
      have h2 := hsort i j (Nat.zero_le _) hij (by rw [h1] at hj'; simpa using hj')
      rw [ltPair, getElem!_pos d' j hj', getElem!_pos d' i hi'] at h2
      simp at h2
      simpa using h2
    · exact pairs_holds (holdsK_sortWorldK encPair 2 w g 0 n d.toArray d' os hblk (holds_pairs h) (by simpa using hperm.1))
  · obtain rfl : d = [] := List.eq_nil_of_length_eq_zero (by omega)
    refine (AnyF.slices_SortFunc_none Try.sortL p cap _ w).mono ?_
    rintro e w' ⟨rfl, rfl⟩
    exact ⟨rfl, World.grownBy.refl _ _, [], List.Perm.refl _, List.Pairwise.nil, h⟩
end Go.Proofs.Ytgemfgfhdbkgfaa
