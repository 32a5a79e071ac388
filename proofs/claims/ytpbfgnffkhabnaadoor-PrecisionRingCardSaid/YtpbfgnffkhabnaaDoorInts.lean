import Derived.Test.YtpbfgnffkhabnaaDoorProg
import Derived.Test.YtpbfgnffkhabnaaDoorLaid
import Derived.Test.YtpbfgnffkhabnaaDoorRw
import Derived.WalkKit
import Derived.Maps.AppendAt
set_option linter.unusedSimpArgs false
set_option linter.unusedVariables false
namespace Go.Proofs.YtpbfgnffkhabnaaDoor
open Go.RowKit Go.Sort Go.Shelf

/-- Numbers that lie in a row of cells and can be written. -/
def IntsAt (w : World) (b o : Nat) (zs : List Int) : Prop := ∀ j (h : j < zs.length), w.cell? ⟨b, o + j, none⟩ = some (.int .i64 zs[j]) ∧ w.frozen? ⟨b, o + j, none⟩ = false
theorem IntsAt.holds {w : World} {b o : Nat} {zs : List Int} (h : IntsAt w b o zs) : Holds (Value.int .i64) w b o zs.toArray := by
  intro j hj
  have hj' : j < zs.length := by simpa using hj
  rw [getElem!_pos zs.toArray j hj]
  simpa using h j hj'
theorem ints_of_holds {w : World} {b o : Nat} {zs : List Int} (h : Holds (Value.int .i64) w b o zs.toArray) : IntsAt w b o zs := by
  intro j hj
  have hj' : j < zs.toArray.size := by simpa using hj
  have := h j hj'
  rw [getElem!_pos zs.toArray j hj'] at this
  simpa using this
theorem IntsAt.block {w w' : World} {b o : Nat} {zs : List Int} (h : IntsAt w b o zs) (hb : w'.heap[b]? = w.heap[b]?) : IntsAt w' b o zs := fun j hj =>
  ⟨(World.cell?_of_block hb).trans (h j hj).1, (World.frozen?_of_block hb).trans (h j hj).2⟩

def sorted (zs : List Int) : List Int := zs.mergeSort fun x y => decide (x ≤ y)
theorem sorted_perm (zs : List Int) : (sorted zs).Perm zs := List.mergeSort_perm _ _
theorem sorted_pair (zs : List Int) : (sorted zs).Pairwise (· ≤ ·) := by
  have := List.pairwise_mergeSort (le := fun x y : Int => decide (x ≤ y)) (fun a b c => by simp; omega) (fun a b => by simp; omega) zs
  exact this.imp (fun h => by simpa using h)
theorem sorted_len (zs : List Int) : (sorted zs).length = zs.length := (sorted_perm zs).length_eq

theorem sortInts_any (b o cap : Nat) (p : Option Addr) (zs : List Int) (w : World) (hp : 0 < zs.length → p = some ⟨b, o, none⟩) (h : IntsAt w b o zs) (hsz : zs.length < 4611686018427387904) :
    Calls Tryd.prog 97 #[.slice p zs.length cap] w fun e w' => e = .returned (.tuple #[]) ∧ w.grownBy w' (some b) ∧ IntsAt w' b o (sorted zs) := by
  by_cases h0 : 0 < zs.length
  · obtain rfl := hp h0
    have hblk : b < w.heap.size := World.block_lt_of_cell? w _ (h 0 h0).1
    refine (Tryd.slices_Sort_int b o cap zs w h.holds hblk hsz).mono ?_
    rintro e w' ⟨rfl, n, os, rfl⟩
    refine ⟨rfl, ?_, ?_⟩
    · refine ⟨rfl, rfl, rfl, ?_, fun k hk hne => ?_⟩
      · simp [grow, putRow, mapBlock, Sort.ahead]
      · have hne' : b ≠ k := fun e => hne (by rw [e])
        show (w.heap.modify b _ ++ os)[k]? = w.heap[k]?
        rw [Array.getElem?_append_left (by simpa using hk), Array.getElem?_modify, if_neg hne']
    · refine ints_of_holds (holds_grow _ _ _ _ _ _ (by simp [Sort.ahead]; exact hblk) ?_)
      exact holds_putRow _ _ _ _ zs.toArray _ (holds_ahead _ _ n _ _ _ h.holds) (by simp)
  · obtain rfl : zs = [] := List.eq_nil_of_length_eq_zero (by omega)
    refine (Tryd.slices_Sort_int_none p cap w).mono ?_
    rintro e w' ⟨rfl, rfl⟩
    exact ⟨rfl, World.grownBy.refl _ _, fun j hj => by simp [sorted] at hj⟩
end Go.Proofs.YtpbfgnffkhabnaaDoor
