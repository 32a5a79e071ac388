import Derived.Test.YtgemfgfhdbkgfaaBoth
import Derived.ProofKit
import Derived.OpenShut
import Derived.Lib.SmallJoins
import Derived.Deep.Slices
set_option linter.unusedSimpArgs false
set_option linter.unusedVariables false
namespace Go.Proofs.Ytgemfgfhdbkgfaa
open Go.ChangeShapes Go.WideShapes Go.ChangeAt Go.RowKit Go.Joins Go.Deep

theorem cellsU8 : Try.prog.cellsOf 5 = 1 := by kernel_rfl
theorem cellsPart : Try.prog.cellsOf 28 = 4 := by kernel_rfl

/-- A list of codes that came in. -/
theorem open_codes {H : Type} {enc : TypeId × Value → H} {W : World} {r : Reach} {base : Nat} {v : Value} {d : DataW H} {p : List MemPlace} (hval : Value.okWide Try.prog W r base 39 v) (h : DataW.Trod enc Try.prog W 0 (fun _ => true) true 39 v d p) :
    ∃ (pc : Option Addr) (cap cb co : Nat) (L : List Int), v = .slice pc L.length cap ∧ (0 < L.length → pc = some ⟨cb, co, none⟩) ∧ L.length ≤ cap ∧ cap ≤ 9223372036854775807 ∧ ∀ k (h : k < L.length), W.cell? ⟨cb, co + k, none⟩ = some (.int .u8 L[k]) ∧ 0 ≤ L[k] ∧ L[k] < 256 := by
  obtain ⟨a0, len, cap, rfl⟩ := okWide_slice Try.underlying39 hval
  obtain ⟨fuel, hf⟩ := h
  rcases open_ints Try.underlying39 Try.underlying5 cellsU8 hf with ⟨hcs, hx⟩ | ⟨a, len', cap', zs, hcs, _, hl, hm, hz, hx, hcell, hwz⟩
  · simp [Value.cells] at hcs
    obtain ⟨rfl, rfl, rfl⟩ := hcs
    exact ⟨none, 0, 0, 0, [], rfl, by simp, by simp, by omega, fun k hk => by simp at hk⟩
  · simp [Value.cells] at hcs
    obtain ⟨rfl, rfl, rfl⟩ := hcs
    simp only [if_true] at hz
    have hlen : (zs.take len).length = len := by simp; omega
    have hmax : maxLen ≤ 9223372036854775807 := by decide
    refine ⟨some a, cap, a.block, a.off, zs.take len, by rw [hlen], fun h0 => ?_, by omega, by omega, fun k hk => ?_⟩
    · rw [hlen] at h0
      obtain ⟨ab, ao, spot⟩ := a
      have hspot : spot = none := by simpa [Addr.add] using World.cell?_spot (hcell 0 (by omega))
      subst hspot
      rfl
    · rw [hlen] at hk
      have hc := hcell k (by omega)
      obtain ⟨ab, ao, spot⟩ := a
      have hspot : spot = none := by simpa [Addr.add] using World.cell?_spot (hcell 0 (by omega))
      subst hspot
      have hk2 : k < zs.length := by omega
      have ha : (⟨ab, ao, none⟩ : Addr).add k = ⟨ab, ao + k, none⟩ := by
        unfold Addr.add
        by_cases h0 : k = 0 <;> simp [h0]
      rw [ha] at hc
      have hg : zs.getD k 0 = zs[k] := by simp [List.getD, hk2]
      have hw := bounds_u8 (hwz zs[k] (List.getElem_mem _))
      rw [List.getElem_take]
      refine ⟨by rw [hc, hg], by omega, by omega⟩

/-- A list of parts that came in. -/
theorem open_partsArg {H : Type} {enc : TypeId × Value → H} {W : World} {r : Reach} {base : Nat} {v : Value} {d : DataW H} {p : List MemPlace} (hval : Value.okWide Try.prog W r base 23 v) (h : DataW.Trod enc Try.prog W 0 (fun _ => true) true 23 v d p) :
    ∃ (pc : Option Addr) (cap rb ro : Nat) (l : List Pt), v = .slice pc l.length cap ∧ (0 < l.length → pc = some ⟨rb, ro, none⟩) ∧ l.length ≤ cap ∧ cap ≤ 9223372036854775807 ∧ PartsAt W rb ro l := by
  obtain ⟨a0, len, cap, rfl⟩ := okWide_slice Try.underlying23 hval
  obtain ⟨fuel, hf⟩ := h
  rcases open_slice Try.underlying23 hf with ⟨hcs, hx⟩ | ⟨a, len', cap', m, n, D, Pl, hcs, _, hl, hm, hmm, hx, hel⟩
  · simp [Value.cells] at hcs
    obtain ⟨rfl, rfl, rfl⟩ := hcs
    exact ⟨none, 0, 0, 0, [], rfl, by simp, by simp, by omega, ⟨fun k hk => by simp at hk, fun k hk => by simp at hk, fun k hk => by simp at hk, fun k hk => by simp at hk⟩⟩
  · simp [Value.cells] at hcs
    obtain ⟨rfl, rfl, rfl⟩ := hcs
    simp only [if_true] at hmm
    have hmax : maxLen ≤ 9223372036854775807 := by decide
    have each : ∀ i, i < len → ∃ x0 x1 x2 x3 : Int, W.cell? (a.add (i * 4 + 0)) = some (.int .i64 x0) ∧ W.cell? (a.add (i * 4 + 1)) = some (.int .i64 x1) ∧ W.cell? (a.add (i * 4 + 2)) = some (.int .i64 x2) ∧ W.cell? (a.add (i * 4 + 3)) = some (.int .i64 x3) := by
      intro i hi
      obtain ⟨cs', hc, ht⟩ := hel i (by omega)
      rw [cellsPart] at hc
      obtain ⟨y0, y1, y2, y3, n', hx', hln, h0, h1, h2, h3⟩ := trod_struct4 Try.underlying28 ht
      obtain ⟨_, hcl, hcc⟩ := World.cells?_some hc
      match cs', hcl with
      | [q0, q1, q2, q3], _ =>
        have ci : Try.prog.cellsOf 3 = 1 := by kernel_rfl
        obtain ⟨b0, e0, _, _⟩ := DataW.trod_int Try.underlying3 h0
        obtain ⟨b1, e1, _, _⟩ := DataW.trod_int Try.underlying3 h1
        obtain ⟨b2, e2, _, _⟩ := DataW.trod_int Try.underlying3 h2
        obtain ⟨b3, e3, _, _⟩ := DataW.trod_int Try.underlying3 h3
        rw [ci] at e0 e1 e2 e3
        simp at e0 e1 e2 e3
        subst e0 e1 e2 e3
        refine ⟨b0, b1, b2, b3, ?_, ?_, ?_, ?_⟩ <;> rw [← Go.Deep.add_add]
        · simpa using hcc 0 (by omega)
        · simpa using hcc 1 (by omega)
        · simpa using hcc 2 (by omega)
        · simpa using hcc 3 (by omega)
    have form : 0 < len → ∃ ab ao, a = ⟨ab, ao, none⟩ := fun h0 => by
      obtain ⟨x0, _, _, _, hc, _⟩ := each 0 h0
      obtain ⟨ab, ao, spot⟩ := a
      have hspot : spot = none := by simpa [Addr.add] using World.cell?_spot hc
      exact ⟨ab, ao, by rw [hspot]⟩
    by_cases h0 : 0 < len
    · obtain ⟨ab, ao, rfl⟩ := form h0
      have hadd : ∀ k, (⟨ab, ao, none⟩ : Addr).add k = ⟨ab, ao + k, none⟩ := fun k => by
        unfold Addr.add
        by_cases h0 : k = 0 <;> simp [h0]
      simp only [hadd] at each
      classical
      have each' : ∀ i, ∃ x : Pt, i < len → W.cell? ⟨ab, ao + (i * 4 + 0), none⟩ = some (.int .i64 x.a) ∧ W.cell? ⟨ab, ao + (i * 4 + 1), none⟩ = some (.int .i64 x.b) ∧ W.cell? ⟨ab, ao + (i * 4 + 2), none⟩ = some (.int .i64 x.c) ∧ W.cell? ⟨ab, ao + (i * 4 + 3), none⟩ = some (.int .i64 x.d) := fun i => by
        by_cases hi : i < len
        · obtain ⟨x0, x1, x2, x3, h⟩ := each i hi
          exact ⟨⟨x0, x1, x2, x3⟩, fun _ => h⟩
        · exact ⟨⟨0, 0, 0, 0⟩, fun h => absurd h hi⟩
      let f : Nat → Pt := fun i => (each' i).choose
      have hf' : ∀ i, i < len → _ := fun i => (each' i).choose_spec
      refine ⟨some ⟨ab, ao, none⟩, cap, ab, ao, (List.range len).map f, by simp, fun _ => rfl, by simp; omega, by omega, ?_, ?_, ?_, ?_⟩ <;> intro k hk <;> simp at hk <;> simp only [List.getElem_map, List.getElem_range]
      · exact (hf' k hk).1
      · rw [Nat.add_assoc]; exact (hf' k hk).2.1
      · rw [Nat.add_assoc]; exact (hf' k hk).2.2.1
      · rw [Nat.add_assoc]; exact (hf' k hk).2.2.2
    · obtain rfl : len = 0 := by omega
      exact ⟨some a, cap, 0, 0, [], rfl, by simp, by simp, by omega, ⟨fun k hk => by simp at hk, fun k hk => by simp at hk, fun k hk => by simp at hk, fun k hk => by simp at hk⟩⟩
end Go.Proofs.Ytgemfgfhdbkgfaa
